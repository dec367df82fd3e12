/-
  Part of a proof by the engine: texts that a program of ours printed, or plain lemmas on them. No condition but what each theorem says.
-/
import Derived.Test.YtondfjckadlabaaDoorNR
import Derived.Test.YtondfjckadlabaaDoorFT
set_option linter.unusedVariables false
set_option linter.unusedSimpArgs false
namespace Go.Proofs.YtondfjckadlabaaDoor.NR
open Go Go.Eng Go.FT Ieee Go.Proofs.YtondfjckadlabaaDoor.EX
theorem mask_eq (y : Nat) : IntKind.u64.wrap (((BitVec.ofInt IntKind.u64.bits (y : Int) &&& ~~~BitVec.ofInt IntKind.u64.bits 9223372036854775808).toNat : Nat) : Int) = ((y % 2 ^ 63 : Nat) : Int) := by
  have e0 : IntKind.u64.bits = 64 := rfl
  have e1 : (BitVec.ofInt 64 (y : Int) &&& ~~~BitVec.ofInt 64 9223372036854775808).toNat = y % 2 ^ 63 := by
    have m : ~~~BitVec.ofInt 64 9223372036854775808 = BitVec.ofNat 64 (2 ^ 63 - 1) := by decide
    rw [m, BitVec.toNat_and, BitVec.toNat_ofNat, BitVec.toNat_ofInt]
    rw [show (2 ^ 63 - 1) % 2 ^ 64 = 2 ^ 63 - 1 from by decide, Nat.and_two_pow_sub_one_eq_mod]
    omega
  rw [e0, e1]
  have : y % 2 ^ 63 < 2 ^ 63 := Nat.mod_lt _ (by decide)
  rw [wu64 (by omega) (by omega)]
theorem abs_eq {y : Nat} (h : isNaNB y = false) (hc : canonF (y % 2 ^ 63) = y % 2 ^ 63) : math_Abs y = some (y % 2 ^ 63) := by
  unfold math_Abs dFb dFf
  rw [h]
  simp only [cond_false, Option.bind_some, mask_eq, Int.toNat_natCast, hc]
theorem nan_fin {y : Nat} {Y : Int} (h : Fin y Y) : isNaNB y = false := by
  obtain ⟨s, m, p, h, _⟩ := h
  show (double.read y).isNaN = false
  rw [h]; rfl
theorem canon_inf {y : Nat} {s : Bool} (h : double.read y = .infinity s) : canonF y = y := by
  unfold canonF
  have : (FloatKind.f64.decode y).isNaN = false := by show (double.read y).isNaN = false; rw [h]; rfl
  rw [this]; rfl
theorem known_spec (y : Nat) : spec_Known y = some (feq (fsub y y) 0) := rfl
theorem known_impl (y : Nat) : impl_Known y = some (feq (fsub y y) 0) := by
  unfold impl_Known impl_missing
  rcases read_cases y with ⟨Y, h⟩ | ⟨s, h⟩ | ⟨s, t, h⟩
  · have hr : double.read (y % 2 ^ 63) = _ := read_abs y
    have ha := fin_abs h
    simp only [self_fin h, known_fin h, Bool.not_true, Option.bind_some, Bool.not_false, cond_true, math_IsInf, beq_self_eq_true, abs_eq (nan_fin h) ha.canon, not_over ha]
  · have hr := read_abs y
    rw [h] at hr
    have hn : isNaNB y = false := by show (double.read y).isNaN = false; rw [h]; rfl
    simp only [self_inf h, known_inf h, Bool.not_true, Option.bind_some, Bool.not_false, cond_true, math_IsInf, beq_self_eq_true, abs_eq hn (canon_inf hr), inf_over hr]
  · simp only [self_nan h, known_nan h, Bool.not_true, Option.bind_some, Bool.not_false, cond_false]
def big : Int := 1000000000000000
theorem fin_big : Fin 4831355200913801216 (big * (DD : Int)) := by
  obtain ⟨d, hd⟩ : ∃ d : Nat, d = 1071 := ⟨_, rfl⟩
  refine ⟨false, 8000000000000000, -3, by decide, by omega, ?_, by decide⟩
  rw [show ((-3 : Int) + 1074).toNat = d by omega, DD_pow (k := d + 3) (by omega), Nat.pow_add]
  unfold big sgn
  simp only [Bool.false_eq_true, if_false]
  rw [show (8000000000000000 * 2 ^ d : Nat) = 1000000000000000 * (2 ^ d * 2 ^ 3) by omega]
  omega
theorem fin_nbig : Fin 14054727237768577024 (-(big * (DD : Int))) := by
  obtain ⟨d, hd⟩ : ∃ d : Nat, d = 1071 := ⟨_, rfl⟩
  refine ⟨true, 8000000000000000, -3, by decide, by omega, ?_, by decide⟩
  rw [show ((-3 : Int) + 1074).toNat = d by omega, DD_pow (k := d + 3) (by omega), Nat.pow_add]
  unfold big sgn
  simp only [if_true]
  rw [show (8000000000000000 * 2 ^ d : Nat) = 1000000000000000 * (2 ^ d * 2 ^ 3) by omega]
  omega
def inBig (Y : Int) : Bool := decide (-(big * (DD : Int)) ≤ Y) && decide (Y ≤ big * (DD : Int))
theorem whole_eq {y : Nat} {Y : Int} (h : Fin y Y) : spec_l1Whole y = some (inBig Y) := by
  unfold spec_l1Whole inBig
  simp only [known_spec, known_fin h, Option.bind_some, cond_true, fgt_fin h fin_nbig, feq_fin h fin_nbig, flt_fin h fin_big, feq_fin h fin_big]
  generalize big * (DD : Int) = B
  have e1 : (decide (-B < Y) || decide (Y = -B)) = decide (-B ≤ Y) := by
    rw [Bool.eq_iff_iff]; simp; omega
  have e2 : (decide (Y < B) || decide (Y = B)) = decide (Y ≤ B) := by
    rw [Bool.eq_iff_iff]; simp; omega
  rw [e1, e2]
  cases decide (-B ≤ Y) <;> rfl
theorem in_abs {Y : Int} (h : inBig Y = true) : Y.natAbs ≤ 1000000000000000 * DD := by
  unfold inBig at h
  rw [Bool.and_eq_true, decide_eq_true_eq, decide_eq_true_eq] at h
  unfold big at h
  omega
theorem rne_le {N c : Nat} (h : N ≤ c * DD) : rne N ≤ c := by
  have hp := DD_pos
  have h1 := whole_bound (Y := (N : Int)) (c := c) (by simpa using h)
  simp only [Int.natAbs_natCast] at h1
  rw [rne_eq]
  by_cases he : N / DD = c
  · have : N % DD = 0 := by
      have := Nat.div_add_mod N DD
      rw [he, Nat.mul_comm] at this
      omega
    rw [this]
    have := HH_pos
    rw [if_neg (by omega)]; omega
  · split <;> omega
theorem tail_eq {y : Nat} {Y n : Int} {R : Nat} (h : Fin y Y) (hn : -1000000000000002 ≤ n ∧ n ≤ 1000000000000002) (hR : Y - n * (DD : Int) = (R : Int)) (hb : R ≤ DD) :
    (bif fgt (fsub y (fofi n)) 4602678819172646912 then some (IntKind.i64.wrap (n + 1), true) else bif feq (fsub y (fofi n)) 4602678819172646912 then bif n.tmod 2 != 0 then some (IntKind.i64.wrap (n + 1), true) else some (n, true) else some (n, true)) = some (up n (rnd R), true) := by
  have hf := rest_fin h (n := n) (by omega) hR hb
  rw [fgt_fin hf fin_half, feq_fin hf fin_half, w64 (by omega) (by omega)]
  unfold up
  by_cases h1 : HH < rnd R
  · have : (HH : Int) < (rnd R : Int) := by omega
    simp [h1, this]
  · have h1' : ¬ (HH : Int) < (rnd R : Int) := by omega
    by_cases h2 : rnd R = HH
    · have h2' : (rnd R : Int) = (HH : Int) := by omega
      by_cases h3 : n.tmod 2 = 0 <;> simp [h1, h1', h2, h2', h3, bneI]
    · have h2' : ¬ (rnd R : Int) = (HH : Int) := by omega
      simp [h1, h1', h2, h2']
theorem spec_in {y : Nat} {Y : Int} (h : Fin y Y) (hi : inBig Y = true) : spec_Nearest y = some (nearV Y, true) := by
  have hab := in_abs hi
  have hq := whole_bound hab
  have hp := DD_pos
  have hdm := Nat.div_add_mod Y.natAbs DD
  have hlt := Nat.mod_lt Y.natAbs hp
  have htr := trunc_fin h (by omega)
  unfold spec_Nearest
  rw [whole_eq h, hi, Option.bind_some]
  simp only [Bool.not_true, cond_false]
  rw [htr, Option.bind_some]
  unfold nearV
  have hk := h.kept
  generalize hN : Y.natAbs = N at *
  generalize hqq : N / DD = q at *
  have hmul : ((DD * q : Nat) : Int) = (q : Int) * (DD : Int) := by rw [Int.natCast_mul, Int.mul_comm]
  by_cases hneg : Y < 0
  · have hYN : Y = -(N : Int) := by omega
    simp only [hneg, decide_true, sgn, if_true]
    have hfn := fin_of (n := -(q : Int)) (by omega)
    have hnm : -(q : Int) * (DD : Int) = -((q : Int) * (DD : Int)) := Int.neg_mul _ _
    rw [fgt_fin hfn h, hnm]
    by_cases hT : N % DD = 0
    · have hc : ¬ Y < -((q : Int) * (DD : Int)) := by omega
      simp only [hc, decide_false, cond_false]
      rw [tail_eq h (n := -(q : Int)) (R := 0) (by omega) (by rw [hnm]; omega) (by omega)]
      have e : rnd 0 = 0 := by simp [rnd, re_null]
      rw [e, up_whole, rne_eq, hqq, hT]
      have := HH_pos
      rw [if_neg (by omega)]; rfl
    · have hc : Y < -((q : Int) * (DD : Int)) := by omega
      simp only [hc, decide_true, cond_true]
      rw [w64 (n := -(q : Int) - 1) (by omega) (by omega)]
      have hnm2 : (-(q : Int) - 1) * (DD : Int) = -((q : Int) * (DD : Int)) - (DD : Int) := by rw [Int.sub_mul, hnm, Int.one_mul]
      rw [tail_eq h (n := -(q : Int) - 1) (R := DD - N % DD) (by omega) (by rw [hnm2]; omega) (by omega)]
      have := up_neg hk hT
      rw [hqq] at this
      rw [this]
  · have hYN : Y = (N : Int) := by omega
    simp only [hneg, decide_false, sgn, Bool.false_eq_true, if_false]
    have hfn := fin_of (n := (q : Int)) (by omega)
    rw [fgt_fin hfn h]
    have hc : ¬ Y < (q : Int) * (DD : Int) := by omega
    simp only [hc, decide_false, cond_false]
    rw [tail_eq h (n := (q : Int)) (R := N % DD) (by omega) (by omega) (by omega)]
    have := up_pos hk
    rw [hqq] at this
    rw [this]
theorem near_bound {Y : Int} (hi : inBig Y = true) : -1000000000000000 ≤ nearV Y ∧ nearV Y ≤ 1000000000000000 := by
  have := rne_le (in_abs hi)
  unfold nearV sgn
  split <;> omega
theorem spec_out {y : Nat} {Y : Int} (h : Fin y Y) (hi : inBig Y = false) : spec_Nearest y = some (0, false) := by
  unfold spec_Nearest
  rw [whole_eq h, hi]; rfl
theorem nearest_spec (y : Nat) : (∃ Y, Fin y Y ∧ inBig Y = true ∧ spec_Nearest y = some (nearV Y, true)) ∨ spec_Nearest y = some (0, false) := by
  have unk : feq (fsub y y) 0 = false → spec_Nearest y = some (0, false) := fun h => by
    unfold spec_Nearest spec_l1Whole
    rw [known_spec, h]
    rfl
  rcases read_cases y with ⟨Y, h⟩ | ⟨s, h⟩ | ⟨s, t, h⟩
  · cases hi : inBig Y with
    | true => exact .inl ⟨Y, h, hi, spec_in h hi⟩
    | false => exact .inr (spec_out h hi)
  · exact .inr (unk (known_inf h))
  · exact .inr (unk (known_nan h))
end Go.Proofs.YtondfjckadlabaaDoor.NR

namespace Go.Proofs.YtondfjckadlabaaDoor.NR
open Go Go.Eng Go.FT Ieee Go.Proofs.YtondfjckadlabaaDoor.EX
/-! ### math.Round -/
theorem exp_bits {y : Nat} (hy : y < 2 ^ 64) : IntKind.u64.wrap (((BitVec.ofInt IntKind.u64.bits (Int.fdiv (y : Int) (2 ^ min (Int.toNat 52) IntKind.u64.bits)) &&& BitVec.ofInt IntKind.u64.bits 2047).toNat : Nat) : Int) = ((y % 2 ^ 63 / 2 ^ 52 : Nat) : Int) := by
  have e0 : IntKind.u64.bits = 64 := rfl
  have e1 : Int.fdiv (y : Int) (2 ^ min (Int.toNat 52) 64) = ((y / 2 ^ 52 : Nat) : Int) := by
    rw [show min (Int.toNat 52) 64 = 52 from rfl, Int.fdiv_eq_ediv_of_nonneg _ (by decide)]
    rfl
  have e2 : (BitVec.ofInt 64 ((y / 2 ^ 52 : Nat) : Int) &&& BitVec.ofInt 64 2047).toNat = y % 2 ^ 63 / 2 ^ 52 := by
    have m : BitVec.ofInt 64 2047 = BitVec.ofNat 64 (2 ^ 11 - 1) := by decide
    rw [m, BitVec.toNat_and, BitVec.toNat_ofNat, BitVec.toNat_ofInt, show (2 ^ 11 - 1) % 2 ^ 64 = 2 ^ 11 - 1 from by decide, Nat.and_two_pow_sub_one_eq_mod]
    omega
  rw [e0, e1, e2, wu64 (by omega) (by omega)]
theorem sign_bits {y : Nat} (hy : y < 2 ^ 64) : IntKind.u64.wrap (((BitVec.ofInt IntKind.u64.bits (y : Int) &&& BitVec.ofInt IntKind.u64.bits 9223372036854775808).toNat : Nat) : Int) = ((y / 2 ^ 63 * 2 ^ 63 : Nat) : Int) := by
  have e0 : IntKind.u64.bits = 64 := rfl
  have e1 : (BitVec.ofInt 64 (y : Int) &&& BitVec.ofInt 64 9223372036854775808).toNat = y / 2 ^ 63 * 2 ^ 63 := by
    have m : BitVec.ofInt 64 9223372036854775808 = ~~~BitVec.ofNat 64 (2 ^ 63 - 1) := by decide
    have n : BitVec.ofInt 64 (y : Int) = BitVec.ofNat 64 y := by simp
    rw [m, n, clr y 63 hy (by omega)]
  rw [e0, e1, wu64 (by omega) (by omega)]
theorem one_bits {y : Nat} (hy : y < 2 ^ 64) : IntKind.u64.wrap (((BitVec.ofInt IntKind.u64.bits ((y / 2 ^ 63 * 2 ^ 63 : Nat) : Int) ||| BitVec.ofInt IntKind.u64.bits 4607182418800017408).toNat : Nat) : Int) = ((y / 2 ^ 63 * 2 ^ 63 + 4607182418800017408 : Nat) : Int) := by
  have e0 : IntKind.u64.bits = 64 := rfl
  have hs : y / 2 ^ 63 = 0 ∨ y / 2 ^ 63 = 1 := by omega
  rw [e0]
  rcases hs with hs | hs <;> rw [hs] <;> decide
theorem cut_bits {y t : Nat} (hy : y < 2 ^ 64) (ht : t ≤ 52) : IntKind.u64.wrap (((BitVec.ofInt IntKind.u64.bits (y : Int) &&& ~~~BitVec.ofInt IntKind.u64.bits ((2 ^ t - 1 : Nat) : Int)).toNat : Nat) : Int) = ((y / 2 ^ t * 2 ^ t : Nat) : Int) := by
  have e0 : IntKind.u64.bits = 64 := rfl
  have hle : y / 2 ^ t * 2 ^ t ≤ y := Nat.div_mul_le_self _ _
  have n : ∀ z : Nat, BitVec.ofInt 64 (z : Int) = BitVec.ofNat 64 z := fun z => by simp
  rw [e0, n, n, clr y t hy (by omega), wu64 (by omega) (by omega)]
theorem shr_int {a s : Nat} (hs : s ≤ 64) : Int.fdiv (a : Int) (2 ^ min ((s : Nat) : Int).toNat 64) = ((a / 2 ^ s : Nat) : Int) := by
  rw [show min ((s : Nat) : Int).toNat 64 = s by rw [Int.toNat_natCast]; omega, Int.fdiv_eq_ediv_of_nonneg _ (Int.le_of_lt (Int.pow_pos (by decide)))]
  rw [show (2 : Int) ^ s = ((2 ^ s : Nat) : Int) by simp]
  rfl
theorem sgn0 (s : Bool) : sgn s 0 = 0 := by cases s <;> rfl
theorem round_eq {y : Nat} {Y : Int} (h : Fin y Y) (hy : y < 2 ^ 64) (hb : Y.natAbs ≤ 2 ^ 40 * DD) : ∃ z, math_Round y = some z ∧ Fin z (sgn (decide (Y < 0)) ((Y.natAbs + HH) / DD * DD)) := by
  obtain ⟨hw, hY⟩ := fin_word h
  have hD := DD_pos
  have hH := HH_pos
  have hDH := DD_eq
  have hNN : Y.natAbs = mant (y % 2 ^ 63) * 2 ^ ex (y % 2 ^ 63) := by rw [hY, sgn_natAbs]
  have hsg : sgn (decide (Y < 0)) ((Y.natAbs + HH) / DD * DD) = sgn (y / 2 ^ 63 % 2 == 1) ((Y.natAbs + HH) / DD * DD) := by
    rw [hY]
    refine (sgn_same fun h0 => ?_).symm.trans ?_
    · rw [sgn_natAbs, h0, Nat.zero_add, Nat.div_eq_of_lt (by omega), Nat.zero_mul]
    · rfl
  rw [hsg]
  generalize hE : y % 2 ^ 63 / 2 ^ 52 = E at *
  unfold math_Round dFb dFf
  simp only [nan_fin h, cond_false, Option.bind_some, exp_bits hy, hE]
  by_cases c1 : E < 1023
  · have hc1 : ((E : Nat) : Int) < 1023 := by omega
    simp only [hc1, decide_true, cond_true, beqI]
    by_cases c2 : E = 1022
    · have hc2 : ((E : Nat) : Int) = 1022 := by omega
      simp only [hc2, decide_true, cond_true, sign_bits hy, one_bits hy, Int.toNat_natCast]
      have hz : (y / 2 ^ 63 * 2 ^ 63 + 4607182418800017408) % 2 ^ 63 = 1022 * 2 ^ 52 + 2 ^ 52 := by omega
      have hz2 : (y / 2 ^ 63 * 2 ^ 63 + 4607182418800017408) / 2 ^ 63 = y / 2 ^ 63 := by omega
      have f := fin_make (x := y / 2 ^ 63 * 2 ^ 63 + 4607182418800017408) (by rw [hz]; omega)
      rw [hz, hz2, mant_ex (.inr ⟨by omega, by omega⟩)] at f
      obtain ⟨k, hk⟩ : ∃ k : Nat, k = 1021 := ⟨_, rfl⟩
      have hHk : HH = 2 ^ 52 * 2 ^ k := by rw [HH_pow (k := 52 + k) (by omega), Nat.pow_add]
      have hN : (Y.natAbs + HH) / DD = 1 := by
        obtain ⟨m1, m2⟩ := mant_norm (r := y % 2 ^ 63) (by omega)
        rw [hNN, m1, m2, hE, show E - 1 = k by omega]
        have e2 : (2 ^ 52 + y % 2 ^ 63 % 2 ^ 52) * 2 ^ k < 2 * 2 ^ 52 * 2 ^ k := Nat.mul_lt_mul_of_pos_right (by omega) (pow_pos k)
        have e3 : 2 ^ 52 * 2 ^ k ≤ (2 ^ 52 + y % 2 ^ 63 % 2 ^ 52) * 2 ^ k := Nat.mul_le_mul_right _ (by omega)
        rw [Nat.mul_assoc, ← hHk] at e2
        rw [← hHk] at e3
        generalize (2 ^ 52 + y % 2 ^ 63 % 2 ^ 52) * 2 ^ k = n at *
        rw [Nat.div_eq_of_lt_le (k := 1)] <;> omega
      have e4 : 2 ^ 52 * 2 ^ 1022 = DD := by
        obtain ⟨j, hj⟩ : ∃ j : Nat, j = 1022 := ⟨_, rfl⟩
        rw [← hj, DD_pow (k := 52 + j) (by omega), Nat.pow_add]
      rw [e4] at f
      rw [hN, Nat.one_mul]
      exact ⟨_, rfl, by rw [f.canon]; exact f⟩
    · have hc2 : ¬ ((E : Nat) : Int) = 1022 := by omega
      simp only [hc2, decide_false, cond_false, sign_bits hy, Int.toNat_natCast]
      have hz : (y / 2 ^ 63 * 2 ^ 63) % 2 ^ 63 = 0 := by omega
      have f := fin_make (x := y / 2 ^ 63 * 2 ^ 63) (by rw [hz]; omega)
      have e5 : mant 0 * 2 ^ ex 0 = 0 := rfl
      rw [hz, e5, sgn0] at f
      have hN : (Y.natAbs + HH) / DD = 0 := by
        refine Nat.div_eq_of_lt ?_
        obtain ⟨j, hj⟩ : ∃ j : Nat, j = 1020 := ⟨_, rfl⟩
        have : Y.natAbs < HH := by
          rw [hNN, HH_pow (k := 53 + j) (by omega), Nat.pow_add]
          have m1 := mant_lt (y % 2 ^ 63)
          have m2 : ex (y % 2 ^ 63) ≤ j := by
            unfold ex
            split
            · omega
            · rw [hE]; omega
          have m3 : 2 ^ ex (y % 2 ^ 63) ≤ 2 ^ j := Nat.pow_le_pow_right (by omega) m2
          calc mant (y % 2 ^ 63) * 2 ^ ex (y % 2 ^ 63) ≤ mant (y % 2 ^ 63) * 2 ^ j := Nat.mul_le_mul_left _ m3
            _ < 2 ^ 53 * 2 ^ j := Nat.mul_lt_mul_of_pos_right m1 (pow_pos j)
        omega
      rw [hN, Nat.zero_mul, sgn0]
      exact ⟨_, rfl, by rw [f.canon]; exact f⟩
  · have hc1 : ¬ ((E : Nat) : Int) < 1023 := by omega
    obtain ⟨m1, m2⟩ := mant_norm (r := y % 2 ^ 63) (by omega)
    rw [m1, m2, hE] at hNN
    have c3 : E < 1075 := by
      by_cases c : E < 1075
      · exact c
      · exfalso
        obtain ⟨j, hj⟩ : ∃ j : Nat, j = 1074 := ⟨_, rfl⟩
        have k1 : DD ≤ 2 ^ (E - 1) := by rw [DD_pow (k := j) hj]; exact Nat.pow_le_pow_right (by omega) (by omega)
        have k2 : 2 ^ 52 * DD ≤ (2 ^ 52 + y % 2 ^ 63 % 2 ^ 52) * 2 ^ (E - 1) := Nat.mul_le_mul (by omega) k1
        have k3 : 2 ^ 40 * DD < 2 ^ 52 * DD := Nat.mul_lt_mul_of_pos_right (by decide) hD
        omega
    have hc3 : ((E : Nat) : Int) < 1075 := by omega
    have hsh : IntKind.u64.wrap ((E : Int) - 1023) = ((E - 1023 : Nat) : Int) := by rw [wu64 (by omega) (by omega)]; omega
    obtain ⟨h51, h52⟩ := halves (E - 1023) (by omega)
    have eb : IntKind.u64.bits = 64 := rfl
    obtain ⟨t, ht⟩ : ∃ t : Nat, t = 52 - (E - 1023) := ⟨_, rfl⟩
    have et : 51 - (E - 1023) = t - 1 := by omega
    rw [et] at h51
    rw [← ht] at h52
    obtain ⟨q, hq⟩ : ∃ q : Nat, q = 2 ^ (t - 1) := ⟨_, rfl⟩
    have hp51 : q ≤ 2 ^ 51 := by rw [hq]; exact Nat.pow_le_pow_right (by omega) (by omega)
    rw [← hq] at h51
    have s1 : Int.fdiv 2251799813685248 (2 ^ min (E - 1023) 64) = ((q : Nat) : Int) := by
      have := shr_int (a := 2251799813685248) (s := E - 1023) (by omega)
      rw [h51, Int.toNat_natCast] at this
      exact this
    have s2 : Int.fdiv 4503599627370495 (2 ^ min (E - 1023) 64) = ((2 ^ t - 1 : Nat) : Int) := by
      have := shr_int (a := 4503599627370495) (s := E - 1023) (by omega)
      rw [h52, Int.toNat_natCast] at this
      exact this
    have hyr : y % 2 ^ 63 = (E - 1) * 2 ^ 52 + (2 ^ 52 + y % 2 ^ 63 % 2 ^ 52) := by omega
    have s3 : IntKind.u64.wrap ((y : Int) + (q : Int)) = ((y + q : Nat) : Int) := by rw [wu64 (by omega) (by omega)]; omega
    have s4 := cut_bits (y := y + q) (t := t) (by omega) (by omega)
    simp only [hc1, decide_false, cond_false, hc3, decide_true, cond_true, hsh, eb, Int.toNat_natCast, s1, s2, s3, s4, show (0 : Int) ≤ ((E - 1023 : Nat) : Int) by omega]
    obtain ⟨r1, r2⟩ := cut_up (l := E - 1) (k := 2 ^ 52 + y % 2 ^ 63 % 2 ^ 52) (t := t) (by omega) (by omega) (by omega)
    rw [← hq, ← hyr] at r1 r2
    rw [← hNN] at r2
    have p0 : 0 < 2 ^ t := pow_pos t
    have e63 : 2 ^ 63 = 2 ^ (63 - t) * 2 ^ t := by rw [← Nat.pow_add, Nat.sub_add_cancel (by omega)]
    have hx : (y + q) / 2 ^ t * 2 ^ t = y / 2 ^ 63 * 2 ^ 63 + (y % 2 ^ 63 + q) / 2 ^ t * 2 ^ t := by
      have : y + q = (y % 2 ^ 63 + q) + y / 2 ^ 63 * 2 ^ (63 - t) * 2 ^ t := by rw [Nat.mul_assoc, ← e63]; omega
      rw [this, Nat.add_mul_div_right _ _ p0, Nat.add_mul, Nat.mul_assoc, ← e63]
      omega
    generalize hR : (y % 2 ^ 63 + q) / 2 ^ t * 2 ^ t = R at *
    have hz : ((y + q) / 2 ^ t * 2 ^ t) % 2 ^ 63 = R := by rw [hx]; omega
    have hz2 : ((y + q) / 2 ^ t * 2 ^ t) / 2 ^ 63 = y / 2 ^ 63 := by rw [hx]; omega
    have f := fin_make (x := (y + q) / 2 ^ t * 2 ^ t) (by rw [hz]; exact r1)
    rw [hz, hz2, r2] at f
    exact ⟨_, rfl, by rw [f.canon]; exact f⟩
end Go.Proofs.YtondfjckadlabaaDoor.NR
