/-
  Part of a proof by the engine: texts that a program of ours printed, or plain lemmas on them. No condition but what each theorem says.
-/
import Derived.Test.YtgkejafaggaocaaDoorNR
import Derived.Test.YtgkejafaggaocaaDoorFT
set_option linter.unusedVariables false
set_option linter.unusedSimpArgs false
namespace Go.Proofs.YtgkejafaggaocaaDoor.NR
open Go Go.Eng Go.FT Ieee Go.Proofs.YtgkejafaggaocaaDoor.EX
theorem mask_eq (y : Nat) : IntKind.u64.wrap (((BitVec.ofInt IntKind.u64.bits (y : Int) &&& ~~~BitVec.ofInt IntKind.u64.bits 9223372036854775808).toNat : Nat) : Int) = ((y % 2 ^ 63 : Nat) : Int) := by
  have e0 : IntKind.u64.bits = 64 := rfl
  have e1 : (BitVec.ofInt 64 (y : Int) &&& ~~~BitVec.ofInt 64 9223372036854775808).toNat = y % 2 ^ 63 := by
    have m : ~~~BitVec.ofInt 64 9223372036854775808 = BitVec.ofNat 64 (2 ^ 63 - 1) := by decide
    rw [m, BitVec.toNat_and, BitVec.toNat_ofNat, BitVec.toNat_ofInt]
    rw [show (2 ^ 63 - 1) % 2 ^ 64 = 2 ^ 63 - 1 from by decide, Nat.and_two_pow_sub_one_eq_mod]
    omega
  rw [e0, e1]
  have : y % 2 ^ 63 < 2 ^ 63 := Nat.mod_lt _ (by decide)
  rw [wu64 (by omega) (by omega)]
theorem abs_eq {y : Nat} (h : isNaNB y = false) (hc : canonF (y % 2 ^ 63) = y % 2 ^ 63) : math_Abs y = some (y % 2 ^ 63) := by
  unfold math_Abs dFb dFf
  rw [h]
  simp only [cond_false, Option.bind_some, mask_eq, Int.toNat_natCast, hc]
theorem nan_fin {y : Nat} {Y : Int} (h : Fin y Y) : isNaNB y = false := by
  obtain ⟨s, m, p, h, _⟩ := h
  show (double.read y).isNaN = false
  rw [h]; rfl
theorem canon_inf {y : Nat} {s : Bool} (h : double.read y = .infinity s) : canonF y = y := by
  unfold canonF
  have : (FloatKind.f64.decode y).isNaN = false := by show (double.read y).isNaN = false; rw [h]; rfl
  rw [this]; rfl
theorem known_spec (y : Nat) : spec_Known y = some (feq (fsub y y) 0) := rfl
theorem known_impl (y : Nat) : impl_Known y = some (feq (fsub y y) 0) := by
  unfold impl_Known impl_missing
  rcases read_cases y with ⟨Y, h⟩ | ⟨s, h⟩ | ⟨s, t, h⟩
  · have hr : double.read (y % 2 ^ 63) = _ := read_abs y
    have ha := fin_abs h
    simp only [self_fin h, known_fin h, Bool.not_true, Option.bind_some, Bool.not_false, cond_true, math_IsInf, beq_self_eq_true, abs_eq (nan_fin h) ha.canon, not_over ha]
  · have hr := read_abs y
    rw [h] at hr
    have hn : isNaNB y = false := by show (double.read y).isNaN = false; rw [h]; rfl
    simp only [self_inf h, known_inf h, Bool.not_true, Option.bind_some, Bool.not_false, cond_true, math_IsInf, beq_self_eq_true, abs_eq hn (canon_inf hr), inf_over hr]
  · simp only [self_nan h, known_nan h, Bool.not_true, Option.bind_some, Bool.not_false, cond_false]
def big : Int := 1000000000000000
theorem fin_big : Fin 4831355200913801216 (big * (DD : Int)) := by
  obtain ⟨d, hd⟩ : ∃ d : Nat, d = 1071 := ⟨_, rfl⟩
  refine ⟨false, 8000000000000000, -3, by decide, by omega, ?_, by decide⟩
  rw [show ((-3 : Int) + 1074).toNat = d by omega, DD_pow (k := d + 3) (by omega), Nat.pow_add]
  unfold big sgn
  simp only [Bool.false_eq_true, if_false]
  rw [show (8000000000000000 * 2 ^ d : Nat) = 1000000000000000 * (2 ^ d * 2 ^ 3) by omega]
  omega
theorem fin_nbig : Fin 14054727237768577024 (-(big * (DD : Int))) := by
  obtain ⟨d, hd⟩ : ∃ d : Nat, d = 1071 := ⟨_, rfl⟩
  refine ⟨true, 8000000000000000, -3, by decide, by omega, ?_, by decide⟩
  rw [show ((-3 : Int) + 1074).toNat = d by omega, DD_pow (k := d + 3) (by omega), Nat.pow_add]
  unfold big sgn
  simp only [if_true]
  rw [show (8000000000000000 * 2 ^ d : Nat) = 1000000000000000 * (2 ^ d * 2 ^ 3) by omega]
  omega
def inBig (Y : Int) : Bool := decide (-(big * (DD : Int)) ≤ Y) && decide (Y ≤ big * (DD : Int))
theorem whole_eq {y : Nat} {Y : Int} (h : Fin y Y) : spec_l1Whole y = some (inBig Y) := by
  unfold spec_l1Whole inBig
  simp only [known_spec, known_fin h, Option.bind_some, cond_true, fgt_fin h fin_nbig, feq_fin h fin_nbig, flt_fin h fin_big, feq_fin h fin_big]
  generalize big * (DD : Int) = B
  have e1 : (decide (-B < Y) || decide (Y = -B)) = decide (-B ≤ Y) := by
    rw [Bool.eq_iff_iff]; simp; omega
  have e2 : (decide (Y < B) || decide (Y = B)) = decide (Y ≤ B) := by
    rw [Bool.eq_iff_iff]; simp; omega
  rw [e1, e2]
  cases decide (-B ≤ Y) <;> rfl
theorem in_abs {Y : Int} (h : inBig Y = true) : Y.natAbs ≤ 1000000000000000 * DD := by
  unfold inBig at h
  rw [Bool.and_eq_true, decide_eq_true_eq, decide_eq_true_eq] at h
  unfold big at h
  omega
theorem rne_le {N c : Nat} (h : N ≤ c * DD) : rne N ≤ c := by
  have hp := DD_pos
  have h1 := whole_bound (Y := (N : Int)) (c := c) (by simpa using h)
  simp only [Int.natAbs_natCast] at h1
  rw [rne_eq]
  by_cases he : N / DD = c
  · have : N % DD = 0 := by
      have := Nat.div_add_mod N DD
      rw [he, Nat.mul_comm] at this
      omega
    rw [this]
    have := HH_pos
    rw [if_neg (by omega)]; omega
  · split <;> omega
theorem tail_eq {y : Nat} {Y n : Int} {R : Nat} (h : Fin y Y) (hn : -1000000000000002 ≤ n ∧ n ≤ 1000000000000002) (hR : Y - n * (DD : Int) = (R : Int)) (hb : R ≤ DD) :
    (bif fgt (fsub y (fofi n)) 4602678819172646912 then some (IntKind.i64.wrap (n + 1), true) else bif feq (fsub y (fofi n)) 4602678819172646912 then bif n.tmod 2 != 0 then some (IntKind.i64.wrap (n + 1), true) else some (n, true) else some (n, true)) = some (up n (rnd R), true) := by
  have hf := rest_fin h (n := n) (by omega) hR hb
  rw [fgt_fin hf fin_half, feq_fin hf fin_half, w64 (by omega) (by omega)]
  unfold up
  by_cases h1 : HH < rnd R
  · have : (HH : Int) < (rnd R : Int) := by omega
    simp [h1, this]
  · have h1' : ¬ (HH : Int) < (rnd R : Int) := by omega
    by_cases h2 : rnd R = HH
    · have h2' : (rnd R : Int) = (HH : Int) := by omega
      by_cases h3 : n.tmod 2 = 0 <;> simp [h1, h1', h2, h2', h3, bneI]
    · have h2' : ¬ (rnd R : Int) = (HH : Int) := by omega
      simp [h1, h1', h2, h2']
theorem spec_in {y : Nat} {Y : Int} (h : Fin y Y) (hi : inBig Y = true) : spec_Nearest y = some (nearV Y, true) := by
  have hab := in_abs hi
  have hq := whole_bound hab
  have hp := DD_pos
  have hdm := Nat.div_add_mod Y.natAbs DD
  have hlt := Nat.mod_lt Y.natAbs hp
  have htr := trunc_fin h (by omega)
  unfold spec_Nearest
  rw [whole_eq h, hi, Option.bind_some]
  simp only [Bool.not_true, cond_false]
  rw [htr, Option.bind_some]
  unfold nearV
  have hk := h.kept
  generalize hN : Y.natAbs = N at *
  generalize hqq : N / DD = q at *
  have hmul : ((DD * q : Nat) : Int) = (q : Int) * (DD : Int) := by rw [Int.natCast_mul, Int.mul_comm]
  by_cases hneg : Y < 0
  · have hYN : Y = -(N : Int) := by omega
    simp only [hneg, decide_true, sgn, if_true]
    have hfn := fin_of (n := -(q : Int)) (by omega)
    have hnm : -(q : Int) * (DD : Int) = -((q : Int) * (DD : Int)) := Int.neg_mul _ _
    rw [fgt_fin hfn h, hnm]
    by_cases hT : N % DD = 0
    · have hc : ¬ Y < -((q : Int) * (DD : Int)) := by omega
      simp only [hc, decide_false, cond_false]
      rw [tail_eq h (n := -(q : Int)) (R := 0) (by omega) (by rw [hnm]; omega) (by omega)]
      have e : rnd 0 = 0 := by simp [rnd, re_null]
      rw [e, up_whole, rne_eq, hqq, hT]
      have := HH_pos
      rw [if_neg (by omega)]; rfl
    · have hc : Y < -((q : Int) * (DD : Int)) := by omega
      simp only [hc, decide_true, cond_true]
      rw [w64 (n := -(q : Int) - 1) (by omega) (by omega)]
      have hnm2 : (-(q : Int) - 1) * (DD : Int) = -((q : Int) * (DD : Int)) - (DD : Int) := by rw [Int.sub_mul, hnm, Int.one_mul]
      rw [tail_eq h (n := -(q : Int) - 1) (R := DD - N % DD) (by omega) (by rw [hnm2]; omega) (by omega)]
      have := up_neg hk hT
      rw [hqq] at this
      rw [this]
  · have hYN : Y = (N : Int) := by omega
    simp only [hneg, decide_false, sgn, Bool.false_eq_true, if_false]
    have hfn := fin_of (n := (q : Int)) (by omega)
    rw [fgt_fin hfn h]
    have hc : ¬ Y < (q : Int) * (DD : Int) := by omega
    simp only [hc, decide_false, cond_false]
    rw [tail_eq h (n := (q : Int)) (R := N % DD) (by omega) (by omega) (by omega)]
    have := up_pos hk
    rw [hqq] at this
    rw [this]
theorem near_bound {Y : Int} (hi : inBig Y = true) : -1000000000000000 ≤ nearV Y ∧ nearV Y ≤ 1000000000000000 := by
  have := rne_le (in_abs hi)
  unfold nearV sgn
  split <;> omega
theorem impl_in' {y : Nat} {Y : Int} (h : Fin y Y) (hi : inBig Y = true) : impl_Nearest y = some (nearV Y, true) := by
  have hab := in_abs hi
  have hr := rne_le hab
  have he := even_fin h (by rw [re_DD]; omega)
  rw [re_DD] at he
  have hi' := hi
  simp only [inBig, Bool.and_eq_true, decide_eq_true_eq] at hi'
  have hb := near_bound hi
  have htr := trunc_fin he (by rw [scale_abs, Nat.mul_div_cancel _ DD_pos, sgn_natAbs]; omega)
  have e1 : sgn (decide (sgn (decide (Y < 0)) (rne Y.natAbs) * (DD : Int) < 0)) ((sgn (decide (Y < 0)) (rne Y.natAbs) * (DD : Int)).natAbs / DD) = nearV Y := by
    rw [scale_abs, Nat.mul_div_cancel _ DD_pos]
    have : decide (sgn (decide (Y < 0)) (rne Y.natAbs) * (DD : Int) < 0) = decide (sgn (decide (Y < 0)) (rne Y.natAbs) < 0) := by
      obtain ⟨d, hd⟩ : ∃ d : Nat, d = 1074 := ⟨_, rfl⟩
      rw [DD_pow hd]
      exact neg_scale _ _
    rw [this, sgn_abs]; rfl
  rw [e1] at htr
  unfold impl_Nearest dRte
  rw [known_impl, known_fin h, nan_fin h]
  simp only [Option.bind_some, Bool.not_true, cond_false, flt_fin h fin_nbig, fgt_fin h fin_big, show ¬ Y < -(big * (DD : Int)) by omega, show ¬ big * (DD : Int) < Y by omega, decide_false, htr]
theorem spec_out {y : Nat} {Y : Int} (h : Fin y Y) (hi : inBig Y = false) : spec_Nearest y = some (0, false) := by
  unfold spec_Nearest
  rw [whole_eq h, hi]; rfl
theorem impl_out {y : Nat} {Y : Int} (h : Fin y Y) (hi : inBig Y = false) : impl_Nearest y = some (0, false) := by
  unfold impl_Nearest
  rw [known_impl, known_fin h]
  simp only [Option.bind_some, Bool.not_true, cond_false, flt_fin h fin_nbig, fgt_fin h fin_big]
  by_cases h1 : Y < -(big * (DD : Int))
  · simp [h1]
  · by_cases h2 : big * (DD : Int) < Y
    · simp [h1, h2]
    · exfalso
      simp only [inBig, Bool.and_eq_false_iff, decide_eq_false_iff_not] at hi
      omega
/-- **The nearest whole number: the same of both.** -/
theorem nearest_both (y : Nat) : (∃ Y, Fin y Y ∧ inBig Y = true ∧ spec_Nearest y = some (nearV Y, true) ∧ impl_Nearest y = some (nearV Y, true)) ∨ (spec_Nearest y = some (0, false) ∧ impl_Nearest y = some (0, false) ∧ ∀ Y, Fin y Y → inBig Y = false) := by
  have unk : feq (fsub y y) 0 = false → spec_Nearest y = some (0, false) ∧ impl_Nearest y = some (0, false) := fun h => by
    unfold spec_Nearest impl_Nearest spec_l1Whole
    rw [known_spec, known_impl, h]
    exact ⟨rfl, rfl⟩
  rcases read_cases y with ⟨Y, h⟩ | ⟨s, h⟩ | ⟨s, t, h⟩
  · cases hi : inBig Y with
    | true => exact .inl ⟨Y, h, hi, spec_in h hi, impl_in' h hi⟩
    | false => exact .inr ⟨spec_out h hi, impl_out h hi, fun Y' h' => by
        have : Y' = Y := by
          obtain ⟨s, m, p, a1, _, rfl, _⟩ := h
          obtain ⟨s', m', p', b1, _, rfl, _⟩ := h'
          rw [a1] at b1
          injection b1 with e1 e2 e3
          subst e1 e2 e3
          rfl
        rw [this]; exact hi⟩
  · exact .inr ⟨(unk (known_inf h)).1, (unk (known_inf h)).2, fun Y ⟨_, _, _, h', _⟩ => by rw [h] at h'; cases h'⟩
  · exact .inr ⟨(unk (known_nan h)).1, (unk (known_nan h)).2, fun Y ⟨_, _, _, h', _⟩ => by rw [h] at h'; cases h'⟩
end Go.Proofs.YtgkejafaggaocaaDoor.NR

namespace Go.Proofs.YtgkejafaggaocaaDoor.NR
open Go Go.Eng Go.FT Ieee Go.Proofs.YtgkejafaggaocaaDoor.EX
theorem read_flip (y : Nat) : double.read (y ^^^ 2 ^ 63) = (double.read y).opposite := by
  have e1 : (y ^^^ 2 ^ 63) % 2 ^ 63 = y % 2 ^ 63 := by rw [Nat.xor_mod_two_pow, Nat.mod_self, Nat.xor_zero]
  have e2 : ((y ^^^ 2 ^ 63) / 2 ^ 63 % 2 == 1) = !(y / 2 ^ 63 % 2 == 1) := by
    rw [Nat.xor_div_two_pow, Nat.div_self (by decide)]
    have := Nat.xor_mod_two_pow (a := y / 2 ^ 63) (b := 1) (n := 1)
    rw [Nat.pow_one] at this
    rw [this]
    rcases Nat.mod_two_eq_zero_or_one (y / 2 ^ 63) with h | h <;> rw [h] <;> rfl
  rw [read_eq, read_eq y, e1, e2]
  generalize (y / 2 ^ 63 % 2 == 1) = b
  generalize y % 2 ^ 63 = r
  unfold rd0
  by_cases h1 : r < double.binade
  · rw [if_pos h1, if_pos h1]; rfl
  · by_cases h2 : r < double.infRung
    · rw [if_neg h1, if_pos h2, if_neg h1, if_pos h2]; rfl
    · by_cases h3 : r = double.infRung
      · rw [if_neg h1, if_neg h2, if_pos h3, if_neg h1, if_neg h2, if_pos h3]; rfl
      · rw [if_neg h1, if_neg h2, if_neg h3, if_neg h1, if_neg h2, if_neg h3]; rfl
theorem fin_neg {y : Nat} {Y : Int} (h : Fin y Y) : Fin (fneg y) (-Y) := by
  obtain ⟨s, m, p, h1, h2, rfl, h3⟩ := h
  have hr : double.read (y ^^^ 2 ^ 63) = .number (!s) m p := by rw [read_flip, h1]; rfl
  have e : fneg y = y ^^^ 2 ^ 63 := by
    show canonF (y ^^^ 2 ^ 63) = _
    exact canon_of hr
  rw [e]
  exact ⟨!s, m, p, hr, h2, (sgn_neg s _).symm, h3⟩
theorem inf_neg {y : Nat} {s : Bool} (h : double.read y = .infinity s) : double.read (fneg y) = .infinity (!s) := by
  have hr : double.read (y ^^^ 2 ^ 63) = .infinity (!s) := by rw [read_flip, h]; rfl
  have e : fneg y = y ^^^ 2 ^ 63 := by
    show canonF (y ^^^ 2 ^ 63) = _
    exact canon_inf hr
  rw [e]; exact hr
theorem isInf_fin {y : Nat} {Y : Int} (h : Fin y Y) : math_IsInf y 1 = some false ∧ math_IsInf y (-1) = some false := by
  unfold math_IsInf
  constructor
  · simp only [show ((1 : Int) == 0) = false from rfl, show decide ((1 : Int) < 0) = false from rfl, cond_false, not_over h]
  · simp only [show ((-1 : Int) == 0) = false from rfl, show decide ((-1 : Int) < 0) = true from rfl, cond_false, cond_true, not_over (fin_neg h)]
theorem isInf_pos {y : Nat} (h : double.read y = .infinity false) : math_IsInf y 1 = some true := by
  unfold math_IsInf
  simp only [show ((1 : Int) == 0) = false from rfl, show decide ((1 : Int) < 0) = false from rfl, cond_false, inf_over h]
theorem isInf_neg {y : Nat} (h : double.read y = .infinity true) : math_IsInf y 1 = some false ∧ math_IsInf y (-1) = some true := by
  unfold math_IsInf
  constructor
  · simp only [show ((1 : Int) == 0) = false from rfl, show decide ((1 : Int) < 0) = false from rfl, cond_false, ninf_over h]
  · simp only [show ((-1 : Int) == 0) = false from rfl, show decide ((-1 : Int) < 0) = true from rfl, cond_false, cond_true, inf_over (inf_neg h)]
theorem pos_inf {y : Nat} (h : double.read y = .infinity false) : fgt y 0 = true := by
  have : double.read 0 = .number false 0 (-1074) := by decide
  unfold fgt Format.order
  rw [h, this]; rfl
theorem neg_inf {y : Nat} (h : double.read y = .infinity true) : fgt y 0 = false := by
  have : double.read 0 = .number false 0 (-1074) := by decide
  unfold fgt Format.order
  rw [h, this]; rfl
/-! ### powers of ten -/
def tenL : List Nat := [4607182418800017408, 4621819117588971520, 4636737291354636288, 4652007308841189376, 4666723172467343360, 4681608360884174848, 4696837146684686336, 4711630319722168320, 4726483295884279808, 4741671816366391296, 4756540486875873280]
def tenB (k : Nat) : Nat := tenL.getD k 0
theorem ten_step : ∀ k, k < 10 → fmul (tenB k) 4621819117588971520 = tenB (k + 1) := by decide +kernel
theorem ten_of : ∀ k, k < 11 → fofi (((10 ^ k : Nat)) : Int) = tenB k := by decide +kernel
theorem ten_loop : ∀ (m j : Nat), j + m ≤ 10 → Ev (fun k => impl_ten_L2 k (m : Int) (tenB j)) (tenB (j + m))
  | 0, j, h => by
    apply ev_succ
    simp only [impl_ten_L2, show ¬ ((0 : Nat) : Int) > 0 by omega, decide_false, cond_false]
    exact ev_now _
  | m + 1, j, h => by
    apply ev_succ
    have e : IntKind.i64.wrap (((m + 1 : Nat) : Int) - 1) = (m : Int) := by rw [w64 (by omega) (by omega)]; omega
    simp only [impl_ten_L2, show ((m + 1 : Nat) : Int) > 0 by omega, decide_true, cond_true, e, ten_step j (by omega)]
    exact ev_eq (ten_loop m (j + 1) (by omega)) (by congr 1; omega)
theorem ten_impl {m : Nat} (h : m ≤ 10) : impl_ten (m : Int) = some (tenB m) := by
  refine evF_eq ?_
  have := ten_loop m 0 (by omega)
  rw [Nat.zero_add] at this
  exact this
theorem ten_bound : ∀ k, k < 11 → 10 ^ k ≤ 10000000000 := by decide
theorem tens_loop (n : Nat) (hn : n ≤ 10) : ∀ (m i : Nat), n - i = m → i ≤ n → Ev (fun k => spec_l1Ten_L3 k (n : Int) ((10 ^ i : Nat) : Int) (i : Int)) ((10 ^ n : Nat) : Int)
  | 0, i, hm, hi => by
    obtain rfl : i = n := by omega
    apply ev_succ
    simp only [spec_l1Ten_L3, Int.lt_irrefl, decide_false, cond_false]
    exact ev_now _
  | m + 1, i, hm, hi => by
    have hb := ten_bound (i + 1) (by omega)
    have hs : (10 : Nat) ^ (i + 1) = 10 ^ i * 10 := Nat.pow_succ ..
    apply ev_succ
    have e : IntKind.i64.wrap (((10 ^ i : Nat) : Int) * 10) = ((10 ^ (i + 1) : Nat) : Int) := by rw [hs] at hb ⊢; rw [w64 (by omega) (by omega)]; omega
    simp only [spec_l1Ten_L3, show (i : Int) < (n : Int) by omega, decide_true, cond_true, e, wsucc (show i < 9223372036854775807 by omega)]
    exact tens_loop n hn m (i + 1) (by omega) (by omega)
theorem ten_spec {n : Nat} (h : n ≤ 10) : spec_l1Ten (n : Int) = some ((10 ^ n : Nat) : Int) := by
  refine evF_eq ?_
  exact tens_loop n h n 0 (by omega) (by omega)
end Go.Proofs.YtgkejafaggaocaaDoor.NR
