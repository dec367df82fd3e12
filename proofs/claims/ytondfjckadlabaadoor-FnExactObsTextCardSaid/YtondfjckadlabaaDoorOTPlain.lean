/-
  Part of a proof by the engine: texts that a program of ours printed, or plain lemmas on them. No condition but what each theorem says.
-/
import Derived.Test.YtondfjckadlabaaDoorOT
import Derived.Test.YtondfjckadlabaaDoorNRPlain
import Derived.Test.YtondfjckadlabaaDoorDTPlain
import Derived.Test.YtondfjckadlabaaDoorFT
set_option linter.unusedVariables false
set_option linter.unusedSimpArgs false
namespace Go.Proofs.YtondfjckadlabaaDoor.OT
open Go Go.Eng Go.FT Ieee Go.Proofs.YtondfjckadlabaaDoor.EX Go.Proofs.YtondfjckadlabaaDoor.NR Go.Proofs.YtondfjckadlabaaDoor.DT
theorem DD_ne : (DD : Int) ≠ 0 := by have := DD_pos; omega
theorem minus_fin {x : Nat} {Z : Int} (h : Fin x Z) : ∃ b, spec_l1Minus x = some b := by
  unfold spec_l1Minus
  cases Go.Eng.flt x 0 with
  | true => exact ⟨true, rfl⟩
  | false =>
    cases feq x 0 with
    | true => exact ⟨_, rfl⟩
    | false => exact ⟨false, rfl⟩
theorem same_spec {x : Nat} {Z : Int} (h : Fin x Z) : spec_Same x x = some true := by
  obtain ⟨b, hb⟩ := minus_fin h
  unfold spec_Same
  rw [self_fin h, hb]
  simp
theorem minus_neg0 : spec_l1Minus 9223372036854775808 = some true ∧ spec_l1Minus 0 = some false := by
  unfold spec_l1Minus
  decide +kernel
/-- The reference's Same of a word and a finite one: are they the same word? -/
theorem same_ne {x z : Nat} {Z : Int} (hz : Fin z Z) (bx : x < 2 ^ 64) (bz : z < 2 ^ 64) (hne : x ≠ z) : spec_Same x z = some false := by
  unfold spec_Same
  rcases read_cases x with ⟨X, h⟩ | ⟨s, h⟩ | ⟨s, t, h⟩
  · simp only [self_fin h, self_fin hz, Bool.not_true, cond_false, feq_fin h hz]
    by_cases hX : X = Z
    · subst hX
      simp only [decide_true, cond_true]
      by_cases h0 : X = 0
      · subst h0
        have e63 : (2 : Nat) ^ 63 = 9223372036854775808 := by decide
        rcases fin_zero_word h bx with a | a <;> rcases fin_zero_word hz bz with b | b
        · exact absurd (a.trans b.symm) hne
        · rw [a, b, e63, minus_neg0.1, minus_neg0.2]; rfl
        · rw [a, b, e63, minus_neg0.1, minus_neg0.2]; rfl
        · exact absurd (a.trans b.symm) hne
      · exact absurd (fin_inj h hz bx bz h0) hne
    · simp only [hX, decide_false, cond_false]
  · simp only [self_inf h, self_fin hz, Bool.not_true, cond_false, feq_inf h hz]
  · simp only [self_nan h, self_fin hz, Bool.not_false, Bool.not_true, cond_true]
theorem same_impl {x z : Nat} {X Z : Int} (h : Fin x X) (hz : Fin z Z) : impl_Same z x = some (decide (z = x)) := by
  unfold impl_Same impl_missing dFb
  simp only [self_fin hz, nan_fin hz, nan_fin h, Option.bind_some, Bool.not_true, cond_false, beqI]
  congr 1
  by_cases e : z = x
  · subst e; simp
  · rw [decide_eq_false e, decide_eq_false (by omega)]
theorem fin_uniq {x : Nat} {A B : Int} (h : Fin x A) (k : Fin x B) : A = B := by
  obtain ⟨s, a, p, h1, _, h2, _⟩ := h
  obtain ⟨s', a', p', k1, _, k2, _⟩ := k
  rw [h1] at k1
  injection k1 with e1 e2 e3
  rw [h2, k2, e1, e2, e3]
theorem fin_ten : Fin 4621819117588971520 (((10 : Nat) : Int) * (DD : Int)) := by
  have : fofi 10 = 4621819117588971520 := by decide +kernel
  rw [← this]
  exact fin_of (n := 10) (by decide)
theorem fin_cap : Fin 4681608360884174848 (100000 * (DD : Int)) := by
  have : fofi 100000 = 4681608360884174848 := by decide +kernel
  rw [← this]
  exact fin_of (n := 100000) (by decide)
theorem fin_m {m : Int} (h : m.natAbs ≤ 100000) : Fin (fofi m) (m * (DD : Int)) := fin_of (by omega)
theorem bd_div {m : Int} (h : m.natAbs ≤ 20000) : ∃ X, Fin (fdiv (fofi m) 4621819117588971520) X ∧ X.natAbs ≤ 4096 * DD := by
  have := div_bd (k := 11) (fin_m (m := m) (by omega)) fin_ten (Int.mul_ne_zero (by decide) DD_ne) (by omega) (by
    rw [scale_abs, scale_abs]
    have e : (2 : Nat) ^ 11 = 2048 := by decide
    have e2 : ((10 : Nat) : Int).natAbs = 10 := rfl
    rw [e, e2, ← Nat.mul_assoc]
    exact Nat.mul_le_mul_right _ (by omega))
  obtain ⟨X, h1, h2⟩ := this
  exact ⟨X, h1, by have e : (2 : Nat) ^ (11 + 1) = 4096 := by decide
                   rw [e] at h2; exact h2⟩
theorem cap_iff {X : Int} (h : X.natAbs ≤ 100000 * DD) : decide (100000 * (DD : Int) < (X.natAbs : Int)) = false := decide_eq_false (by omega)
/-- What the program's inTenths says of a finite number that is not too great. -/
theorem ten_impl {x : Nat} {X : Int} {lo hi : Int} (h : Fin x X) (hb : X.natAbs ≤ 100000 * DD) (hlo : -20000 ≤ lo) (hhi : hi ≤ 20000) :
    ∃ Y n, Fin (fmul x 4621819117588971520) Y ∧ n = sgn (decide (Y < 0)) ((Y.natAbs + HH) / DD) ∧
      impl_inTenths x lo hi = some (n, (decide (lo ≤ n) && decide (n ≤ hi)) && decide (fdiv (fofi n) 4621819117588971520 = x)) := by
  have hD := DD_pos
  have hDH := DD_eq
  have ha := fin_abs h
  have b1 : Bd x 17 := ⟨X, h, Nat.le_trans hb (Nat.mul_le_mul_right _ (by decide))⟩
  have b2 : Bd 4621819117588971520 4 := ⟨_, fin_ten, by rw [scale_abs]; exact Nat.mul_le_mul_right _ (by decide)⟩
  obtain ⟨Y, hY, hYb⟩ := mul_bd b1 b2 (by omega)
  have hY40 : Y.natAbs ≤ 2 ^ 40 * DD := Nat.le_trans hYb (Nat.mul_le_mul_right _ (by decide))
  obtain ⟨z, e1, hz⟩ := round_eq hY (fmul_lt _ _) hY40
  have hq : (Y.natAbs + HH) / DD ≤ 2 ^ 41 := by
    have : (Y.natAbs + HH) / DD < 2 ^ 40 + 1 := by
      rw [Nat.div_lt_iff_lt_mul hD, Nat.add_mul]
      omega
    omega
  have p41 : (2 : Nat) ^ 41 = 2199023255552 := by decide
  have e2 := trunc_fin hz (by rw [sgn_natAbs, Nat.mul_div_cancel _ hD]; omega)
  rw [sgn_natAbs, Nat.mul_div_cancel _ hD] at e2
  have e3 : sgn (decide (sgn (decide (Y < 0)) ((Y.natAbs + HH) / DD * DD) < 0)) ((Y.natAbs + HH) / DD) = sgn (decide (Y < 0)) ((Y.natAbs + HH) / DD) := by
    refine (sgn_same fun h0 => ?_).symm
    have := Nat.mul_eq_zero.1 h0
    omega
  rw [e3] at e2
  refine ⟨Y, _, hY, rfl, ?_⟩
  generalize sgn (decide (Y < 0)) ((Y.natAbs + HH) / DD) = n at e2
  unfold impl_inTenths
  simp only [known_impl, known_fin h, Option.bind_some, Bool.not_true, cond_false, abs_eq (nan_fin h) ha.canon, fgt_fin ha fin_cap, cap_iff hb, e1, e2, in_eq]
  cases hin : (decide (lo ≤ n) && decide (n ≤ hi)) with
  | false => rfl
  | true =>
    simp only [Bool.and_eq_true, decide_eq_true_eq] at hin
    obtain ⟨Z, hZ, _⟩ := bd_div (m := n) (by omega)
    simp only [cond_true, same_impl h hZ, Option.bind_some, Bool.true_and]
theorem in_big {Y : Int} (h : Y.natAbs ≤ 34359738368 * DD) : inBig Y = true := by
  unfold inBig big
  rw [Bool.and_eq_true, decide_eq_true_eq, decide_eq_true_eq]
  have : (34359738368 : Int) * (DD : Int) ≤ 1000000000000000 * (DD : Int) := Int.mul_le_mul_of_nonneg_right (by decide) (by omega)
  omega
/-- Both say the same of tenths. -/
theorem tenths_both {x : Nat} {lo hi : Int} (bx : x < 2 ^ 64) (hlo : -20000 ≤ lo) (hhi : hi ≤ 20000) :
    (∃ m, (lo ≤ m ∧ m ≤ hi) ∧ feq x x = true ∧ impl_inTenths x lo hi = some (m, true) ∧ spec_l5Tenths x lo hi = some (m, true)) ∨
    (∃ n, impl_inTenths x lo hi = some (n, false) ∧ spec_l5Tenths x lo hi = some (0, false)) := by
  by_cases E : ∃ m : Int, (lo ≤ m ∧ m ≤ hi) ∧ x = fdiv (fofi m) 4621819117588971520
  · obtain ⟨m, hm, rfl⟩ := E
    obtain ⟨X, hX, hXb⟩ := bd_div (m := m) (by omega)
    obtain ⟨_, Y, hY, r1, r2, r3⟩ := trip_dist (m := m) (by omega) fin_ten (by omega)
    obtain ⟨Y', n, hY', hn, e⟩ := ten_impl (lo := lo) (hi := hi) hX (Nat.le_trans hXb (Nat.mul_le_mul_right _ (by decide))) hlo hhi
    have hYY : Y' = sgn (decide (m < 0)) Y := fin_uniq hY' hY
    subst hYY
    rw [sgn_natAbs, up_dist r1 r2, up_sign r2] at hn
    subst hn
    refine .inl ⟨n, hm, self_fin hX, ?_, ?_⟩
    · rw [e, decide_eq_true hm.1, decide_eq_true hm.2, decide_eq_true rfl]; rfl
    · unfold spec_l5Tenths
      simp only [spec_in hY (in_big (by rw [sgn_natAbs]; exact r3)), dist_of r1 r2, Option.bind_some, Bool.not_true, cond_false, show ¬ n < lo by omega, show ¬ n > hi by omega, decide_false, same_spec hX]
  · right
    have hspec : spec_l5Tenths x lo hi = some (0, false) := by
      unfold spec_l5Tenths
      rcases nearest_spec (fmul x 4621819117588971520) with ⟨Y, hY, hi', e⟩ | e
      · simp only [e, Option.bind_some, Bool.not_true, cond_false]
        generalize nearV Y = n
        by_cases h1 : n < lo
        · simp only [h1, decide_true, cond_true]
        · by_cases h2 : n > hi
          · simp only [h1, h2, decide_true, decide_false, cond_true, cond_false]
          · obtain ⟨Z, hZ, _⟩ := bd_div (m := n) (by omega)
            have hne : x ≠ fdiv (fofi n) 4621819117588971520 := fun hc => E ⟨n, by omega, hc⟩
            simp only [h1, h2, decide_false, cond_false, same_ne hZ bx (fdiv_lt _ _) hne, Option.bind_some, Bool.not_false, cond_true]
      · simp only [e, Option.bind_some, Bool.not_false, cond_true]
    have himpl : ∃ n, impl_inTenths x lo hi = some (n, false) := by
      rcases read_cases x with ⟨X, h⟩ | ⟨s, h⟩ | ⟨s, t, h⟩
      · by_cases hb : X.natAbs ≤ 100000 * DD
        · obtain ⟨Y, n, _, _, e⟩ := ten_impl (lo := lo) (hi := hi) h hb hlo hhi
          refine ⟨n, ?_⟩
          rw [e]
          cases hin : (decide (lo ≤ n) && decide (n ≤ hi)) with
          | false => rfl
          | true =>
            simp only [Bool.and_eq_true, decide_eq_true_eq] at hin
            rw [decide_eq_false fun hc => E ⟨n, hin, hc.symm⟩]; rfl
        · refine ⟨0, ?_⟩
          have ha := fin_abs h
          unfold impl_inTenths
          simp only [known_impl, known_fin h, Option.bind_some, Bool.not_true, cond_false, abs_eq (nan_fin h) ha.canon, fgt_fin ha fin_cap, show (100000 * (DD : Int) < (X.natAbs : Int)) by omega, decide_true, cond_true]
      · refine ⟨0, ?_⟩
        unfold impl_inTenths
        simp only [known_impl, known_inf h, Option.bind_some, Bool.not_false, cond_true]
      · refine ⟨0, ?_⟩
        unfold impl_inTenths
        simp only [known_impl, known_nan h, Option.bind_some, Bool.not_false, cond_true]
    obtain ⟨n, hn⟩ := himpl
    exact ⟨n, hn, hspec⟩
theorem near_whole {m : Int} (h : m.natAbs ≤ 1000000) : nearV (m * (DD : Int)) = m := near_close (by have := DD_pos; simp; omega)
/-- Both say the same of whole numbers. -/
theorem whole_both {x : Nat} {lo hi : Int} (bx : x < 2 ^ 64) (hlo : -100000 ≤ lo) (hhi : hi ≤ 100000) :
    (∃ m, (lo ≤ m ∧ m ≤ hi) ∧ feq x x = true ∧ impl_wholeOf x lo hi = some (m, true) ∧ spec_l5Is x lo hi = some (m, true)) ∨
    (∃ n, impl_wholeOf x lo hi = some (n, false) ∧ spec_l5Is x lo hi = some (0, false)) := by
  have hp := DD_pos
  -- of a finite number that is not too great
  have fin_impl : ∀ {X : Int}, Fin x X → X.natAbs ≤ 1000000000000000 * DD → impl_wholeOf x lo hi = some (sgn (decide (X < 0)) (X.natAbs / DD), (decide (lo ≤ sgn (decide (X < 0)) (X.natAbs / DD)) && decide (sgn (decide (X < 0)) (X.natAbs / DD) ≤ hi)) && decide (fofi (sgn (decide (X < 0)) (X.natAbs / DD)) = x)) := fun {X} h hb => by
    have ha := fin_abs h
    have ht := trunc_fin h (by have := whole_bound hb; omega)
    generalize sgn (decide (X < 0)) (X.natAbs / DD) = n at ht
    have hc : decide (big * (DD : Int) < (X.natAbs : Int)) = false := decide_eq_false (by unfold big; omega)
    unfold impl_wholeOf
    simp only [known_impl, known_fin h, Option.bind_some, Bool.not_true, cond_false, abs_eq (nan_fin h) ha.canon, fgt_fin ha fin_big, hc, ht, in_eq]
    cases hin : (decide (lo ≤ n) && decide (n ≤ hi)) with
    | false => rfl
    | true =>
      simp only [Bool.and_eq_true, decide_eq_true_eq] at hin
      simp only [cond_true, same_impl h (fin_m (m := n) (by omega)), Option.bind_some, Bool.true_and]
  by_cases E : ∃ m : Int, (lo ≤ m ∧ m ≤ hi) ∧ x = fofi m
  · obtain ⟨m, hm, rfl⟩ := E
    have hX := fin_m (m := m) (by omega)
    have hb : (m * (DD : Int)).natAbs ≤ 100000 * DD := by rw [scale_abs]; exact Nat.mul_le_mul_right _ (by omega)
    have e := fin_impl hX (Nat.le_trans hb (Nat.mul_le_mul_right _ (by decide)))
    have hn : sgn (decide (m * (DD : Int) < 0)) ((m * (DD : Int)).natAbs / DD) = m := by
      rw [scale_abs, Nat.mul_div_cancel _ hp]
      obtain ⟨k, hk⟩ : ∃ k : Nat, k = 1074 := ⟨_, rfl⟩
      rw [DD_pow hk, neg_scale, sgn_abs]
    rw [hn] at e
    refine .inl ⟨m, hm, self_fin hX, ?_, ?_⟩
    · rw [e, decide_eq_true hm.1, decide_eq_true hm.2, decide_eq_true rfl]; rfl
    · unfold spec_l5Is
      simp only [spec_in hX (in_big (Nat.le_trans hb (Nat.mul_le_mul_right _ (by decide)))), near_whole (m := m) (by omega), Option.bind_some, Bool.not_true, cond_false, show ¬ m < lo by omega, show ¬ m > hi by omega, decide_false, same_spec hX]
  · right
    have hspec : spec_l5Is x lo hi = some (0, false) := by
      unfold spec_l5Is
      rcases nearest_spec x with ⟨Y, hY, hi', e⟩ | e
      · simp only [e, Option.bind_some, Bool.not_true, cond_false]
        generalize nearV Y = n
        by_cases h1 : n < lo
        · simp only [h1, decide_true, cond_true]
        · by_cases h2 : n > hi
          · simp only [h1, h2, decide_true, decide_false, cond_true, cond_false]
          · have hne : x ≠ fofi n := fun hc => E ⟨n, by omega, hc⟩
            simp only [h1, h2, decide_false, cond_false, same_ne (fin_m (m := n) (by omega)) bx (fofi_word _) hne, Option.bind_some, Bool.not_false, cond_true]
      · simp only [e, Option.bind_some, Bool.not_false, cond_true]
    have himpl : ∃ n, impl_wholeOf x lo hi = some (n, false) := by
      rcases read_cases x with ⟨X, h⟩ | ⟨s, h⟩ | ⟨s, t, h⟩
      · by_cases hb : X.natAbs ≤ 1000000000000000 * DD
        · have e := fin_impl h hb
          generalize sgn (decide (X < 0)) (X.natAbs / DD) = n at e
          refine ⟨n, ?_⟩
          rw [e]
          cases hin : (decide (lo ≤ n) && decide (n ≤ hi)) with
          | false => rfl
          | true =>
            simp only [Bool.and_eq_true, decide_eq_true_eq] at hin
            rw [decide_eq_false fun hc => E ⟨n, hin, hc.symm⟩]; rfl
        · refine ⟨0, ?_⟩
          have ha := fin_abs h
          have hc : big * (DD : Int) < (X.natAbs : Int) := by unfold big; omega
          unfold impl_wholeOf
          simp only [known_impl, known_fin h, Option.bind_some, Bool.not_true, cond_false, abs_eq (nan_fin h) ha.canon, fgt_fin ha fin_big, hc, decide_true, cond_true]
      · refine ⟨0, ?_⟩
        unfold impl_wholeOf
        simp only [known_impl, known_inf h, Option.bind_some, Bool.not_false, cond_true]
      · refine ⟨0, ?_⟩
        unfold impl_wholeOf
        simp only [known_impl, known_nan h, Option.bind_some, Bool.not_false, cond_true]
    obtain ⟨n, hn⟩ := himpl
    exact ⟨n, hn, hspec⟩
end Go.Proofs.YtondfjckadlabaaDoor.OT

namespace Go.Proofs.YtondfjckadlabaaDoor.OT
open Go Go.Eng Go.FT Ieee Go.Proofs.YtondfjckadlabaaDoor.EX Go.Proofs.YtondfjckadlabaaDoor.NR Go.Proofs.YtondfjckadlabaaDoor.DT
/-! ### values in tenths, whole values -/
noncomputable def tV (x : Nat) (lo hi : Int) : Option Int := match spec_l5Tenths x lo hi with
  | some (m, true) => some m
  | _ => none
noncomputable def hV (x : Nat) (lo hi : Int) : Option Int := match spec_l5Is x lo hi with
  | some (m, true) => some m
  | _ => none
def ok2 (o : Option Int) (n : Int) : Int × Bool := match o with
  | some m => (m, true)
  | none => (n, false)
theorem t_facts {x : Nat} {lo hi : Int} (bx : x < 2 ^ 64) (hlo : -20000 ≤ lo) (hhi : hi ≤ 20000) :
    spec_l5Tenths x lo hi = some (ok2 (tV x lo hi) 0) ∧ (∃ n, impl_inTenths x lo hi = some (ok2 (tV x lo hi) n)) ∧ (∀ m, tV x lo hi = some m → (lo ≤ m ∧ m ≤ hi) ∧ feq x x = true) := by
  rcases tenths_both bx hlo hhi with ⟨m, hm, hf, e1, e2⟩ | ⟨n, e1, e2⟩
  · have : tV x lo hi = some m := by unfold tV; rw [e2]
    rw [this]
    exact ⟨e2, ⟨0, e1⟩, fun m' h => by cases h; exact ⟨hm, hf⟩⟩
  · have : tV x lo hi = none := by unfold tV; rw [e2]
    rw [this]
    exact ⟨e2, ⟨n, e1⟩, fun m' h => by cases h⟩
theorem h_facts {x : Nat} {lo hi : Int} (bx : x < 2 ^ 64) (hlo : -100000 ≤ lo) (hhi : hi ≤ 100000) :
    spec_l5Is x lo hi = some (ok2 (hV x lo hi) 0) ∧ (∃ n, impl_wholeOf x lo hi = some (ok2 (hV x lo hi) n)) ∧ (∀ m, hV x lo hi = some m → (lo ≤ m ∧ m ≤ hi) ∧ feq x x = true) := by
  rcases whole_both bx hlo hhi with ⟨m, hm, hf, e1, e2⟩ | ⟨n, e1, e2⟩
  · have : hV x lo hi = some m := by unfold hV; rw [e2]
    rw [this]
    exact ⟨e2, ⟨0, e1⟩, fun m' h => by cases h; exact ⟨hm, hf⟩⟩
  · have : hV x lo hi = none := by unfold hV; rw [e2]
    rw [this]
    exact ⟨e2, ⟨n, e1⟩, fun m' h => by cases h⟩
theorem ok2_snd (o : Option Int) (n : Int) : (ok2 o n).2 = o.isSome := by cases o <;> rfl
/-! ### is the report right? -/
def inR (a b c : Int) : Bool := decide (b ≤ a) && decide (a ≤ c)
theorem l2In_eq (a b c : Int) : spec_l2In a b c = some (inR a b c) := by
  unfold spec_l2In inR
  by_cases h : a ≥ b <;> simp [h]
theorem in_eq' (a b c : Int) : impl_in a b c = some (inR a b c) := in_eq a b c
noncomputable def goneV (x : Nat) (lo hi : Int) : Bool := !feq x x || (tV x lo hi).isSome
theorem part_eq {x : Nat} {lo hi : Int} (bx : x < 2 ^ 64) (hlo : -20000 ≤ lo) (hhi : hi ≤ 20000) : spec_l5Part x lo hi = some (goneV x lo hi) := by
  obtain ⟨e, _, _⟩ := t_facts bx hlo hhi
  unfold spec_l5Part goneV
  rw [e, Option.bind_some, ok2_snd]
  cases feq x x <;> rfl
theorem gone_eq {x : Nat} {lo hi : Int} (bx : x < 2 ^ 64) (hlo : -20000 ≤ lo) (hhi : hi ≤ 20000) : impl_ObsOk_1 x lo hi = some (goneV x lo hi) := by
  obtain ⟨_, ⟨n, e⟩, _⟩ := t_facts bx hlo hhi
  unfold impl_ObsOk_1 impl_missing goneV
  rw [e]
  simp only [Option.bind_some, ok2_snd]
  cases feq x x <;> rfl
noncomputable def windV (a4 : Int) (a5 : Nat) : Bool := if a4 = -1 then !feq a5 a5 else match hV a5 0 99 with
  | some n => inR a4 0 36 && ((n == 0) == (a4 == 0))
  | none => false
noncomputable def visV (a6 : Nat) : Bool := if feq a6 a6 = true then (match hV a6 0 99990 with
  | some n => n.tmod 10 == 0
  | none => false) else true
def wxV (a8 a9 : Int) : Bool := (a8 == -1 && a9 == -1) || (inR a8 0 99 && inR a9 0 8)
theorem wind_spec {a0 : Int} {a1 a2 a3 : Nat} {a4 : Int} {a5 a6 a7 : Nat} {a8 a9 : Int} (bx : a5 < 2 ^ 64) : spec_l5WindOk a0 a1 a2 a3 a4 a5 a6 a7 a8 a9 = some (windV a4 a5) := by
  obtain ⟨e, _, _⟩ := h_facts (lo := 0) (hi := 99) bx (by omega) (by omega)
  unfold spec_l5WindOk windV
  rw [e]
  by_cases h : a4 = -1
  · simp only [h, beq_self_eq_true, cond_true, if_true]
  · simp only [beq_eq_false_iff_ne.2 h, h, cond_false, if_false, Option.bind_some, l2In_eq]
    cases hV a5 0 99 with
    | none => rfl
    | some n =>
      simp only [ok2, cond_true]
      cases inR a4 0 36 <;> rfl
noncomputable def okO (a0 : Int) (a1 a2 a3 : Nat) (a4 : Int) (a5 a6 a7 : Nat) (a8 a9 : Int) : Bool :=
  inR a0 1 99999 && (goneV a1 (-999) 999 && (goneV a2 (-999) 999 && (goneV a3 5000 14999 && (goneV a7 0 9999 && (windV a4 a5 && (visV a6 && wxV a8 a9))))))
theorem chain (b0 p1 p2 p3 w p7 q : Bool) : (bif b0 then bif p1 then bif p2 then bif p3 then bif w then bif p7 then some q else some false else some false else some false else some false else some false else some false) = some (b0 && (p1 && (p2 && (p3 && (p7 && (w && q)))))) := by
  cases b0 <;> cases p1 <;> cases p2 <;> cases p3 <;> cases w <;> cases p7 <;> rfl
theorem ok_spec {a0 : Int} {a1 a2 a3 : Nat} {a4 : Int} {a5 a6 a7 : Nat} {a8 a9 : Int} (b1 : a1 < 2 ^ 64) (b2 : a2 < 2 ^ 64) (b3 : a3 < 2 ^ 64) (b5 : a5 < 2 ^ 64) (b6 : a6 < 2 ^ 64) (b7 : a7 < 2 ^ 64) :
    spec_ObsOk a0 a1 a2 a3 a4 a5 a6 a7 a8 a9 = some (okO a0 a1 a2 a3 a4 a5 a6 a7 a8 a9) := by
  obtain ⟨e, _, _⟩ := h_facts (lo := 0) (hi := 99990) b6 (by omega) (by omega)
  unfold spec_ObsOk okO
  simp only [e, Option.bind_some, l2In_eq, part_eq b1 (lo := -999) (hi := 999) (by omega) (by omega), part_eq b2 (lo := -999) (hi := 999) (by omega) (by omega), part_eq b3 (lo := 5000) (hi := 14999) (by omega) (by omega), part_eq b7 (lo := 0) (hi := 9999) (by omega) (by omega), wind_spec b5, chain]
  have sky : ∀ C : Bool → Bool, (bif a8 == -1 then bif a9 == -1 then some (C true) else bif inR a8 0 99 then some (C (inR a9 0 8)) else some (C false) else bif inR a8 0 99 then some (C (inR a9 0 8)) else some (C false)) = some (C (wxV a8 a9)) := fun C => by
    unfold wxV
    cases (a8 == -1) <;> cases (a9 == -1) <;> cases inR a8 0 99 <;> simp
  rw [sky fun q => inR a0 1 99999 && (goneV a1 (-999) 999 && (goneV a2 (-999) 999 && (goneV a3 5000 14999 && (goneV a7 0 9999 && (windV a4 a5 && q)))))]
  unfold visV
  cases feq a6 a6 with
  | false => simp
  | true =>
    cases hV a6 0 99990 with
    | none => simp [ok2]
    | some n =>
      simp only [ok2, cond_true, Bool.not_true, cond_false, if_true]
      have : (n.tmod 10 != 0) = !(n.tmod 10 == 0) := rfl
      rw [this]
      cases (n.tmod 10 == 0) <;> simp
theorem ev_no {b : Bool} {F : Nat → Option Bool} {r : Bool} (h : b = true → Ev F r) : Ev (fun k => bif !b then some false else F k) (b && r) := by
  cases b with
  | true => exact h rfl
  | false => exact ev_now _
theorem ok_10 {a0 : Int} {a1 a2 a3 : Nat} {a4 : Int} {a5 a6 a7 : Nat} {a8 a9 : Int} (b6 : a6 < 2 ^ 64) : Ev (fun k => impl_ObsOk_L10 k a0 a1 a2 a3 a4 a5 a6 a7 a8 a9) (visV a6 && wxV a8 a9) := by
  obtain ⟨_, ⟨n, e⟩, _⟩ := h_facts (lo := 0) (hi := 99990) b6 (by omega) (by omega)
  refine ev_succ ?_
  simp only [impl_ObsOk_L10, e, impl_missing, Option.bind_some, in_eq']
  have sky : (bif a8 == -1 then bif a9 == -1 then some true else bif inR a8 0 99 then some (inR a9 0 8) else some false else bif inR a8 0 99 then some (inR a9 0 8) else some false) = some (wxV a8 a9) := by
    unfold wxV
    cases (a8 == -1) <;> cases (a9 == -1) <;> cases inR a8 0 99 <;> simp
  simp only [sky]
  have fin : (bif !!feq a6 a6 then bif !(ok2 (hV a6 0 99990) n).2 then some false else bif (ok2 (hV a6 0 99990) n).1.tmod 10 != 0 then some false else some (wxV a8 a9) else some (wxV a8 a9)) = some (visV a6 && wxV a8 a9) := by
    unfold visV
    cases feq a6 a6 with
    | false => simp
    | true =>
      cases hV a6 0 99990 with
      | none => simp [ok2]
      | some n =>
        simp only [ok2, cond_true, Bool.not_true, Bool.not_false, cond_false, if_true]
        have : (n.tmod 10 != 0) = !(n.tmod 10 == 0) := rfl
        rw [this]
        cases (n.tmod 10 == 0) <;> simp
  rw [fin]
  exact ev_now _
theorem ok_impl {a0 : Int} {a1 a2 a3 : Nat} {a4 : Int} {a5 a6 a7 : Nat} {a8 a9 : Int} (b1 : a1 < 2 ^ 64) (b2 : a2 < 2 ^ 64) (b3 : a3 < 2 ^ 64) (b5 : a5 < 2 ^ 64) (b6 : a6 < 2 ^ 64) (b7 : a7 < 2 ^ 64) :
    impl_ObsOk a0 a1 a2 a3 a4 a5 a6 a7 a8 a9 = some (okO a0 a1 a2 a3 a4 a5 a6 a7 a8 a9) := by
  obtain ⟨_, ⟨n, e⟩, _⟩ := h_facts (lo := 0) (hi := 99) b5 (by omega) (by omega)
  refine evF_eq ?_
  unfold impl_ObsOk_F okO
  simp only [in_eq', gone_eq b1 (lo := -999) (hi := 999) (by omega) (by omega), gone_eq b2 (lo := -999) (hi := 999) (by omega) (by omega), gone_eq b3 (lo := 5000) (hi := 14999) (by omega) (by omega), gone_eq b7 (lo := 0) (hi := 9999) (by omega) (by omega), Option.bind_some, e, impl_missing]
  refine ev_no fun _ => ev_no fun _ => ev_no fun _ => ev_no fun _ => ev_no fun _ => ?_
  have h10 := ok_10 (a0 := a0) (a1 := a1) (a2 := a2) (a3 := a3) (a4 := a4) (a5 := a5) (a7 := a7) (a8 := a8) (a9 := a9) b6
  unfold windV
  by_cases h : a4 = -1
  · simp only [h, beq_self_eq_true, cond_true, if_true]
    rw [h] at h10
    exact ev_no fun _ => h10
  · simp only [beq_eq_false_iff_ne.2 h, h, cond_false, if_false]
    cases hV a5 0 99 with
    | none => exact ev_now _
    | some m =>
      simp only [ok2, Bool.not_true, cond_false]
      rw [Bool.and_assoc]
      exact ev_no fun _ => ev_no fun _ => h10
end Go.Proofs.YtondfjckadlabaaDoor.OT

namespace Go.Proofs.YtondfjckadlabaaDoor.OT
open Go Go.Eng Go.FT Ieee Go.Proofs.YtondfjckadlabaaDoor.EX Go.Proofs.YtondfjckadlabaaDoor.NR Go.Proofs.YtondfjckadlabaaDoor.DT
/-! ### the text -/
theorem bsA (a b : List UInt8) : bs a ++ bs b = bs (a ++ b) := L_inj (by rw [L_append, L_bs, L_bs, L_bs])
abbrev I64 (n : Int) : Prop := -9223372036854775808 ≤ n ∧ n ≤ 9223372036854775807
theorem pad_s {n : Int} (w : Nat) (h : I64 n) (hw : w ≤ 1000) : spec_l2Pad n (w : Int) = some (bs (pad n w)) := l2Pad_eq h.1 h.2 hw
theorem pad_i {n : Int} (w : Nat) (h : I64 n) (hw : w ≤ 1000) : impl_fill n (w : Int) = some (bs (pad n w)) := fill_eq h.1 h.2 hw
theorem pad_l {n : Int} (w : Nat) (h : I64 n) : (pad n w).length ≤ 21 + w := pad_len h.1 h.2
def sg (m : Int) : List UInt8 := if m < 0 then 49 :: pad (-m) 3 else 48 :: pad m 3
def opt (f : Int → List UInt8) (o : Option Int) : List UInt8 := match o with
  | some m => f m
  | none => []
theorem sg_l {m : Int} (h : -999 ≤ m ∧ m ≤ 999) : (sg m).length ≤ 30 := by
  unfold sg
  split
  · have := pad_l (n := -m) 3 ⟨by omega, by omega⟩
    simp; omega
  · have := pad_l (n := m) 3 ⟨by omega, by omega⟩
    simp; omega
theorem signed_eq' {m : Int} (h : -999 ≤ m ∧ m ≤ 999) : spec_l5Signed m = some (bs (sg m)) := by
  unfold spec_l5Signed sg
  by_cases h0 : m < 0
  · have hl := pad_l (n := -m) 3 ⟨by omega, by omega⟩
    have e : IntKind.i64.wrap (0 - m) = -m := by rw [w64 (by omega) (by omega)]; omega
    have p : spec_l2Pad (-m) 3 = some (bs (pad (-m) 3)) := pad_s 3 ⟨by omega, by omega⟩ (by omega)
    simp only [h0, decide_true, cond_true, e, p, Option.bind_some, size_bs, List.length_singleton, show 1 + (pad (-m) 3).length ≤ 9223372036854775807 by omega, if_true, bsA]
    rfl
  · have hl := pad_l (n := m) 3 ⟨by omega, by omega⟩
    have p : spec_l2Pad m 3 = some (bs (pad m 3)) := pad_s 3 ⟨by omega, by omega⟩ (by omega)
    simp only [h0, decide_false, cond_false, p, Option.bind_some, size_bs, List.length_singleton, show 1 + (pad m 3).length ≤ 9223372036854775807 by omega, decide_true, cond_true, if_false, bsA]
    rfl
section
variable {a0 : Int} {a1 a2 a3 : Nat} {a4 : Int} {a5 a6 a7 : Nat} {a8 a9 : Int}
noncomputable def T7 (a8 a9 : Int) : List UInt8 := (if a8 ≥ 0 then [32, 55] ++ pad a8 2 ++ Lib.itoa a9 ++ [48] else []) ++ [61]
noncomputable def T6 (a7 : Nat) (a8 a9 : Int) : List UInt8 := opt (fun m => [32, 54] ++ pad m 4) (tV a7 0 9999) ++ T7 a8 a9
noncomputable def T5 (a6 a7 : Nat) (a8 a9 : Int) : List UInt8 := opt (fun m => [32, 53] ++ pad (m / 10) 4) (hV a6 0 99990) ++ T6 a7 a8 a9
noncomputable def T4 (a4 : Int) (a5 a6 a7 : Nat) (a8 a9 : Int) : List UInt8 := opt (fun m => [32, 52] ++ pad a4 2 ++ pad m 2) (hV a5 0 99) ++ T5 a6 a7 a8 a9
noncomputable def T3 (a3 : Nat) (a4 : Int) (a5 a6 a7 : Nat) (a8 a9 : Int) : List UInt8 := opt (fun m => [32, 51] ++ pad (m.tmod 10000) 4) (tV a3 5000 14999) ++ T4 a4 a5 a6 a7 a8 a9
noncomputable def T2 (a2 a3 : Nat) (a4 : Int) (a5 a6 a7 : Nat) (a8 a9 : Int) : List UInt8 := opt (fun m => [32, 50] ++ sg m) (tV a2 (-999) 999) ++ T3 a3 a4 a5 a6 a7 a8 a9
noncomputable def T1 (a1 a2 a3 : Nat) (a4 : Int) (a5 a6 a7 : Nat) (a8 a9 : Int) : List UInt8 := opt (fun m => [32, 49] ++ sg m) (tV a1 (-999) 999) ++ T2 a2 a3 a4 a5 a6 a7 a8 a9
theorem le_big {n : Nat} (h : n ≤ 100000) : decide (n ≤ 9223372036854775807) = true := decide_eq_true (by omega)
theorem s24 (l : List UInt8) (hl : l.length ≤ 900) : Ev (fun k => spec_ObsText_L24 k (bs l)) (bs (l ++ [61])) := by
  refine ev_succ ?_
  have h1 : decide ((bs l).size + (bs [61]).size ≤ 9223372036854775807) = true := le_big (by rw [size_bs, size_bs]; simp; omega)
  simp only [spec_ObsText_L24, h1, cond_true, bsA]
  exact ev_now _
theorem i21 (l : List UInt8) (hl : l.length ≤ 900) : Ev (fun k => impl_ObsText_L21 k (bs l)) (bs (l ++ [61])) := by
  refine ev_succ ?_
  have h1 : decide ((bs l).size + (bs [61]).size ≤ 9223372036854775807) = true := le_big (by rw [size_bs, size_bs]; simp; omega)
  simp only [impl_ObsText_L21, h1, cond_true, bsA]
  exact ev_now _
theorem s22 (h8 : I64 a8) (h9 : I64 a9) (l : List UInt8) (hl : l.length ≤ 700) : Ev (fun k => spec_ObsText_L22 k (bs l) a0 a1 a2 a3 a4 a5 a6 a7 a8 a9) (bs (l ++ T7 a8 a9)) := by
  refine ev_succ ?_
  unfold T7
  by_cases h : a8 ≥ 0
  · have p1 := pad_l (n := a8) 2 h8
    have p2 := itoa_len h9.1 h9.2
    have e1 : spec_l2Pad a8 2 = some (bs (pad a8 2)) := pad_s 2 h8 (by omega)
    simp only [spec_ObsText_L22, h, decide_true, cond_true, e1, l1Dec_eq h9.1 h9.2, Option.bind_some, if_true, bsA, size_bs, List.length_append, List.length_cons, List.length_nil, show l.length + (0 + 1 + 1) ≤ 9223372036854775807 by omega, show l.length + (0 + 1 + 1) + (pad a8 2).length ≤ 9223372036854775807 by omega, show l.length + (0 + 1 + 1) + (pad a8 2).length + (Lib.itoa a9).length ≤ 9223372036854775807 by omega, show l.length + (0 + 1 + 1) + (pad a8 2).length + (Lib.itoa a9).length + (0 + 1) ≤ 9223372036854775807 by omega]
    refine ev_eq (s24 _ (by simp; omega)) ?_
    simp only [List.append_assoc]
  · simp only [spec_ObsText_L22, h, decide_false, cond_false, if_false, List.nil_append]
    exact s24 l (by omega)
theorem i19 (h8 : I64 a8) (h9 : I64 a9) (l : List UInt8) (hl : l.length ≤ 700) : Ev (fun k => impl_ObsText_L19 k a0 a1 a2 a3 a4 a5 a6 a7 a8 a9 (bs l)) (bs (l ++ T7 a8 a9)) := by
  refine ev_succ ?_
  unfold T7
  by_cases h : a8 ≥ 0
  · have p1 := pad_l (n := a8) 2 h8
    have p2 := itoa_len h9.1 h9.2
    have e1 : impl_fill a8 2 = some (bs (pad a8 2)) := pad_i 2 h8 (by omega)
    simp only [impl_ObsText_L19, h, decide_true, cond_true, e1, dec_eq h9.1 h9.2, Option.bind_some, if_true, bsA, size_bs, List.length_append, List.length_cons, List.length_nil, show 0 + 1 + 1 + (pad a8 2).length ≤ 9223372036854775807 by omega, show 0 + 1 + 1 + (pad a8 2).length + (Lib.itoa a9).length ≤ 9223372036854775807 by omega, show 0 + 1 + 1 + (pad a8 2).length + (Lib.itoa a9).length + (0 + 1) ≤ 9223372036854775807 by omega, show l.length + (0 + 1 + 1 + (pad a8 2).length + (Lib.itoa a9).length + (0 + 1)) ≤ 9223372036854775807 by omega]
    refine ev_eq (i21 _ (by simp; omega)) ?_
    simp only [List.append_assoc]
  · simp only [impl_ObsText_L19, h, decide_false, cond_false, if_false, List.nil_append]
    exact i21 l (by omega)
theorem s19 (b7 : a7 < 2 ^ 64) (h8 : I64 a8) (h9 : I64 a9) (l : List UInt8) (hl : l.length ≤ 600) : Ev (fun k => spec_ObsText_L19 k (bs l) a0 a1 a2 a3 a4 a5 a6 a7 a8 a9) (bs (l ++ T6 a7 a8 a9)) := by
  obtain ⟨e, _, hr⟩ := t_facts (lo := 0) (hi := 9999) b7 (by omega) (by omega)
  refine ev_succ ?_
  unfold T6
  simp only [spec_ObsText_L19, e, Option.bind_some]
  cases ht : tV a7 0 9999 with
  | none => exact s22 h8 h9 l (by omega)
  | some m =>
    have hm := (hr m ht).1
    have p1 := pad_l (n := m) 4 ⟨by omega, by omega⟩
    have e1 : spec_l2Pad m 4 = some (bs (pad m 4)) := pad_s 4 ⟨by omega, by omega⟩ (by omega)
    simp only [ok2, opt, cond_true, e1, Option.bind_some, bsA, size_bs, List.length_append, List.length_cons, List.length_nil, show l.length + (0 + 1 + 1) ≤ 9223372036854775807 by omega, show l.length + (0 + 1 + 1) + (pad m 4).length ≤ 9223372036854775807 by omega, decide_true]
    refine ev_eq (s22 h8 h9 _ (by simp; omega)) ?_
    simp only [List.append_assoc]
theorem i16 (b7 : a7 < 2 ^ 64) (h8 : I64 a8) (h9 : I64 a9) (l : List UInt8) (hl : l.length ≤ 600) : Ev (fun k => impl_ObsText_L16 k a0 a1 a2 a3 a4 a5 a6 a7 a8 a9 (bs l)) (bs (l ++ T6 a7 a8 a9)) := by
  obtain ⟨_, ⟨n, e⟩, hr⟩ := t_facts (lo := 0) (hi := 9999) b7 (by omega) (by omega)
  refine ev_succ ?_
  unfold T6
  simp only [impl_ObsText_L16, e, Option.bind_some]
  cases ht : tV a7 0 9999 with
  | none => exact i19 h8 h9 l (by omega)
  | some m =>
    have hm := (hr m ht).1
    have p1 := pad_l (n := m) 4 ⟨by omega, by omega⟩
    have e1 : impl_fill m 4 = some (bs (pad m 4)) := pad_i 4 ⟨by omega, by omega⟩ (by omega)
    simp only [ok2, opt, cond_true, e1, Option.bind_some, bsA, size_bs, List.length_append, List.length_cons, List.length_nil, show 0 + 1 + 1 + (pad m 4).length ≤ 9223372036854775807 by omega, show l.length + (0 + 1 + 1 + (pad m 4).length) ≤ 9223372036854775807 by omega, decide_true]
    refine ev_eq (i19 h8 h9 _ (by simp; omega)) ?_
    simp only [List.append_assoc]
theorem s16 (b6 : a6 < 2 ^ 64) (b7 : a7 < 2 ^ 64) (h8 : I64 a8) (h9 : I64 a9) (l : List UInt8) (hl : l.length ≤ 500) : Ev (fun k => spec_ObsText_L16 k (bs l) a0 a1 a2 a3 a4 a5 a6 a7 a8 a9) (bs (l ++ T5 a6 a7 a8 a9)) := by
  obtain ⟨e, _, hr⟩ := h_facts (lo := 0) (hi := 99990) b6 (by omega) (by omega)
  refine ev_succ ?_
  unfold T5
  simp only [spec_ObsText_L16, e, Option.bind_some]
  cases ht : hV a6 0 99990 with
  | none => exact s19 b7 h8 h9 l (by omega)
  | some m =>
    have hm := (hr m ht).1
    have ed : IntKind.i64.wrap (m.tdiv 10) = m / 10 := by rw [Int.tdiv_eq_ediv_of_nonneg (by omega), w64 (by omega) (by omega)]
    have p1 := pad_l (n := m / 10) 4 ⟨by omega, by omega⟩
    have e1 : spec_l2Pad (m / 10) 4 = some (bs (pad (m / 10) 4)) := pad_s 4 ⟨by omega, by omega⟩ (by omega)
    simp only [ok2, opt, cond_true, ed, e1, Option.bind_some, bsA, size_bs, List.length_append, List.length_cons, List.length_nil, show l.length + (0 + 1 + 1) ≤ 9223372036854775807 by omega, show l.length + (0 + 1 + 1) + (pad (m / 10) 4).length ≤ 9223372036854775807 by omega, decide_true]
    refine ev_eq (s19 b7 h8 h9 _ (by simp; omega)) ?_
    simp only [List.append_assoc]
theorem i13 (b6 : a6 < 2 ^ 64) (b7 : a7 < 2 ^ 64) (h8 : I64 a8) (h9 : I64 a9) (l : List UInt8) (hl : l.length ≤ 500) : Ev (fun k => impl_ObsText_L13 k a0 a1 a2 a3 a4 a5 a6 a7 a8 a9 (bs l)) (bs (l ++ T5 a6 a7 a8 a9)) := by
  obtain ⟨_, ⟨n, e⟩, hr⟩ := h_facts (lo := 0) (hi := 99990) b6 (by omega) (by omega)
  refine ev_succ ?_
  unfold T5
  simp only [impl_ObsText_L13, e, Option.bind_some]
  cases ht : hV a6 0 99990 with
  | none => exact i16 b7 h8 h9 l (by omega)
  | some m =>
    have hm := (hr m ht).1
    have ed : IntKind.i64.wrap (m.tdiv 10) = m / 10 := by rw [Int.tdiv_eq_ediv_of_nonneg (by omega), w64 (by omega) (by omega)]
    have p1 := pad_l (n := m / 10) 4 ⟨by omega, by omega⟩
    have e1 : impl_fill (m / 10) 4 = some (bs (pad (m / 10) 4)) := pad_i 4 ⟨by omega, by omega⟩ (by omega)
    simp only [ok2, opt, cond_true, ed, e1, Option.bind_some, bsA, size_bs, List.length_append, List.length_cons, List.length_nil, show 0 + 1 + 1 + (pad (m / 10) 4).length ≤ 9223372036854775807 by omega, show l.length + (0 + 1 + 1 + (pad (m / 10) 4).length) ≤ 9223372036854775807 by omega, decide_true]
    refine ev_eq (i16 b7 h8 h9 _ (by simp; omega)) ?_
    simp only [List.append_assoc]
theorem s13 (h4 : I64 a4) (b5 : a5 < 2 ^ 64) (b6 : a6 < 2 ^ 64) (b7 : a7 < 2 ^ 64) (h8 : I64 a8) (h9 : I64 a9) (l : List UInt8) (hl : l.length ≤ 400) : Ev (fun k => spec_ObsText_L13 k (bs l) a0 a1 a2 a3 a4 a5 a6 a7 a8 a9) (bs (l ++ T4 a4 a5 a6 a7 a8 a9)) := by
  obtain ⟨e, _, hr⟩ := h_facts (lo := 0) (hi := 99) b5 (by omega) (by omega)
  refine ev_succ ?_
  unfold T4
  simp only [spec_ObsText_L13, e, Option.bind_some]
  cases ht : hV a5 0 99 with
  | none => exact s16 b6 b7 h8 h9 l (by omega)
  | some m =>
    have hm := (hr m ht).1
    have p1 := pad_l (n := m) 2 ⟨by omega, by omega⟩
    have p2 := pad_l (n := a4) 2 h4
    have e1 : spec_l2Pad m 2 = some (bs (pad m 2)) := pad_s 2 ⟨by omega, by omega⟩ (by omega)
    have e2 : spec_l2Pad a4 2 = some (bs (pad a4 2)) := pad_s 2 h4 (by omega)
    simp only [ok2, opt, cond_true, e1, e2, Option.bind_some, bsA, size_bs, List.length_append, List.length_cons, List.length_nil, show l.length + (0 + 1 + 1) ≤ 9223372036854775807 by omega, show l.length + (0 + 1 + 1) + (pad a4 2).length ≤ 9223372036854775807 by omega, show l.length + (0 + 1 + 1) + (pad a4 2).length + (pad m 2).length ≤ 9223372036854775807 by omega, decide_true]
    refine ev_eq (s16 b6 b7 h8 h9 _ (by simp; omega)) ?_
    simp only [List.append_assoc]
theorem i10 (h4 : I64 a4) (b5 : a5 < 2 ^ 64) (b6 : a6 < 2 ^ 64) (b7 : a7 < 2 ^ 64) (h8 : I64 a8) (h9 : I64 a9) (l : List UInt8) (hl : l.length ≤ 400) : Ev (fun k => impl_ObsText_L10 k a0 a1 a2 a3 a4 a5 a6 a7 a8 a9 (bs l)) (bs (l ++ T4 a4 a5 a6 a7 a8 a9)) := by
  obtain ⟨_, ⟨n, e⟩, hr⟩ := h_facts (lo := 0) (hi := 99) b5 (by omega) (by omega)
  refine ev_succ ?_
  unfold T4
  simp only [impl_ObsText_L10, e, Option.bind_some]
  cases ht : hV a5 0 99 with
  | none => exact i13 b6 b7 h8 h9 l (by omega)
  | some m =>
    have hm := (hr m ht).1
    have p1 := pad_l (n := m) 2 ⟨by omega, by omega⟩
    have p2 := pad_l (n := a4) 2 h4
    have e1 : impl_fill m 2 = some (bs (pad m 2)) := pad_i 2 ⟨by omega, by omega⟩ (by omega)
    have e2 : impl_fill a4 2 = some (bs (pad a4 2)) := pad_i 2 h4 (by omega)
    simp only [ok2, opt, cond_true, e1, e2, Option.bind_some, bsA, size_bs, List.length_append, List.length_cons, List.length_nil, show 0 + 1 + 1 + (pad a4 2).length ≤ 9223372036854775807 by omega, show 0 + 1 + 1 + (pad a4 2).length + (pad m 2).length ≤ 9223372036854775807 by omega, show l.length + (0 + 1 + 1 + (pad a4 2).length + (pad m 2).length) ≤ 9223372036854775807 by omega, decide_true]
    refine ev_eq (i13 b6 b7 h8 h9 _ (by simp; omega)) ?_
    simp only [List.append_assoc]
theorem tm (m : Int) (h : 5000 ≤ m ∧ m ≤ 14999) : 0 ≤ m.tmod 10000 ∧ m.tmod 10000 < 10000 := ⟨Int.tmod_nonneg _ (by omega), Int.tmod_lt_of_pos _ (by omega)⟩
theorem s10 (b3 : a3 < 2 ^ 64) (h4 : I64 a4) (b5 : a5 < 2 ^ 64) (b6 : a6 < 2 ^ 64) (b7 : a7 < 2 ^ 64) (h8 : I64 a8) (h9 : I64 a9) (l : List UInt8) (hl : l.length ≤ 300) : Ev (fun k => spec_ObsText_L10 k (bs l) a0 a1 a2 a3 a4 a5 a6 a7 a8 a9) (bs (l ++ T3 a3 a4 a5 a6 a7 a8 a9)) := by
  obtain ⟨e, _, hr⟩ := t_facts (lo := 5000) (hi := 14999) b3 (by omega) (by omega)
  refine ev_succ ?_
  unfold T3
  simp only [spec_ObsText_L10, e, Option.bind_some]
  cases ht : tV a3 5000 14999 with
  | none => exact s13 h4 b5 b6 b7 h8 h9 l (by omega)
  | some m =>
    have hm := tm m (hr m ht).1
    have p1 := pad_l (n := m.tmod 10000) 4 ⟨by omega, by omega⟩
    have e1 : spec_l2Pad (m.tmod 10000) 4 = some (bs (pad (m.tmod 10000) 4)) := pad_s 4 ⟨by omega, by omega⟩ (by omega)
    simp only [ok2, opt, cond_true, e1, Option.bind_some, bsA, size_bs, List.length_append, List.length_cons, List.length_nil, show l.length + (0 + 1 + 1) ≤ 9223372036854775807 by omega, show l.length + (0 + 1 + 1) + (pad (m.tmod 10000) 4).length ≤ 9223372036854775807 by omega, decide_true]
    refine ev_eq (s13 h4 b5 b6 b7 h8 h9 _ (by simp; omega)) ?_
    simp only [List.append_assoc]
theorem i7 (b3 : a3 < 2 ^ 64) (h4 : I64 a4) (b5 : a5 < 2 ^ 64) (b6 : a6 < 2 ^ 64) (b7 : a7 < 2 ^ 64) (h8 : I64 a8) (h9 : I64 a9) (l : List UInt8) (hl : l.length ≤ 300) : Ev (fun k => impl_ObsText_L7 k a0 a1 a2 a3 a4 a5 a6 a7 a8 a9 (bs l)) (bs (l ++ T3 a3 a4 a5 a6 a7 a8 a9)) := by
  obtain ⟨_, ⟨n, e⟩, hr⟩ := t_facts (lo := 5000) (hi := 14999) b3 (by omega) (by omega)
  refine ev_succ ?_
  unfold T3
  simp only [impl_ObsText_L7, e, Option.bind_some]
  cases ht : tV a3 5000 14999 with
  | none => exact i10 h4 b5 b6 b7 h8 h9 l (by omega)
  | some m =>
    have hm := tm m (hr m ht).1
    have p1 := pad_l (n := m.tmod 10000) 4 ⟨by omega, by omega⟩
    have e1 : impl_fill (m.tmod 10000) 4 = some (bs (pad (m.tmod 10000) 4)) := pad_i 4 ⟨by omega, by omega⟩ (by omega)
    simp only [ok2, opt, cond_true, e1, Option.bind_some, bsA, size_bs, List.length_append, List.length_cons, List.length_nil, show 0 + 1 + 1 + (pad (m.tmod 10000) 4).length ≤ 9223372036854775807 by omega, show l.length + (0 + 1 + 1 + (pad (m.tmod 10000) 4).length) ≤ 9223372036854775807 by omega, decide_true]
    refine ev_eq (i10 h4 b5 b6 b7 h8 h9 _ (by simp; omega)) ?_
    simp only [List.append_assoc]
theorem s7 (b2 : a2 < 2 ^ 64) (b3 : a3 < 2 ^ 64) (h4 : I64 a4) (b5 : a5 < 2 ^ 64) (b6 : a6 < 2 ^ 64) (b7 : a7 < 2 ^ 64) (h8 : I64 a8) (h9 : I64 a9) (l : List UInt8) (hl : l.length ≤ 200) : Ev (fun k => spec_ObsText_L7 k (bs l) a0 a1 a2 a3 a4 a5 a6 a7 a8 a9) (bs (l ++ T2 a2 a3 a4 a5 a6 a7 a8 a9)) := by
  obtain ⟨e, _, hr⟩ := t_facts (lo := -999) (hi := 999) b2 (by omega) (by omega)
  refine ev_succ ?_
  unfold T2
  simp only [spec_ObsText_L7, e, Option.bind_some]
  cases ht : tV a2 (-999) 999 with
  | none => exact s10 b3 h4 b5 b6 b7 h8 h9 l (by omega)
  | some m =>
    have hm := (hr m ht).1
    have p1 := sg_l hm
    simp only [ok2, opt, cond_true, signed_eq' hm, Option.bind_some, bsA, size_bs, List.length_append, List.length_cons, List.length_nil, show l.length + (0 + 1 + 1) ≤ 9223372036854775807 by omega, show l.length + (0 + 1 + 1) + (sg m).length ≤ 9223372036854775807 by omega, decide_true]
    refine ev_eq (s10 b3 h4 b5 b6 b7 h8 h9 _ (by simp; omega)) ?_
    simp only [List.append_assoc]
/-- A temperature's group, by the program. -/
theorem temp_impl {g : UInt8} {x : Nat} (bx : x < 2 ^ 64) (hg : goneV x (-999) 999 = true) (l : List UInt8) (hl : l.length ≤ 200) : impl_ObsText_1 (bs [g]) x (bs l) = some (bs (l ++ opt (fun m => [32, g] ++ sg m) (tV x (-999) 999))) := by
  obtain ⟨_, ⟨n, e⟩, hr⟩ := t_facts (lo := -999) (hi := 999) bx (by omega) (by omega)
  refine evF_eq ?_
  simp only [impl_ObsText_1_F, impl_missing, Option.bind_some, e]
  unfold goneV at hg
  cases ht : tV x (-999) 999 with
  | none =>
    rw [ht] at hg
    have : (!feq x x) = true := by simpa using hg
    simp only [this, cond_true, opt, List.append_nil]
    exact ev_now _
  | some m =>
    obtain ⟨hm, hf⟩ := hr m ht
    simp only [hf, Bool.not_true, cond_false, ok2, opt, sg]
    have l5 : ∀ (q : Int) (c : UInt8), 0 ≤ q ∧ q ≤ 999 → Ev (fun k => impl_ObsText_1_L5 k (bs [g]) q (bs [c]) (bs l)) (bs (l ++ ([32, g] ++ (c :: pad q 3)))) := fun q c hq => by
      have p1 := pad_l (n := q) 3 ⟨by omega, by omega⟩
      have e1 : impl_fill q 3 = some (bs (pad q 3)) := pad_i 3 ⟨by omega, by omega⟩ (by omega)
      refine ev_succ ?_
      simp only [impl_ObsText_1_L5, e1, Option.bind_some, bsA, size_bs, List.length_append, List.length_cons, List.length_nil, show 0 + 1 + (0 + 1) ≤ 9223372036854775807 by omega, show 0 + 1 + (0 + 1) + (0 + 1) ≤ 9223372036854775807 by omega, show 0 + 1 + (0 + 1) + (0 + 1) + (pad q 3).length ≤ 9223372036854775807 by omega, show l.length + (0 + 1 + (0 + 1) + (0 + 1) + (pad q 3).length) ≤ 9223372036854775807 by omega, decide_true, cond_true]
      refine ev_eq (ev_now _) ?_
      simp
    by_cases h0 : m < 0
    · have ew : IntKind.i64.wrap (0 - m) = -m := by rw [w64 (by omega) (by omega)]; omega
      simp only [h0, decide_true, cond_true, if_true, ew]
      exact l5 (-m) 49 ⟨by omega, by omega⟩
    · simp only [h0, decide_false, cond_false, if_false]
      exact l5 m 48 ⟨by omega, by omega⟩
end
theorem law (a0 : Int) (a1 a2 a3 : Nat) (a4 : Int) (a5 a6 a7 : Nat) (a8 a9 : Int) (h0 : I64 a0) (b1 : a1 < 2 ^ 64) (b2 : a2 < 2 ^ 64) (b3 : a3 < 2 ^ 64) (h4 : I64 a4) (b5 : a5 < 2 ^ 64) (b6 : a6 < 2 ^ 64) (b7 : a7 < 2 ^ 64) (h8 : I64 a8) (h9 : I64 a9) :
    laws_FnExactObsText a0 a1 a2 a3 a4 a5 a6 a7 a8 a9 = some true := by
  have both : ∃ t, spec_ObsText a0 a1 a2 a3 a4 a5 a6 a7 a8 a9 = some t ∧ impl_ObsText a0 a1 a2 a3 a4 a5 a6 a7 a8 a9 = some t := by
    cases hok : okO a0 a1 a2 a3 a4 a5 a6 a7 a8 a9 with
    | false =>
      refine ⟨bs [], evF_eq ?_, evF_eq ?_⟩
      · simp only [spec_ObsText_F, ok_spec b1 b2 b3 b5 b6 b7, hok, Option.bind_some, Bool.not_false, cond_true]
        exact ev_now _
      · simp only [impl_ObsText_F, ok_impl b1 b2 b3 b5 b6 b7, hok, Option.bind_some, Bool.not_false, cond_true]
        exact ev_now _
    | true =>
      have hk := hok
      simp only [okO, Bool.and_eq_true] at hk
      obtain ⟨_, g1, g2, _⟩ := hk
      have p0 := pad_l (n := a0) 5 h0
      have e0 : spec_l2Pad a0 5 = some (bs (pad a0 5)) := pad_s 5 h0 (by omega)
      have e0' : impl_fill a0 5 = some (bs (pad a0 5)) := pad_i 5 h0 (by omega)
      obtain ⟨e, _, hr⟩ := t_facts (lo := -999) (hi := 999) b1 (by omega) (by omega)
      refine ⟨bs (pad a0 5 ++ T1 a1 a2 a3 a4 a5 a6 a7 a8 a9), evF_eq ?_, evF_eq ?_⟩
      · simp only [spec_ObsText_F, ok_spec b1 b2 b3 b5 b6 b7, hok, Option.bind_some, Bool.not_true, cond_false, e0, e]
        unfold T1
        cases ht : tV a1 (-999) 999 with
        | none => exact s7 b2 b3 h4 b5 b6 b7 h8 h9 (pad a0 5) (by omega)
        | some m =>
          have hm := (hr m ht).1
          have p1 := sg_l hm
          simp only [ok2, opt, cond_true, signed_eq' hm, Option.bind_some, bsA, size_bs, List.length_append, List.length_cons, List.length_nil, show (pad a0 5).length + (0 + 1 + 1) ≤ 9223372036854775807 by omega, show (pad a0 5).length + (0 + 1 + 1) + (sg m).length ≤ 9223372036854775807 by omega, decide_true]
          refine ev_eq (s7 b2 b3 h4 b5 b6 b7 h8 h9 _ (by simp; omega)) ?_
          simp only [List.append_assoc]
      · have ol : ∀ (c : UInt8) (x : Nat), x < 2 ^ 64 → (opt (fun m => [32, c] ++ sg m) (tV x (-999) 999)).length ≤ 40 := fun c x bx => by
          obtain ⟨_, _, hr⟩ := t_facts (lo := -999) (hi := 999) bx (by omega) (by omega)
          cases ht : tV x (-999) 999 with
          | none => simp [opt]
          | some m =>
            have := sg_l (hr m ht).1
            simp [opt]; omega
        have l1 := ol 49 a1 b1
        have l2 := ol 50 a2 b2
        have t1 := temp_impl (g := 49) b1 g1 (pad a0 5) (by omega)
        have t2 := temp_impl (g := 50) b2 g2 (pad a0 5 ++ opt (fun m => [32, 49] ++ sg m) (tV a1 (-999) 999)) (by rw [List.length_append]; omega)
        simp only [impl_ObsText_F, ok_impl b1 b2 b3 b5 b6 b7, hok, Option.bind_some, Bool.not_true, cond_false, e0', t1, t2]
        refine ev_eq (i7 b3 h4 b5 b6 b7 h8 h9 _ (by rw [List.length_append, List.length_append]; omega)) ?_
        unfold T1 T2
        simp only [List.append_assoc]
  obtain ⟨t, e1, e2⟩ := both
  unfold laws_FnExactObsText
  have eT : laws_toObs a0 a1 a2 a3 a4 a5 a6 a7 a8 a9 = some (a0, a1, a2, a3, a4, a5, a6, a7, a8, a9) := rfl
  simp only [eT, e1, e2, Option.bind_some, beq_self_eq_true, Bool.not_true, cond_false]
end Go.Proofs.YtondfjckadlabaaDoor.OT

namespace Go.Proofs.YtondfjckadlabaaDoor.OT
open Go Go.Eng
theorem pure (z0 : denKs [.int .i64, .flt, .flt, .flt, .int .i64, .flt, .flt, .flt, .int .i64, .int .i64]) (h0 : wfKs [.int .i64, .flt, .flt, .flt, .int .i64, .flt, .flt, .flt, .int .i64, .int .i64] z0) :
    g_laws_FnExactObsText.fn ((z0, ()), ()) = some true := by
  obtain ⟨w0, w1, w2, w3, w4, w5, w6, w7, w8, w9, _⟩ := h0
  exact law z0.1 z0.2.1 z0.2.2.1 z0.2.2.2.1 z0.2.2.2.2.1 z0.2.2.2.2.2.1 z0.2.2.2.2.2.2.1 z0.2.2.2.2.2.2.2.1 z0.2.2.2.2.2.2.2.2.1 z0.2.2.2.2.2.2.2.2.2.1 (wf_i64.1 w0) w1.2 w2.2 w3.2 (wf_i64.1 w4) w5.2 w6.2 w7.2 (wf_i64.1 w8) (wf_i64.1 w9)
end Go.Proofs.YtondfjckadlabaaDoor.OT
