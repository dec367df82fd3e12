/-
  Part of a proof by the engine: texts that a program of ours printed, or plain lemmas on them. No condition but what each theorem says.
-/
import Derived.Test.YtgkejafaggaocaaSJ
import Derived.Test.YtgkejafaggaocaaFT
set_option linter.unusedVariables false
set_option linter.unusedSimpArgs false
namespace Go.Proofs.Ytgkejafaggaocaa.SJ
open Go Go.Eng Go.FT Ieee Go.Proofs.Ytgkejafaggaocaa.EX
theorem mask_eq (y : Nat) : IntKind.u64.wrap (((BitVec.ofInt IntKind.u64.bits (y : Int) &&& ~~~BitVec.ofInt IntKind.u64.bits 9223372036854775808).toNat : Nat) : Int) = ((y % 2 ^ 63 : Nat) : Int) := by
  have e0 : IntKind.u64.bits = 64 := rfl
  have e1 : (BitVec.ofInt 64 (y : Int) &&& ~~~BitVec.ofInt 64 9223372036854775808).toNat = y % 2 ^ 63 := by
    have m : ~~~BitVec.ofInt 64 9223372036854775808 = BitVec.ofNat 64 (2 ^ 63 - 1) := by decide
    rw [m, BitVec.toNat_and, BitVec.toNat_ofNat, BitVec.toNat_ofInt]
    rw [show (2 ^ 63 - 1) % 2 ^ 64 = 2 ^ 63 - 1 from by decide, Nat.and_two_pow_sub_one_eq_mod]
    omega
  rw [e0, e1]
  have : y % 2 ^ 63 < 2 ^ 63 := Nat.mod_lt _ (by decide)
  rw [wu64 (by omega) (by omega)]
theorem abs_eq {y : Nat} (h : isNaNB y = false) (hc : canonF (y % 2 ^ 63) = y % 2 ^ 63) : math_Abs y = some (y % 2 ^ 63) := by
  unfold math_Abs dFb dFf
  rw [h]
  simp only [cond_false, Option.bind_some, mask_eq, Int.toNat_natCast, hc]
theorem nan_fin {y : Nat} {Y : Int} (h : Fin y Y) : isNaNB y = false := by
  obtain ⟨s, m, p, h, _⟩ := h
  show (double.read y).isNaN = false
  rw [h]; rfl
theorem canon_inf {y : Nat} {s : Bool} (h : double.read y = .infinity s) : canonF y = y := by
  unfold canonF
  have : (FloatKind.f64.decode y).isNaN = false := by show (double.read y).isNaN = false; rw [h]; rfl
  rw [this]; rfl
theorem known_spec (y : Nat) : spec_Known y = some (feq (fsub y y) 0) := rfl
theorem known_impl (y : Nat) : impl_Known y = some (feq (fsub y y) 0) := by
  unfold impl_Known impl_missing
  rcases read_cases y with ⟨Y, h⟩ | ⟨s, h⟩ | ⟨s, t, h⟩
  · have hr : double.read (y % 2 ^ 63) = _ := read_abs y
    have ha := fin_abs h
    simp only [self_fin h, known_fin h, Bool.not_true, Option.bind_some, Bool.not_false, cond_true, math_IsInf, beq_self_eq_true, abs_eq (nan_fin h) ha.canon, not_over ha]
  · have hr := read_abs y
    rw [h] at hr
    have hn : isNaNB y = false := by show (double.read y).isNaN = false; rw [h]; rfl
    simp only [self_inf h, known_inf h, Bool.not_true, Option.bind_some, Bool.not_false, cond_true, math_IsInf, beq_self_eq_true, abs_eq hn (canon_inf hr), inf_over hr]
  · simp only [self_nan h, known_nan h, Bool.not_true, Option.bind_some, Bool.not_false, cond_false]
theorem in_eq (a b c : Int) : impl_in a b c = some (decide (b ≤ a) && decide (a ≤ c)) := by
  unfold impl_in
  by_cases h : a ≥ b
  · simp [h]
  · simp [h]
theorem l2In_eq (a b c : Int) : spec_l2In a b c = some (decide (b ≤ a) && decide (a ≤ c)) := by
  unfold spec_l2In
  by_cases h : a ≥ b
  · simp [h]
  · simp [h]
abbrev LV := List (Int × Nat)
noncomputable def pr (l : LV) (i : Int) : Int := (rd K2_0 l i).fst
noncomputable def tm (l : LV) (i : Int) : Nat := (rd K2_0 l i).snd
noncomputable def okAt (l : LV) (n : Nat) : Bool :=
  (decide (1 ≤ pr l n) && decide (pr l n ≤ 12000)) && ((!decide ((n : Int) > 0) || !decide (pr l n ≥ pr l ((n : Int) - 1))) &&
    (feq (fsub (tm l n) (tm l n)) 0 && (!Go.Eng.flt (tm l n) 13864612927836782592 && !fgt (tm l n) 4641240890982006784)))
noncomputable def asc (l : LV) : Nat → Nat → Bool
  | 0, _ => true
  | m + 1, n => okAt l n && asc l m (n + 1)
theorem asc_at {l : LV} : ∀ {m n : Nat}, asc l m n = true → ∀ i, n ≤ i → i < n + m → okAt l i = true
  | 0, n, _, i, h1, h2 => by omega
  | m + 1, n, h, i, h1, h2 => by
    simp only [asc, Bool.and_eq_true] at h
    by_cases e : i = n
    · subst e; exact h.1
    · exact asc_at h.2 i (by omega) (by omega)
theorem spec_asc (l : LV) (hl : l.length ≤ 400) : ∀ m n : Nat, n + m = l.length → Ev (fun k => spec_AscentOk_L4 k l n) (asc l m n)
  | 0, n, h => by
    apply ev_succ
    simp only [spec_AscentOk_L4, show ¬ ((n : Int) < (l.length : Int)) by omega, decide_false, cond_false, asc]
    exact ev_now _
  | m + 1, n, h => by
    apply ev_succ
    have e1 : IntKind.i64.wrap ((n : Int) - 1) = (n : Int) - 1 := w64 (by omega) (by omega)
    have e2 : IntKind.i64.wrap ((n : Int) + 1) = ((n + 1 : Nat) : Int) := by rw [w64 (by omega) (by omega)]; omega
    have ih := spec_asc l hl m (n + 1) (by omega)
    simp only [spec_AscentOk_L4, show (n : Int) < (l.length : Int) by omega, show (0 : Int) ≤ (n : Int) by omega, decide_true, cond_true, l2In_eq, Option.bind_some, e1, e2, known_spec, asc, okAt]
    show Ev (fun k => bif !(decide (1 ≤ pr l n) && decide (pr l n ≤ 12000)) then _ else _) _
    unfold pr tm
    generalize (decide (1 ≤ (rd K2_0 l n).fst) && decide ((rd K2_0 l n).fst ≤ 12000)) = b1
    generalize feq (fsub (rd K2_0 l n).snd (rd K2_0 l n).snd) 0 = b3
    generalize Go.Eng.flt (rd K2_0 l n).snd 13864612927836782592 = b4
    generalize fgt (rd K2_0 l n).snd 4641240890982006784 = b5
    generalize decide ((rd K2_0 l n).fst ≥ (rd K2_0 l ((n : Int) - 1)).fst) = b2
    by_cases h0 : (n : Int) > 0
    · simp only [h0, decide_true, cond_true, show (0 : Int) ≤ (n : Int) - 1 by omega, show (n : Int) - 1 < (l.length : Int) by omega, Bool.not_true, Bool.false_or]
      cases b1 <;> cases b2 <;> cases b3 <;> cases b4 <;> cases b5 <;> first | exact ev_now _ | exact ih
    · simp only [h0, decide_false, cond_false, Bool.not_false, Bool.true_or]
      cases b1 <;> cases b3 <;> cases b4 <;> cases b5 <;> first | exact ev_now _ | exact ih
theorem impl_asc (l : LV) (hl : l.length ≤ 400) : ∀ m n : Nat, n + m = l.length → Ev (fun k => impl_AscentOk_L4 k l l l.length n) (asc l m n)
  | 0, n, h => by
    apply ev_succ
    simp only [impl_AscentOk_L4, show ¬ ((n : Int) < (l.length : Int)) by omega, decide_false, cond_false, asc]
    exact ev_now _
  | m + 1, n, h => by
    apply ev_succ
    have e1 : IntKind.i64.wrap ((n : Int) - 1) = (n : Int) - 1 := w64 (by omega) (by omega)
    have e2 : IntKind.i64.wrap ((n : Int) + 1) = ((n + 1 : Nat) : Int) := by rw [w64 (by omega) (by omega)]; omega
    have ih := impl_asc l hl m (n + 1) (by omega)
    simp only [impl_AscentOk_L4, show (n : Int) < (l.length : Int) by omega, show (0 : Int) ≤ (n : Int) by omega, decide_true, cond_true, in_eq, Option.bind_some, e1, e2, known_impl, asc, okAt]
    show Ev (fun k => bif !(decide (1 ≤ pr l n) && decide (pr l n ≤ 12000)) then _ else _) _
    unfold pr tm
    generalize (decide (1 ≤ (rd K2_0 l n).fst) && decide ((rd K2_0 l n).fst ≤ 12000)) = b1
    generalize feq (fsub (rd K2_0 l n).snd (rd K2_0 l n).snd) 0 = b3
    generalize Go.Eng.flt (rd K2_0 l n).snd 13864612927836782592 = b4
    generalize fgt (rd K2_0 l n).snd 4641240890982006784 = b5
    generalize decide ((rd K2_0 l n).fst ≥ (rd K2_0 l ((n : Int) - 1)).fst) = b2
    by_cases h0 : (n : Int) > 0
    · simp only [h0, decide_true, cond_true, show (0 : Int) ≤ (n : Int) - 1 by omega, show (n : Int) - 1 < (l.length : Int) by omega, Bool.not_true, Bool.false_or]
      cases b1 <;> cases b2 <;> cases b3 <;> cases b4 <;> cases b5 <;> first | exact ev_now _ | exact ih
    · simp only [h0, decide_false, cond_false, Bool.not_false, Bool.true_or]
      cases b1 <;> cases b3 <;> cases b4 <;> cases b5 <;> first | exact ev_now _ | exact ih
noncomputable def ascV (l : LV) : Bool := (decide (2 ≤ (l.length : Int)) && decide ((l.length : Int) ≤ 400)) && asc l l.length 0
theorem spec_ok (l : LV) : spec_AscentOk l = some (ascV l) := by
  refine evF_eq ?_
  unfold spec_AscentOk_F ascV
  by_cases h1 : (l.length : Int) < 2
  · simp only [h1, decide_true, cond_true, show ¬ (2 ≤ (l.length : Int)) by omega, decide_false, Bool.false_and]
    exact ev_now _
  · by_cases h2 : (l.length : Int) > 400
    · simp only [h1, h2, decide_true, decide_false, cond_true, cond_false, show ¬ ((l.length : Int) ≤ 400) by omega, Bool.and_false, Bool.false_and]
      exact ev_now _
    · simp only [h1, h2, decide_true, decide_false, cond_false, show (2 ≤ (l.length : Int)) by omega, show ((l.length : Int) ≤ 400) by omega, Bool.and_true, Bool.true_and]
      exact spec_asc l (by omega) l.length 0 (by omega)
theorem impl_ok (l : LV) : impl_AscentOk l = some (ascV l) := by
  refine evF_eq ?_
  unfold impl_AscentOk_F ascV
  simp only [in_eq, Option.bind_some]
  cases h : (decide (2 ≤ (l.length : Int)) && decide ((l.length : Int) ≤ 400))
  · simp only [Bool.not_false, cond_true, Bool.false_and]
    exact ev_now _
  · simp only [Bool.and_eq_true, decide_eq_true_eq] at h
    simp only [Bool.not_true, cond_false, Bool.true_and]
    exact impl_asc l (by omega) l.length 0 (by omega)
end Go.Proofs.Ytgkejafaggaocaa.SJ

namespace Go.Proofs.Ytgkejafaggaocaa.SJ
open Go Go.Eng Go.FT Ieee Go.Proofs.Ytgkejafaggaocaa.EX
theorem fin_200 : Fin 4641240890982006784 (200 * (DD : Int)) := by
  obtain ⟨d, hd⟩ : ∃ d : Nat, d = 1029 := ⟨_, rfl⟩
  refine ⟨false, 7036874417766400, -45, by decide, by omega, ?_, by decide⟩
  rw [show ((-45 : Int) + 1074).toNat = d by omega, DD_pow (k := d + 45) (by omega), Nat.pow_add]
  unfold sgn
  simp only [Bool.false_eq_true, if_false]
  rw [show (7036874417766400 * 2 ^ d : Nat) = 200 * (2 ^ d * 2 ^ 45) by omega]
  omega
theorem fin_n200 : Fin 13864612927836782592 (-(200 * (DD : Int))) := by
  obtain ⟨d, hd⟩ : ∃ d : Nat, d = 1029 := ⟨_, rfl⟩
  refine ⟨true, 7036874417766400, -45, by decide, by omega, ?_, by decide⟩
  rw [show ((-45 : Int) + 1074).toNat = d by omega, DD_pow (k := d + 45) (by omega), Nat.pow_add]
  unfold sgn
  simp only [if_true]
  rw [show (7036874417766400 * 2 ^ d : Nat) = 200 * (2 ^ d * 2 ^ 45) by omega]
  omega
/-- A number that is known. -/
theorem fin_of_known {y : Nat} (h : feq (fsub y y) 0 = true) : ∃ Y, Fin y Y := by
  rcases read_cases y with ⟨Y, k⟩ | ⟨s, k⟩ | ⟨s, t, k⟩
  · exact ⟨Y, k⟩
  · rw [known_inf k] at h; cases h
  · rw [known_nan k] at h; cases h
theorem ok_parts {l : LV} {n : Nat} (h : okAt l n = true) : (1 ≤ pr l n ∧ pr l n ≤ 12000) ∧ ((n : Int) > 0 → pr l n < pr l ((n : Int) - 1)) ∧ Bd (tm l n) 8 := by
  simp only [okAt, Bool.and_eq_true, Bool.or_eq_true, Bool.not_eq_true', decide_eq_true_eq, decide_eq_false_iff_not] at h
  obtain ⟨h1, h2, h3, h4, h5⟩ := h
  refine ⟨h1, fun h0 => ?_, ?_⟩
  · rcases h2 with h2 | h2
    · exact absurd h0 h2
    · omega
  · obtain ⟨Y, hY⟩ := fin_of_known h3
    rw [flt_fin hY fin_n200] at h4
    rw [fgt_fin hY fin_200] at h5
    have h4' := of_decide_eq_false h4
    have h5' := of_decide_eq_false h5
    have := DD_pos
    exact ⟨Y, hY, by omega⟩
theorem asc_ok {l : LV} (h : ascV l = true) : (2 ≤ l.length ∧ l.length ≤ 400) ∧ ∀ n < l.length, okAt l n = true := by
  simp only [ascV, Bool.and_eq_true, decide_eq_true_eq] at h
  exact ⟨by omega, fun n hn => asc_at h.2 n (by omega) (by omega)⟩
theorem pr_lt {l : LV} (h : ascV l = true) : ∀ {d i : Nat}, i + d + 1 < l.length → pr l ((i + d + 1 : Nat) : Int) < pr l (i : Int)
  | 0, i, hi => by
    have := (ok_parts ((asc_ok h).2 (i + 0 + 1) hi)).2.1 (by omega)
    rw [show ((i + 0 + 1 : Nat) : Int) - 1 = (i : Int) by omega] at this
    exact this
  | d + 1, i, hi => by
    have := (ok_parts ((asc_ok h).2 (i + (d + 1) + 1) hi)).2.1 (by omega)
    rw [show ((i + (d + 1) + 1 : Nat) : Int) - 1 = ((i + d + 1 : Nat) : Int) by omega] at this
    exact Int.lt_trans this (pr_lt h (by omega))
theorem pr_less {l : LV} (h : ascV l = true) {i j : Nat} (hij : i < j) (hj : j < l.length) : pr l (j : Int) < pr l (i : Int) := by
  have := pr_lt h (d := j - i - 1) (i := i) (by omega)
  rw [show i + (j - i - 1) + 1 = j by omega] at this
  exact this
/-- What stands between two levels at a third. -/
noncomputable def lineV (a0 : Int) (a1 : Nat) (a2 : Int) (a3 : Nat) (a4 : Int) : Nat := fadd a1 (fmul (fsub a3 a1) (fdiv (fofi (a0 - a4)) (fofi (a0 - a2))))
theorem impl_between {a0 a2 a4 : Int} (a1 a3 : Nat) (h0 : 1 ≤ a2) (h1 : a2 < a4) (h2 : a4 < a0) (h3 : a0 ≤ 12000) : impl_Between a0 a1 a2 a3 a4 = some (lineV a0 a1 a2 a3 a4) := by
  have hb : ∀ x : Int, -12000 ≤ x → x ≤ 12000 → impl_Between_1 x = some true := fun x hx hx' => by
    unfold impl_Between_1
    rw [in_eq]
    simp only [hx, hx', decide_true, Bool.and_self, Option.bind_some]
  unfold impl_Between
  simp only [beqI, show ¬ a4 = a0 by omega, show ¬ a4 = a2 by omega, decide_false, cond_false, w64 (n := a0 - a2) (by omega) (by omega), w64 (n := a0 - a4) (by omega) (by omega),
    hb a0 (by omega) (by omega), hb a2 (by omega) (by omega), hb a4 (by omega) (by omega), hb (a0 - a2) (by omega) (by omega), Option.bind_some, Bool.not_true, if_pos (show a2 < a0 by omega), if_neg (show ¬ a2 > a0 by omega), show ¬ a4 ≤ a2 by omega, show ¬ a4 ≥ a0 by omega]
  rfl
theorem spec_between {a0 a2 a4 : Int} (a1 a3 : Nat) (h0 : 1 ≤ a2) (h1 : a2 < a4) (h2 : a4 < a0) (h3 : a0 ≤ 12000) : spec_Between a0 a1 a2 a3 a4 = some (lineV a0 a1 a2 a3 a4) := by
  have hb : ∀ x : Int, -12000 ≤ x → x ≤ 12000 → spec_l2In x (-12000) 12000 = some true := fun x hx hx' => by
    rw [l2In_eq]
    simp only [hx, hx', decide_true, Bool.and_self]
  unfold spec_Between
  simp only [beqI, show ¬ a4 = a0 by omega, show ¬ a4 = a2 by omega, decide_false, cond_false, w64 (n := a0 - a2) (by omega) (by omega), w64 (n := a0 - a4) (by omega) (by omega),
    hb a0 (by omega) (by omega), hb a2 (by omega) (by omega), hb a4 (by omega) (by omega), hb (a0 - a2) (by omega) (by omega), Option.bind_some, Bool.not_true, show ¬ a0 < a4 by omega, show ¬ a4 < a2 by omega, beq_self_eq_true]
  rfl
theorem line_bd {a0 a2 a4 : Int} {a1 a3 : Nat} (h0 : 1 ≤ a2) (h1 : a2 < a4) (h2 : a4 < a0) (h3 : a0 ≤ 12000) (b1 : Bd a1 8) (b3 : Bd a3 8) : Bd (lineV a0 a1 a2 a3 a4) 11 := by
  have hq : Bd (fdiv (fofi (a0 - a4)) (fofi (a0 - a2))) 1 := by
    refine div_bd (k := 0) (fin_of (n := a0 - a4) (by omega)) (fin_of (n := a0 - a2) (by omega)) ?_ (by omega) ?_
    · have := DD_pos
      exact Int.mul_ne_zero (by omega) (by omega)
    · rw [scale_abs, scale_abs, Nat.pow_zero, Nat.one_mul]
      exact Nat.mul_le_mul_right _ (by omega)
  have hd : Bd (fsub a3 a1) 9 := sub_bd b3 b1 (by omega)
  have hm : Bd (fmul (fsub a3 a1) (fdiv (fofi (a0 - a4)) (fofi (a0 - a2)))) 10 := Bd.mono (mul_bd hd hq (by omega)) (by omega)
  exact Bd.mono (add_bd (b1.mono (show 8 ≤ 10 by omega)) hm (by omega)) (by omega)
theorem read_flip (y : Nat) : double.read (y ^^^ 2 ^ 63) = (double.read y).opposite := by
  have e1 : (y ^^^ 2 ^ 63) % 2 ^ 63 = y % 2 ^ 63 := by rw [Nat.xor_mod_two_pow, Nat.mod_self, Nat.xor_zero]
  have e2 : ((y ^^^ 2 ^ 63) / 2 ^ 63 % 2 == 1) = !(y / 2 ^ 63 % 2 == 1) := by
    rw [Nat.xor_div_two_pow, Nat.div_self (by decide)]
    have := Nat.xor_mod_two_pow (a := y / 2 ^ 63) (b := 1) (n := 1)
    rw [Nat.pow_one] at this
    rw [this]
    rcases Nat.mod_two_eq_zero_or_one (y / 2 ^ 63) with h | h <;> rw [h] <;> rfl
  rw [read_eq, read_eq y, e1, e2]
  generalize (y / 2 ^ 63 % 2 == 1) = b
  generalize y % 2 ^ 63 = r
  unfold rd0
  by_cases h1 : r < double.binade
  · rw [if_pos h1, if_pos h1]; rfl
  · by_cases h2 : r < double.infRung
    · rw [if_neg h1, if_pos h2, if_neg h1, if_pos h2]; rfl
    · by_cases h3 : r = double.infRung
      · rw [if_neg h1, if_neg h2, if_pos h3, if_neg h1, if_neg h2, if_pos h3]; rfl
      · rw [if_neg h1, if_neg h2, if_neg h3, if_neg h1, if_neg h2, if_neg h3]; rfl
theorem fin_neg {y : Nat} {Y : Int} (h : Fin y Y) : Fin (fneg y) (-Y) := by
  obtain ⟨s, m, p, h1, h2, rfl, h3⟩ := h
  have hr : double.read (y ^^^ 2 ^ 63) = .number (!s) m p := by rw [read_flip, h1]; rfl
  have e : fneg y = y ^^^ 2 ^ 63 := by
    show canonF (y ^^^ 2 ^ 63) = _
    exact canon_of hr
  rw [e]
  exact ⟨!s, m, p, hr, h2, (sgn_neg s _).symm, h3⟩
/-- How far a level lies off, by both. -/
theorem off_both {l : LV} (h : ascV l = true) {i k j : Nat} (hik : i < k) (hkj : k < j) (hj : j < l.length) : ∃ (D : Int) (x y : Nat), Fin x D ∧ Fin y D ∧ 0 ≤ D ∧ spec_l6Off l i j k = some x ∧
    ((impl_Between (rd K2_0 l i).fst (rd K2_0 l i).snd (rd K2_0 l j).fst (rd K2_0 l j).snd (rd K2_0 l k).fst).bind fun val => math_Abs (fsub (rd K2_0 l k).snd val)) = some y := by
  have oi := ok_parts ((asc_ok h).2 i (by omega))
  have oj := ok_parts ((asc_ok h).2 j (by omega))
  have ok := ok_parts ((asc_ok h).2 k (by omega))
  have p1 := pr_less h hik (by omega)
  have p2 := pr_less h hkj hj
  have hl := (asc_ok h).1
  have hb : Bd (fsub (tm l k) (lineV (pr l i) (tm l i) (pr l j) (tm l j) (pr l k))) 12 := sub_bd (ok.2.2.mono (by omega)) (line_bd oj.1.1 p2 p1 oi.1.2 oi.2.2 oj.2.2) (by omega)
  obtain ⟨X, hX, _⟩ := hb
  have e1 := impl_between (tm l i) (tm l j) oj.1.1 p2 p1 oi.1.2
  have e2 := spec_between (tm l i) (tm l j) oj.1.1 p2 p1 oi.1.2
  unfold pr tm at e1 e2 hX
  have ha := fin_abs hX
  rw [e1, Option.bind_some, abs_eq (nan_fin hX) ha.canon]
  unfold spec_l6Off
  simp only [show (0 : Int) ≤ (i : Int) by omega, show (0 : Int) ≤ (j : Int) by omega, show (0 : Int) ≤ (k : Int) by omega, show (i : Int) < (l.length : Int) by omega, show (j : Int) < (l.length : Int) by omega, show (k : Int) < (l.length : Int) by omega, decide_true, cond_true, e2, Option.bind_some, flt_fin hX fin_zero]
  by_cases hn : X < 0
  · refine ⟨X.natAbs, fneg _, _, ?_, ha, by omega, by rw [decide_eq_true hn]; rfl, rfl⟩
    have := fin_neg hX
    rw [show (-X : Int) = (X.natAbs : Int) by omega] at this
    exact this
  · refine ⟨X.natAbs, _, _, (show ((X.natAbs : Nat) : Int) = X by omega) ▸ hX, ha, by omega, by rw [decide_eq_false hn]; rfl, rfl⟩
end Go.Proofs.Ytgkejafaggaocaa.SJ

namespace Go.Proofs.Ytgkejafaggaocaa.SJ
open Go Go.Eng Go.FT Ieee Go.Proofs.Ytgkejafaggaocaa.EX
/-- The place of the first greatest that is above M, or a. -/
def pick (D : Nat → Int) : Nat → Nat → Int → Int → Int
  | 0, _, a, _ => a
  | m + 1, n, a, M => if M < D n then pick D m (n + 1) n (D n) else pick D m (n + 1) a M
theorem pick_at {D : Nat → Int} : ∀ {m n : Nat} {a M : Int}, pick D m n a M = a ∨ ∃ k : Nat, n ≤ k ∧ k < n + m ∧ pick D m n a M = k
  | 0, n, a, M => .inl rfl
  | m + 1, n, a, M => by
    unfold pick
    by_cases h : M < D n
    · rw [if_pos h]
      rcases pick_at (D := D) (m := m) (n := n + 1) (a := n) (M := D n) with e | ⟨k, h1, h2, e⟩
      · exact .inr ⟨n, by omega, by omega, e⟩
      · exact .inr ⟨k, by omega, by omega, e⟩
    · rw [if_neg h]
      rcases pick_at (D := D) (m := m) (n := n + 1) (a := a) (M := M) with e | ⟨k, h1, h2, e⟩
      · exact .inl e
      · exact .inr ⟨k, by omega, by omega, e⟩
def spTail (rc : LV → Int → Int → Nat → Option (List Int)) (l : LV) (i j : Int) (tol : Nat) (a : Int) : Option (List Int) :=
  bif decide (a < 0) then some [] else (rc l i a tol).bind fun val => bif decide (List.length val + [a].length ≤ maxBytes / 8) then (rc l a j tol).bind fun val_1 => bif decide ((val ++ [a]).length + List.length val_1 ≤ maxBytes / 8) then some (val ++ [a] ++ val_1) else none else none
def imTail (rc : Int → Int → LV → Nat → List Int → Option (LV × Nat × List Int)) (l : LV) (i j : Int) (tol : Nat) (out : List Int) (a : Int) : Option (LV × Nat × List Int) :=
  bif decide (a ≥ 0) then bif decide (out.length + [a].length ≤ maxBytes / 8) then (rc i a l tol (out ++ [a])).bind fun val => (rc a j val.fst val.snd.fst val.snd.snd).bind fun val => some (val.fst, val.snd.fst, val.snd.snd) else none else some (l, tol, out)
theorem spec_scan {l : LV} {i j tol : Nat} (hj : j < l.length) (hl : l.length ≤ 400) (D : Nat → Int) (hD : ∀ k, i < k → k < j → ∃ x, Fin x (D k) ∧ spec_l6Off l i j k = some x)
    (rc : LV → Int → Int → Nat → Option (List Int)) (r : List Int) : ∀ (m n : Nat) (a : Int) (w : Nat) (M : Int), i < n → n + m = j → Fin w M → spTail rc l i j tol (pick D m n a M) = some r →
      Ev (fun k => spec_l6Split_L4 rc k l i j tol a w n) r
  | 0, n, a, w, M, h1, h2, hw, ht => by
    apply ev_succ
    simp only [spec_l6Split_L4, show ¬ ((n : Int) < (j : Int)) by omega, decide_false, cond_false]
    exact ev_of ht
  | m + 1, n, a, w, M, h1, h2, hw, ht => by
    apply ev_succ
    obtain ⟨x, hx, e⟩ := hD n h1 (by omega)
    have e2 : IntKind.i64.wrap ((n : Int) + 1) = ((n + 1 : Nat) : Int) := by rw [w64 (by omega) (by omega)]; omega
    simp only [spec_l6Split_L4, show ((n : Int) < (j : Int)) by omega, decide_true, cond_true, e, Option.bind_some, e2, fgt_fin hx hw]
    unfold pick at ht
    by_cases hm : M < D n
    · rw [if_pos hm] at ht
      simp only [hm, decide_true, cond_true]
      exact spec_scan hj hl D hD rc r m (n + 1) n x (D n) (by omega) (by omega) hx ht
    · rw [if_neg hm] at ht
      simp only [hm, decide_false, cond_false]
      exact spec_scan hj hl D hD rc r m (n + 1) a w M (by omega) (by omega) hw ht
theorem impl_scan {l : LV} {i j tol : Nat} {T : Int} (hT : Fin tol T) (hj : j < l.length) (hl : l.length ≤ 400) (D : Nat → Int)
    (hD : ∀ k : Nat, i < k → k < j → ∃ y, Fin y (D k) ∧ ((impl_Between (rd K2_0 l i).fst (rd K2_0 l i).snd (rd K2_0 l j).fst (rd K2_0 l j).snd (rd K2_0 l k).fst).bind fun val => math_Abs (fsub (rd K2_0 l k).snd val)) = some y)
    (rc : Int → Int → LV → Nat → List Int → Option (LV × Nat × List Int)) (out : List Int) (r : LV × Nat × List Int) : ∀ (m n : Nat) (a : Int) (w : Nat) (M : Int), i < n → n + m = j →
      (a < 0 ∧ M = T ∨ 0 ≤ a ∧ Fin w M ∧ T ≤ M) → imTail rc l i j tol out (pick D m n a M) = some r →
      Ev (fun k => impl_Signif_1_L2 rc k i j w a n l tol out) r
  | 0, n, a, w, M, h1, h2, hw, ht => by
    apply ev_succ
    simp only [impl_Signif_1_L2, show ¬ ((n : Int) < (j : Int)) by omega, decide_false, cond_false]
    exact ev_of ht
  | m + 1, n, a, w, M, h1, h2, hw, ht => by
    apply ev_succ
    obtain ⟨y, hy, e⟩ := hD n h1 (by omega)
    have e2 : IntKind.i64.wrap ((n : Int) + 1) = ((n + 1 : Nat) : Int) := by rw [w64 (by omega) (by omega)]; omega
    obtain ⟨z, ez, ey⟩ := Option.bind_eq_some_iff.1 e
    simp only [impl_Signif_1_L2, show ((n : Int) < (j : Int)) by omega, show (0 : Int) ≤ (n : Int) by omega, show (0 : Int) ≤ (i : Int) by omega, show (0 : Int) ≤ (j : Int) by omega, show (n : Int) < (l.length : Int) by omega, show (i : Int) < (l.length : Int) by omega, show (j : Int) < (l.length : Int) by omega, decide_true, cond_true, ez, ey, Option.bind_some, e2, fgt_fin hy hT]
    unfold pick at ht
    rcases hw with ⟨ha, rfl⟩ | ⟨ha, hw, hTM⟩
    · by_cases hm : M < D n
      · rw [if_pos hm] at ht
        simp only [hm, ha, decide_true, cond_true]
        exact impl_scan hT hj hl D hD rc out r m (n + 1) n y (D n) (by omega) (by omega) (.inr ⟨by omega, hy, by omega⟩) ht
      · rw [if_neg hm] at ht
        simp only [hm, decide_false, cond_false]
        exact impl_scan hT hj hl D hD rc out r m (n + 1) a w M (by omega) (by omega) (.inl ⟨ha, rfl⟩) ht
    · by_cases hm : M < D n
      · rw [if_pos hm] at ht
        simp only [show T < D n by omega, show ¬ a < 0 by omega, fgt_fin hy hw, hm, decide_true, decide_false, cond_true, cond_false]
        exact impl_scan hT hj hl D hD rc out r m (n + 1) n y (D n) (by omega) (by omega) (.inr ⟨by omega, hy, by omega⟩) ht
      · rw [if_neg hm] at ht
        have ih := impl_scan hT hj hl D hD rc out r m (n + 1) a w M (by omega) (by omega) (.inr ⟨ha, hw, hTM⟩) ht
        by_cases hT' : T < D n
        · simp only [hT', show ¬ a < 0 by omega, fgt_fin hy hw, hm, decide_true, decide_false, cond_true, cond_false]
          exact ih
        · simp only [hT', decide_false, cond_false]
          exact ih
/-- The significant places between two: the reference's list, the program's. -/
theorem split_both {l : LV} (h : ascV l = true) {tol : Nat} {T : Int} (hT : Fin tol T) : ∀ (d i j : Nat), j - i ≤ d → i < j → j < l.length →
    ∃ s p : List Int, Ev (fun m => spec_l6Split_R m l i j tol) s ∧ (∀ out : List Int, out.length + (j - i) ≤ 1000 → Ev (fun m => impl_Signif_1_R m i j l tol out) (l, tol, out ++ p)) ∧
      p.Perm s ∧ s.Pairwise (· < ·) ∧ (∀ x ∈ s, (i : Int) < x ∧ x < (j : Int)) ∧ s.length < j - i := by
  intro d
  induction d with
  | zero => intro i j h1 h2 h3; omega
  | succ d ih =>
    intro i j h1 hij hj
    have hl := (asc_ok h).1.2
    have hmax : 1000 ≤ maxBytes / 8 := by decide
    obtain ⟨D, hD⟩ : ∃ D : Nat → Int, ∀ k, i < k → k < j → ∃ x y, Fin x (D k) ∧ Fin y (D k) ∧ spec_l6Off l i j k = some x ∧
        ((impl_Between (rd K2_0 l i).fst (rd K2_0 l i).snd (rd K2_0 l j).fst (rd K2_0 l j).snd (rd K2_0 l k).fst).bind fun val => math_Abs (fsub (rd K2_0 l k).snd val)) = some y := by
      refine ⟨fun k => if hk : i < k ∧ k < j then (off_both h hk.1 hk.2 hj).choose else 0, fun k h1 h2 => ?_⟩
      obtain ⟨x, y, hx, hy, _, e1, e2⟩ := (off_both h h1 h2 hj).choose_spec
      simp only [h1, h2, and_self, dif_pos]
      exact ⟨x, y, hx, hy, e1, e2⟩
    have hDs : ∀ k, i < k → k < j → ∃ x, Fin x (D k) ∧ spec_l6Off l i j k = some x := fun k h1 h2 => by
      obtain ⟨x, y, hx, hy, e1, e2⟩ := hD k h1 h2
      exact ⟨x, hx, e1⟩
    have hDi : ∀ k : Nat, i < k → k < j → ∃ y, Fin y (D k) ∧ ((impl_Between (rd K2_0 l i).fst (rd K2_0 l i).snd (rd K2_0 l j).fst (rd K2_0 l j).snd (rd K2_0 l k).fst).bind fun val => math_Abs (fsub (rd K2_0 l k).snd val)) = some y := fun k h1 h2 => by
      obtain ⟨x, y, hx, hy, e1, e2⟩ := hD k h1 h2
      exact ⟨y, hy, e2⟩
    have hw1 : IntKind.i64.wrap ((i : Int) + 1) = ((i + 1 : Nat) : Int) := by rw [w64 (by omega) (by omega)]; omega
    have hS : ∀ (rc : LV → Int → Int → Nat → Option (List Int)) (r : List Int), spTail rc l i j tol (pick D (j - (i + 1)) (i + 1) (-1) T) = some r → evF (fun k => spec_l6Split_F rc k l i j tol) = some r := fun rc r ht => by
      refine evF_eq ?_
      unfold spec_l6Split_F
      rw [hw1]
      exact spec_scan hj hl D hDs rc r _ _ _ _ T (by omega) (by omega) hT ht
    have hI : ∀ (rc : Int → Int → LV → Nat → List Int → Option (LV × Nat × List Int)) (out : List Int) (r : LV × Nat × List Int), imTail rc l i j tol out (pick D (j - (i + 1)) (i + 1) (-1) T) = some r → evF (fun k => impl_Signif_1_F rc k i j l tol out) = some r := fun rc out r ht => by
      refine evF_eq ?_
      unfold impl_Signif_1_F
      rw [hw1]
      exact impl_scan hT hj hl D hDi rc out r _ _ _ _ T (by omega) (by omega) (.inl ⟨by omega, rfl⟩) ht
    rcases pick_at (D := D) (m := j - (i + 1)) (n := i + 1) (a := -1) (M := T) with e | ⟨k, k1, k2, e⟩
    · rw [e] at hS hI
      refine ⟨[], [], ?_, fun out ho => ?_, List.Perm.refl _, List.Pairwise.nil, by simp, by simp; omega⟩
      · apply ev_succ
        exact ⟨0, fun m _ => hS _ _ rfl⟩
      · apply ev_succ
        refine ⟨0, fun m _ => ?_⟩
        rw [List.append_nil]
        exact hI _ _ _ rfl
    · rw [e] at hS hI
      obtain ⟨s1, p1, a1, b1, c1, d1, f1, g1⟩ := ih i k (by omega) (by omega) (by omega)
      obtain ⟨s2, p2, a2, b2, c2, d2, f2, g2⟩ := ih k j (by omega) (by omega) hj
      refine ⟨s1 ++ [(k : Int)] ++ s2, (k : Int) :: p1 ++ p2, ?_, fun out ho => ?_, ?_, ?_, ?_, ?_⟩
      · apply ev_succ
        obtain ⟨N1, n1⟩ := a1
        obtain ⟨N2, n2⟩ := a2
        refine ⟨max N1 N2, fun m hm => hS _ _ ?_⟩
        have q1 := n1 m (by omega)
        have q2 := n2 m (by omega)
        simp only at q1 q2
        simp only [spTail, show ¬ ((k : Int) < 0) by omega, decide_false, cond_false, q1, q2, Option.bind_some, List.length_append, List.length_singleton, show s1.length + 1 ≤ maxBytes / 8 by omega, show s1.length + 1 + s2.length ≤ maxBytes / 8 by omega, decide_true, cond_true]
      · apply ev_succ
        have l1 : p1.length = s1.length := c1.length_eq
        obtain ⟨N1, n1⟩ := b1 (out ++ [(k : Int)]) (by simp only [List.length_append, List.length_singleton]; omega)
        obtain ⟨N2, n2⟩ := b2 (out ++ [(k : Int)] ++ p1) (by simp only [List.length_append, List.length_singleton]; omega)
        refine ⟨max N1 N2, fun m hm => ?_⟩
        have q1 := n1 m (by omega)
        have q2 := n2 m (by omega)
        simp only at q1 q2
        refine hI _ _ _ ?_
        simp only [imTail, show ((k : Int) ≥ 0) by omega, decide_true, cond_true, q1, q2, Option.bind_some, List.length_singleton, show out.length + 1 ≤ maxBytes / 8 by omega]
        simp
      · have : ((k : Int) :: p1 ++ p2).Perm ((k : Int) :: s1 ++ s2) := (List.Perm.cons _ c1).append c2
        refine this.trans ?_
        rw [List.append_assoc]
        simpa using (List.perm_middle (a := (k : Int)) (l₁ := s1) (l₂ := s2)).symm
      · rw [List.pairwise_append, List.pairwise_append]
        refine ⟨⟨d1, by simp, fun x hx y hy => ?_⟩, d2, fun x hx y hy => ?_⟩
        · simp only [List.mem_singleton] at hy
          have := f1 x hx
          omega
        · have := f2 y hy
          rcases List.mem_append.1 hx with hx | hx
          · have := f1 x hx; omega
          · simp only [List.mem_singleton] at hx; omega
      · intro x hx
        rcases List.mem_append.1 hx with hx | hx
        · rcases List.mem_append.1 hx with hx | hx
          · have := f1 x hx; omega
          · simp only [List.mem_singleton] at hx; omega
        · have := f2 x hx; omega
      · simp only [List.length_append, List.length_singleton]; omega
end Go.Proofs.Ytgkejafaggaocaa.SJ
