/-
  Part of a proof by the engine: texts that a program of ours printed, or plain lemmas on them. No condition but what each theorem says.
-/
import Derived.Test.YtgkejafaggaocaaPO
import Derived.Test.YtgkejafaggaocaaTBA
import Derived.Test.YtgkejafaggaocaaNRPlain
import Derived.Test.YtgkejafaggaocaaFT
set_option linter.unusedVariables false
set_option linter.unusedSimpArgs false
namespace Go.Proofs.Ytgkejafaggaocaa.PO
open Go Go.Eng Go.TB Go.Proofs.Ytgkejafaggaocaa.EX
def inB (a b c : Int) : Bool := decide (b ≤ a) && decide (a ≤ c)
theorem in_eq (a b c : Int) : impl_in a b c = some (inB a b c) := by
  unfold impl_in inB
  by_cases h : a ≥ b <;> simp [h]
theorem l2In_eq (a b c : Int) : spec_l2In a b c = some (inB a b c) := by
  unfold spec_l2In inB
  by_cases h : a ≥ b <;> simp [h]
/-! ### a table -/
def okE (t : LE) (n : Nat) : Bool :=
  inB (rd K4_0 t n).1 1 99999 && ((!decide ((n : Int) > 0) || !decide ((rd K4_0 t ((n : Int) - 1)).1 ≥ (rd K4_0 t n).1)) && (inB (rd K4_0 t n).2.1 1 32 && (inB (rd K4_0 t n).2.2.1 (-10) 10 && inB (rd K4_0 t n).2.2.2 (-1000000000) 1000000000)))
def tbl (t : LE) : Nat → Nat → Bool
  | 0, _ => true
  | m + 1, n => okE t n && tbl t m (n + 1)
theorem tbl_at {t : LE} : ∀ {m n : Nat}, tbl t m n = true → ∀ i, n ≤ i → i < n + m → okE t i = true
  | 0, n, _, i, h1, h2 => by omega
  | m + 1, n, h, i, h1, h2 => by
    simp only [tbl, Bool.and_eq_true] at h
    by_cases e : i = n
    · subst e; exact h.1
    · exact tbl_at h.2 i (by omega) (by omega)
theorem spec_tbl (t : LE) (hl : t.length ≤ 200) : ∀ m n : Nat, n + m = t.length → Ev (fun k => spec_l7TableOk_L4 k t n) (tbl t m n)
  | 0, n, h => by
    apply ev_succ
    simp only [spec_l7TableOk_L4, show ¬ ((n : Int) < (t.length : Int)) by omega, decide_false, cond_false, tbl]
    exact ev_now _
  | m + 1, n, h => by
    apply ev_succ
    have e1 : IntKind.i64.wrap ((n : Int) - 1) = (n : Int) - 1 := w64 (by omega) (by omega)
    have e2 : IntKind.i64.wrap ((n : Int) + 1) = ((n + 1 : Nat) : Int) := by rw [w64 (by omega) (by omega)]; omega
    have ih := spec_tbl t hl m (n + 1) (by omega)
    simp only [spec_l7TableOk_L4, show (n : Int) < (t.length : Int) by omega, show (0 : Int) ≤ (n : Int) by omega, decide_true, cond_true, l2In_eq, Option.bind_some, e1, e2, tbl, okE]
    have e3 : decide ((rd K4_0 t n).1 ≤ (rd K4_0 t ((n : Int) - 1)).1) = decide ((rd K4_0 t ((n : Int) - 1)).1 ≥ (rd K4_0 t n).1) := rfl
    rw [e3]
    generalize inB (rd K4_0 t n).1 1 99999 = b1
    generalize decide ((rd K4_0 t ((n : Int) - 1)).1 ≥ (rd K4_0 t n).1) = b2
    generalize inB (rd K4_0 t n).2.1 1 32 = b3
    generalize inB (rd K4_0 t n).2.2.1 (-10) 10 = b4
    generalize inB (rd K4_0 t n).2.2.2 (-1000000000) 1000000000 = b5
    by_cases h0 : (n : Int) > 0
    · simp only [h0, decide_true, cond_true, show (0 : Int) ≤ (n : Int) - 1 by omega, show (n : Int) - 1 < (t.length : Int) by omega, Bool.not_true, Bool.false_or]
      cases b1 <;> cases b2 <;> cases b3 <;> cases b4 <;> cases b5 <;> first | exact ev_now _ | exact ih
    · simp only [h0, decide_false, cond_false, Bool.not_false, Bool.true_or]
      cases b1 <;> cases b3 <;> cases b4 <;> cases b5 <;> first | exact ev_now _ | exact ih
theorem impl_tbl (t : LE) (hl : t.length ≤ 200) : ∀ m n : Nat, n + m = t.length → Ev (fun k => impl_tableOk_L4 k t t t.length n) (tbl t m n)
  | 0, n, h => by
    apply ev_succ
    simp only [impl_tableOk_L4, show ¬ ((n : Int) < (t.length : Int)) by omega, decide_false, cond_false, tbl]
    exact ev_now _
  | m + 1, n, h => by
    apply ev_succ
    have e1 : IntKind.i64.wrap ((n : Int) - 1) = (n : Int) - 1 := w64 (by omega) (by omega)
    have e2 : IntKind.i64.wrap ((n : Int) + 1) = ((n + 1 : Nat) : Int) := by rw [w64 (by omega) (by omega)]; omega
    have ih := impl_tbl t hl m (n + 1) (by omega)
    simp only [impl_tableOk_L4, show (n : Int) < (t.length : Int) by omega, show (0 : Int) ≤ (n : Int) by omega, decide_true, cond_true, in_eq, Option.bind_some, e1, e2, tbl, okE]
    generalize inB (rd K4_0 t n).1 1 99999 = b1
    generalize decide ((rd K4_0 t ((n : Int) - 1)).1 ≥ (rd K4_0 t n).1) = b2
    generalize inB (rd K4_0 t n).2.1 1 32 = b3
    generalize inB (rd K4_0 t n).2.2.1 (-10) 10 = b4
    generalize inB (rd K4_0 t n).2.2.2 (-1000000000) 1000000000 = b5
    by_cases h0 : (n : Int) > 0
    · simp only [h0, decide_true, cond_true, show (0 : Int) ≤ (n : Int) - 1 by omega, show (n : Int) - 1 < (t.length : Int) by omega, Bool.not_true, Bool.false_or]
      cases b1 <;> cases b2 <;> cases b3 <;> cases b4 <;> cases b5 <;> first | exact ev_now _ | exact ih
    · simp only [h0, decide_false, cond_false, Bool.not_false, Bool.true_or]
      cases b1 <;> cases b3 <;> cases b4 <;> cases b5 <;> first | exact ev_now _ | exact ih
def tblV (t : LE) : Bool := decide (t.length ≤ 200) && tbl t t.length 0
theorem spec_tblV (t : LE) : spec_l7TableOk t = some (tblV t) := by
  refine evF_eq ?_
  unfold spec_l7TableOk_F tblV
  by_cases h1 : (t.length : Int) > 200
  · simp only [h1, decide_true, cond_true, show ¬ (t.length ≤ 200) by omega, decide_false, Bool.false_and]
    exact ev_now _
  · simp only [h1, decide_false, cond_false, show t.length ≤ 200 by omega, decide_true, Bool.true_and]
    exact spec_tbl t (by omega) t.length 0 (by omega)
theorem impl_tblV (t : LE) : impl_tableOk t = some (tblV t) := by
  refine evF_eq ?_
  unfold impl_tableOk_F tblV
  by_cases h1 : (t.length : Int) > 200
  · simp only [h1, decide_true, cond_true, show ¬ (t.length ≤ 200) by omega, decide_false, Bool.false_and]
    exact ev_now _
  · simp only [h1, decide_false, cond_false, show t.length ≤ 200 by omega, decide_true, Bool.true_and]
    exact impl_tbl t (by omega) t.length 0 (by omega)
/-- What a right table says of its elements. -/
def EOk (e : El) : Prop := (1 ≤ e.1 ∧ e.1 ≤ 99999) ∧ (1 ≤ e.2.1 ∧ e.2.1 ≤ 32) ∧ (-10 ≤ e.2.2.1 ∧ e.2.2.1 ≤ 10) ∧ (-1000000000 ≤ e.2.2.2 ∧ e.2.2.2 ≤ 1000000000)
theorem tblV_ok {t : LE} (h : tblV t = true) : t.length ≤ 200 ∧ ∀ e ∈ t, EOk e := by
  simp only [tblV, Bool.and_eq_true, decide_eq_true_eq] at h
  refine ⟨h.1, fun e he => ?_⟩
  obtain ⟨n, hn, rfl⟩ := List.getElem_of_mem he
  have o := tbl_at h.2 n (by omega) (by omega)
  have e1 : rd K4_0 t (n : Int) = t[n] := rd_nat (k := K4_0) hn
  simp only [okE, e1, inB, Bool.and_eq_true, decide_eq_true_eq] at o
  exact ⟨o.1, o.2.2.1, o.2.2.2.1, o.2.2.2.2⟩
/-! ### an element -/
def elR : Option El → Int × Int × Int × Int × Bool
  | some e => (e.1, e.2.1, e.2.2.1, e.2.2.2, true)
  | none => (0, 0, 0, 0, false)
theorem look_step {t : LE} {d : Int} {n : Nat} (h : n < t.length) : lookE (t.drop n) d = if t[n].1 == d then some t[n] else lookE (t.drop (n + 1)) d := by
  unfold lookE
  rw [List.drop_eq_getElem_cons h, List.find?_cons]
  cases t[n].1 == d <;> rfl
theorem impl_el_loop (t : LE) (hl : t.length ≤ 1000) (d : Int) : ∀ m n : Nat, n + m = t.length → Ev (fun k => impl_elemOf_L2 k d t t.length n 0 0 0 0) (elR (lookE (t.drop n) d))
  | 0, n, h => by
    apply ev_succ
    have : t.drop n = [] := List.drop_eq_nil_of_le (by omega)
    simp only [impl_elemOf_L2, show ¬ ((n : Int) < (t.length : Int)) by omega, decide_false, cond_false, this]
    exact ev_now _
  | m + 1, n, h => by
    apply ev_succ
    have hn : n < t.length := by omega
    have ih := impl_el_loop t hl d m (n + 1) (by omega)
    have e1 : rd K4_0 t (n : Int) = t[n] := rd_nat (k := K4_0) hn
    rw [look_step hn]
    simp only [impl_elemOf_L2, e1, show (n : Int) < (t.length : Int) by omega, show (0 : Int) ≤ (n : Int) by omega, decide_true, cond_true, wsucc (show n < 9223372036854775807 by omega)]
    cases t[n].1 == d with
    | true => exact ev_now _
    | false => exact ih
theorem spec_el_loop (t : LE) (hl : t.length ≤ 1000) (d : Int) : ∀ m n : Nat, n + m = t.length → Ev (fun k => spec_l7Elem_L2 k t d n 0 0 0 0) (elR (lookE (t.drop n) d))
  | 0, n, h => by
    apply ev_succ
    have : t.drop n = [] := List.drop_eq_nil_of_le (by omega)
    simp only [spec_l7Elem_L2, show ¬ ((n : Int) < (t.length : Int)) by omega, decide_false, cond_false, this]
    exact ev_now _
  | m + 1, n, h => by
    apply ev_succ
    have hn : n < t.length := by omega
    have ih := spec_el_loop t hl d m (n + 1) (by omega)
    have e1 : rd K4_0 t (n : Int) = t[n] := rd_nat (k := K4_0) hn
    rw [look_step hn]
    simp only [spec_l7Elem_L2, e1, show (n : Int) < (t.length : Int) by omega, show (0 : Int) ≤ (n : Int) by omega, decide_true, cond_true, wsucc (show n < 9223372036854775807 by omega)]
    cases t[n].1 == d with
    | true => exact ev_now _
    | false => exact ih
theorem impl_el {t : LE} (hl : t.length ≤ 1000) (d : Int) : impl_elemOf t d = some (elR (lookE t d)) := evF_eq (impl_el_loop t hl d t.length 0 (by omega))
theorem spec_el {t : LE} (hl : t.length ≤ 1000) (d : Int) : spec_l7Elem t d = some (elR (lookE t d)) := evF_eq (spec_el_loop t hl d t.length 0 (by omega))
theorem look_mem {t : LE} {d : Int} {e : El} (h : lookE t d = some e) : e ∈ t := List.mem_of_find?_eq_some h
/-! ### descriptors -/
theorem rep_range {d : Int} : isRep d = true ↔ 101000 ≤ d ∧ d ≤ 199999 := by simp [isRep]
theorem repeats_yes {d : Int} (h : isRep d = true) : impl_repeats d = some ((xOf d : Int), (yOf d : Int)) := by
  have hr := rep_range.1 h
  unfold impl_repeats
  have e1 : inB d 101000 199999 = true := by unfold inB; simp; omega
  rw [in_eq, e1]
  simp only [Option.bind_some, Bool.not_true, cond_false]
  have a1 : IntKind.i64.wrap (d - 100000) = d - 100000 := w64 (by omega) (by omega)
  have a2 : (d - 100000).tdiv 1000 = (xOf d : Int) := by unfold xOf; rw [Int.tdiv_eq_ediv_of_nonneg (by omega)]; omega
  have a3 : d.tmod 1000 = (yOf d : Int) := by unfold yOf; rw [Int.tmod_eq_emod_of_nonneg (by omega)]; omega
  have a4 : (xOf d : Int) ≤ 99 := by unfold xOf; omega
  rw [a1, a2, a3, w64 (by omega) (by omega)]
theorem repeats_no {d : Int} (h : isRep d = false) : impl_repeats d = some (0, 0) := by
  unfold impl_repeats
  have e1 : inB d 101000 199999 = false := h
  rw [in_eq, e1]
  rfl
theorem x_range {d : Int} (h : isRep d = true) : 1 ≤ xOf d ∧ xOf d ≤ 99 := by
  have hr := rep_range.1 h
  unfold xOf; omega
theorem y_range {d : Int} (h : isRep d = true) : yOf d ≤ 999 := by
  have hr := rep_range.1 h
  unfold yOf; omega
theorem part_eq (l : List Int) (i x : Nat) : (l.take (i + 1 + x)).drop (i + 1) = (l.drop (i + 1)).take x := by
  rw [List.drop_take, Nat.add_sub_cancel_left]
end Go.Proofs.Ytgkejafaggaocaa.PO

namespace Go.Proofs.Ytgkejafaggaocaa.PO
open Go Go.Eng Go.TB Go.Proofs.Ytgkejafaggaocaa.EX
theorem fits_nil (t : LE) (k : Nat) : fits t k [] = true := by cases k <;> rfl
theorem fits_cons (t : LE) (k : Nat) (d : Int) (r : List Int) : fits t (k + 1) (d :: r) = if isRep d then decide (d % 1000 ≤ 255) && (decide (xOf d ≤ r.length) && (fits t k (r.take (xOf d)) && fits t k (r.drop (xOf d))))
    else if isOp d then fits t k r else (lookE t d).isSome && (decide (1 ≤ d) && (decide (d ≤ 99999) && fits t k r)) := rfl
theorem elR_some (o : Option El) : (elR o).2.2.2.2 = o.isSome := by cases o <;> rfl
/-- The places behind a descriptor that repeats. -/
structure Part (plan : List Int) (i x : Nat) : Prop where
  a : IntKind.i64.wrap ((i : Int) + 1) = ((i + 1 : Nat) : Int)
  b : IntKind.i64.wrap (((i + 1 : Nat) : Int) + (x : Int)) = ((i + 1 + x : Nat) : Int)
  c : IntKind.i64.wrap ((i : Int) + (x : Int)) = ((i + x : Nat) : Int)
  d : IntKind.i64.wrap (((i + x : Nat) : Int) + 1) = ((i + 1 + x : Nat) : Int)
theorem part_of {plan : List Int} {i x : Nat} (hi : i ≤ 1000) (hx : x ≤ 99) : Part plan i x :=
  ⟨by rw [w64 (by omega) (by omega)]; omega, by rw [w64 (by omega) (by omega)]; omega, by rw [w64 (by omega) (by omega)]; omega, by rw [w64 (by omega) (by omega)]; omega⟩
theorem impl_fits_loop {rc : LE → List Int → Option Bool} {t : LE} {plan : List Int} (ht : t.length ≤ 1000) (hp : plan.length ≤ 1000)
    (hrc : ∀ part : List Int, part.length < plan.length → ∀ k, part.length ≤ k → rc t part = some (fits t k part)) :
    ∀ (k i : Nat), plan.length - i ≤ k → i ≤ plan.length → Ev (fun z => impl_planOk_L2 rc z t plan (i : Int)) (fits t k (plan.drop i)) := by
  intro k
  induction k with
  | zero =>
    intro i h1 h2
    have : plan.drop i = [] := List.drop_eq_nil_of_le (by omega)
    rw [this, fits_nil]
    apply ev_succ
    simp only [impl_planOk_L2, show ¬ ((i : Int) < (plan.length : Int)) by omega, decide_false, cond_false]
    exact ev_now _
  | succ k ih =>
    intro i h1 h2
    by_cases hi : i < plan.length
    · have e1 : rd (.int .i64) plan (i : Int) = plan[i] := rd_nat hi
      rw [List.drop_eq_getElem_cons hi, fits_cons]
      apply ev_succ
      generalize hd : plan[i] = d at e1
      have nx := ih (i + 1) (by omega) (by omega)
      simp only [impl_planOk_L2, show (i : Int) < (plan.length : Int) by omega, show (0 : Int) ≤ (i : Int) by omega, decide_true, cond_true, e1, in_eq]
      cases hR : isRep d with
      | true =>
        have hx := x_range hR
        have hr := rep_range.1 hR
        have P := part_of (plan := plan) (i := i) (x := xOf d) (by omega) hx.2
        rw [repeats_yes hR]
        simp only [Option.bind_some, show ((xOf d : Nat) : Int) > 0 by omega, decide_true, cond_true, P.a, P.b, P.c, P.d, if_true]
        by_cases hy : d % 1000 ≤ 255
        · have hy' : ¬ ((yOf d : Nat) : Int) > 255 := by unfold yOf; omega
          simp only [hy, hy', decide_true, decide_false, cond_false, Bool.true_and]
          by_cases hl : xOf d ≤ (plan.drop (i + 1)).length
          · rw [List.length_drop] at hl
            simp only [List.length_drop, hl, decide_true, Bool.true_and, show ¬ (((i + 1 + xOf d : Nat) : Int) > (plan.length : Int)) by omega, decide_false, cond_false, show (0 : Int) ≤ ((i + 1 + xOf d : Nat) : Int) by omega, show (0 : Int) ≤ ((i + 1 : Nat) : Int) by omega,
              show ((i + 1 + xOf d : Nat) : Int) ≤ (plan.length : Int) by omega, show ((i + 1 : Nat) : Int) ≤ ((i + 1 + xOf d : Nat) : Int) by omega, cond_true, Int.toNat_natCast, part_eq, Bool.and_self]
            have hlen : ((plan.drop (i + 1)).take (xOf d)).length = xOf d := by rw [List.length_take, List.length_drop]; omega
            rw [hrc _ (by rw [hlen]; omega) k (by rw [hlen]; omega)]
            simp only [Option.bind_some]
            cases fits t k ((plan.drop (i + 1)).take (xOf d)) with
            | false => exact ev_now _
            | true =>
              rw [List.drop_drop]
              exact ih (i + 1 + xOf d) (by omega) (by omega)
          · rw [List.length_drop] at hl
            simp only [List.length_drop, hl, decide_false, Bool.false_and, show (((i + 1 + xOf d : Nat) : Int) > (plan.length : Int)) by omega, decide_true, cond_true]
            exact ev_now _
        · have hy' : ((yOf d : Nat) : Int) > 255 := by unfold yOf; omega
          simp only [hy, hy', decide_true, decide_false, cond_true, Bool.false_and]
          exact ev_now _
      | false =>
        rw [repeats_no hR]
        simp only [Option.bind_some, show ¬ ((0 : Int) > 0) by omega, decide_false, cond_false, wsucc (show i < 9223372036854775807 by omega), Bool.false_eq_true, if_false]
        have hop : isOp d = (inB d 201000 201255 || inB d 202000 202255) := rfl
        rw [hop, impl_el ht]
        simp only [Option.bind_some, elR_some]
        have h99 : inB d 1 99999 = (decide (1 ≤ d) && decide (d ≤ 99999)) := rfl
        rw [h99]
        cases inB d 201000 201255 with
        | true => exact nx
        | false =>
          cases inB d 202000 202255 with
          | true => exact nx
          | false =>
            cases (lookE t d).isSome with
            | false => exact ev_now _
            | true =>
              cases decide (1 ≤ d) <;> cases decide (d ≤ 99999) <;> first | exact ev_now _ | exact nx
    · have : plan.drop i = [] := List.drop_eq_nil_of_le (by omega)
      rw [this, fits_nil]
      apply ev_succ
      simp only [impl_planOk_L2, show ¬ ((i : Int) < (plan.length : Int)) by omega, decide_false, cond_false]
      exact ev_now _
theorem impl_fits_R {t : LE} (ht : t.length ≤ 1000) : ∀ (m : Nat) (plan : List Int), plan.length < m → plan.length ≤ 1000 → ∀ k, plan.length ≤ k → impl_planOk_R m t plan = some (fits t k plan)
  | 0, plan, h, _, _, _ => by omega
  | m + 1, plan, h, hp, k, hk => by
    have := impl_fits_loop (rc := impl_planOk_R m) ht hp (fun part h1 k' h2 => impl_fits_R ht m part (by omega) (by omega) k' h2) k 0 (by omega) (by omega)
    exact evF_eq this
theorem impl_fits {t : LE} (ht : t.length ≤ 1000) {plan : List Int} (hp : plan.length ≤ 1000) : impl_planOk t plan = some (fits t plan.length plan) :=
  evF_eq ⟨plan.length + 1, fun m hm => impl_fits_R ht m plan (by omega) hp _ (by omega)⟩
/-- One descriptor, as the reference looks at it. -/
theorem spec_fits_loop {rc : LE → List Int → Option Bool} {t : LE} {plan : List Int} (ht : t.length ≤ 1000) (hp : plan.length ≤ 1000)
    (hrc : ∀ part : List Int, part.length < plan.length → ∀ k, part.length ≤ k → rc t part = some (fits t k part)) :
    ∀ (k i : Nat), plan.length - i ≤ k → i ≤ plan.length → Ev (fun z => spec_l7Fits_L2 rc z t plan (i : Int)) (fits t k (plan.drop i)) := by
  intro k
  induction k with
  | zero =>
    intro i h1 h2
    have : plan.drop i = [] := List.drop_eq_nil_of_le (by omega)
    rw [this, fits_nil]
    apply ev_succ
    simp only [spec_l7Fits_L2, show ¬ ((i : Int) < (plan.length : Int)) by omega, decide_false, cond_false]
    exact ev_now _
  | succ k ih =>
    intro i h1 h2
    by_cases hi : i < plan.length
    · have e1 : rd (.int .i64) plan (i : Int) = plan[i] := rd_nat hi
      rw [List.drop_eq_getElem_cons hi, fits_cons]
      apply ev_succ
      generalize hd : plan[i] = d at e1
      have nx := ih (i + 1) (by omega) (by omega)
      simp only [spec_l7Fits_L2, show (i : Int) < (plan.length : Int) by omega, show (0 : Int) ≤ (i : Int) by omega, decide_true, cond_true, e1]
      cases hR : isRep d with
      | true =>
        have hx := x_range hR
        have hr := rep_range.1 hR
        have P := part_of (plan := plan) (i := i) (x := xOf d) (by omega) hx.2
        have a1 : IntKind.i64.wrap (d - 100000) = d - 100000 := w64 (by omega) (by omega)
        have a2 : IntKind.i64.wrap ((d - 100000).tdiv 1000) = (xOf d : Int) := by
          have : (d - 100000).tdiv 1000 = (xOf d : Int) := by unfold xOf; rw [Int.tdiv_eq_ediv_of_nonneg (by omega)]; omega
          rw [this, w64 (by omega) (by omega)]
        have a3 : d.tmod 1000 = d % 1000 := Int.tmod_eq_emod_of_nonneg (by omega)
        simp only [show d ≥ 1 by omega, show ¬ d < 100000 by omega, show d ≥ 101000 by omega, show d < 200000 by omega, decide_true, decide_false, cond_true, cond_false, a1, a2, a3, P.a, P.b, P.c, P.d, if_true]
        by_cases hy : d % 1000 ≤ 255
        · simp only [hy, show ¬ d % 1000 > 255 by omega, decide_true, decide_false, cond_false, Bool.true_and]
          by_cases hl : xOf d ≤ (plan.drop (i + 1)).length
          · rw [List.length_drop] at hl
            simp only [List.length_drop, hl, decide_true, Bool.true_and, show ¬ (((i + xOf d : Nat) : Int) ≥ (plan.length : Int)) by omega, decide_false, cond_false, show (0 : Int) ≤ ((i + 1 + xOf d : Nat) : Int) by omega, show (0 : Int) ≤ ((i + 1 : Nat) : Int) by omega,
              show ((i + 1 + xOf d : Nat) : Int) ≤ (plan.length : Int) by omega, show ((i + 1 : Nat) : Int) ≤ ((i + 1 + xOf d : Nat) : Int) by omega, cond_true, Int.toNat_natCast, part_eq, Bool.and_self]
            have hlen : ((plan.drop (i + 1)).take (xOf d)).length = xOf d := by rw [List.length_take, List.length_drop]; omega
            rw [hrc _ (by rw [hlen]; omega) k (by rw [hlen]; omega)]
            simp only [Option.bind_some]
            cases fits t k ((plan.drop (i + 1)).take (xOf d)) with
            | false => exact ev_now _
            | true =>
              rw [List.drop_drop]
              exact ih (i + 1 + xOf d) (by omega) (by omega)
          · rw [List.length_drop] at hl
            simp only [List.length_drop, hl, decide_false, Bool.false_and, show (((i + xOf d : Nat) : Int) ≥ (plan.length : Int)) by omega, decide_true, cond_true]
            exact ev_now _
        · simp only [hy, show d % 1000 > 255 by omega, decide_true, decide_false, cond_true, Bool.false_and]
          exact ev_now _
      | false =>
        have hr : ¬ (101000 ≤ d ∧ d ≤ 199999) := fun h => by rw [rep_range.2 h] at hR; cases hR
        simp only [Bool.false_eq_true, if_false, wsucc (show i < 9223372036854775807 by omega), spec_el ht, Option.bind_some, elR_some]
        by_cases h1 : d ≥ 1
        · by_cases h2 : d < 100000
          · have : isOp d = false := by unfold isOp; simp; omega
            simp only [h1, h2, this, show (1 : Int) ≤ d by omega, show d ≤ 99999 by omega, decide_true, cond_true, Bool.true_and, Bool.false_eq_true, if_false]
            cases (lookE t d).isSome <;> first | exact ev_now _ | exact nx
          · by_cases h3 : d ≥ 201000
            · by_cases h4 : d < 203000
              · have a3 : d.tmod 1000 = d % 1000 := Int.tmod_eq_emod_of_nonneg (by omega)
                by_cases h5 : d % 1000 > 255
                · have : isOp d = false := by unfold isOp; simp; omega
                  simp only [h1, h2, h3, h4, h5, a3, this, show ¬ d ≤ 99999 by omega, show d ≥ 101000 by omega, show ¬ d < 200000 by omega, decide_true, decide_false, cond_true, cond_false, Bool.false_and, Bool.and_false, Bool.false_eq_true, if_false]
                  exact ev_now _
                · have : isOp d = true := by unfold isOp; simp; omega
                  simp only [h1, h2, h3, h4, h5, a3, this, show d ≥ 101000 by omega, show ¬ d < 200000 by omega, decide_true, decide_false, cond_true, cond_false, if_true]
                  exact nx
              · have : isOp d = false := by unfold isOp; simp; omega
                simp only [h1, h2, h3, h4, this, show ¬ d ≤ 99999 by omega, show d ≥ 101000 by omega, show ¬ d < 200000 by omega, decide_true, decide_false, cond_true, cond_false, Bool.false_and, Bool.and_false, Bool.false_eq_true, if_false]
                exact ev_now _
            · have : isOp d = false := by unfold isOp; simp; omega
              by_cases h6 : d ≥ 101000
              · simp only [h1, h2, h3, h6, this, show ¬ d ≤ 99999 by omega, show ¬ d < 200000 by omega, decide_true, decide_false, cond_true, cond_false, Bool.false_and, Bool.and_false, Bool.false_eq_true, if_false]
                exact ev_now _
              · simp only [h1, h2, h3, h6, this, show ¬ d ≤ 99999 by omega, decide_true, decide_false, cond_true, cond_false, Bool.false_and, Bool.and_false, Bool.false_eq_true, if_false]
                exact ev_now _
        · have : isOp d = false := by unfold isOp; simp; omega
          simp only [h1, this, show ¬ (1 : Int) ≤ d by omega, show ¬ d ≥ 101000 by omega, show ¬ d ≥ 201000 by omega, decide_false, cond_false, Bool.false_and, Bool.and_false, Bool.false_eq_true, if_false]
          exact ev_now _
    · have : plan.drop i = [] := List.drop_eq_nil_of_le (by omega)
      rw [this, fits_nil]
      apply ev_succ
      simp only [spec_l7Fits_L2, show ¬ ((i : Int) < (plan.length : Int)) by omega, decide_false, cond_false]
      exact ev_now _
theorem spec_fits_R {t : LE} (ht : t.length ≤ 1000) : ∀ (m : Nat) (plan : List Int), plan.length < m → plan.length ≤ 1000 → ∀ k, plan.length ≤ k → spec_l7Fits_R m t plan = some (fits t k plan)
  | 0, plan, h, _, _, _ => by omega
  | m + 1, plan, h, hp, k, hk => by
    have := spec_fits_loop (rc := spec_l7Fits_R m) ht hp (fun part h1 k' h2 => spec_fits_R ht m part (by omega) (by omega) k' h2) k 0 (by omega) (by omega)
    exact evF_eq this
theorem spec_fits {t : LE} (ht : t.length ≤ 1000) {plan : List Int} (hp : plan.length ≤ 1000) : spec_l7Fits t plan = some (fits t plan.length plan) :=
  evF_eq ⟨plan.length + 1, fun m hm => spec_fits_R ht m plan (by omega) hp _ (by omega)⟩
def planV (t : LE) (plan : List Int) : Bool := tblV t && (decide (plan.length ≤ 100) && fits t plan.length plan)
theorem impl_planV (t : LE) (plan : List Int) : impl_PlanOk t plan = some (planV t plan) := by
  unfold impl_PlanOk planV
  rw [impl_tblV, Option.bind_some]
  cases h : tblV t with
  | false => rfl
  | true =>
    have ht := (tblV_ok h).1
    by_cases hp : (plan.length : Int) ≤ 100
    · simp only [hp, show plan.length ≤ 100 by omega, decide_true, cond_true, impl_fits (show t.length ≤ 1000 by omega) (show plan.length ≤ 1000 by omega), Option.bind_some, Bool.true_and]
    · simp only [hp, show ¬ plan.length ≤ 100 by omega, decide_false, cond_false, cond_true, Bool.false_and, Bool.and_false]
theorem spec_planV (t : LE) (plan : List Int) : spec_PlanOk t plan = some (planV t plan) := by
  unfold spec_PlanOk planV
  rw [spec_tblV, Option.bind_some]
  cases h : tblV t with
  | false => rfl
  | true =>
    have ht := (tblV_ok h).1
    by_cases hp : (plan.length : Int) ≤ 100
    · simp only [hp, show plan.length ≤ 100 by omega, decide_true, cond_true, spec_fits (show t.length ≤ 1000 by omega) (show plan.length ≤ 1000 by omega), Option.bind_some, Bool.true_and]
    · simp only [hp, show ¬ plan.length ≤ 100 by omega, decide_false, cond_false, cond_true, Bool.false_and, Bool.and_false]
end Go.Proofs.Ytgkejafaggaocaa.PO

namespace Go.Proofs.Ytgkejafaggaocaa.PO
open Go Go.Eng Go.TB Go.FT Go.Proofs.Ytgkejafaggaocaa.EX
/-! ### bits -/
theorem and_one {w : Nat} (hw : 1 ≤ w) (x : Int) : (((BitVec.ofInt w x &&& BitVec.ofInt w 1).toNat : Nat) : Int) = x % 2 := by
  rw [BitVec.toNat_and, BitVec.toNat_ofInt, BitVec.toNat_ofInt]
  have h1 : ((1 : Int) % ((2 ^ w : Nat) : Int)).toNat = 1 := by
    have : (2 : Nat) ≤ 2 ^ w := by
      have := Nat.pow_le_pow_right (show 0 < 2 by omega) hw
      simpa using this
    rw [Int.emod_eq_of_lt (by omega) (by omega)]; rfl
  rw [h1, Nat.and_one_is_mod]
  have h2 : (((x % ((2 ^ w : Nat) : Int)).toNat : Nat) : Int) = x % ((2 ^ w : Nat) : Int) := Int.toNat_of_nonneg (Int.emod_nonneg _ (by have := Nat.two_pow_pos w; omega))
  have h3 : (2 : Int) ∣ ((2 ^ w : Nat) : Int) := by
    obtain ⟨v, rfl⟩ : ∃ v, w = v + 1 := ⟨w - 1, by omega⟩
    exact ⟨((2 ^ v : Nat) : Int), by rw [Nat.pow_succ]; omega⟩
  have h4 := Int.emod_emod_of_dvd x h3
  omega
theorem or_bit {v b : Int} (h0 : 0 ≤ v) (h1 : v < 4611686018427387904) (hb : b = 0 ∨ b = 1) : (((BitVec.ofInt 64 (v * 2) ||| BitVec.ofInt 64 b).toNat : Nat) : Int) = v * 2 + b := by
  rw [BitVec.toNat_or, BitVec.toNat_ofInt, BitVec.toNat_ofInt]
  have e1 : ((v * 2) % ((2 ^ 64 : Nat) : Int)).toNat = 2 ^ 1 * v.toNat := by rw [Int.emod_eq_of_lt (by omega) (by omega)]; omega
  have e2 : (b % ((2 ^ 64 : Nat) : Int)).toNat = b.toNat := by rw [Int.emod_eq_of_lt (by omega) (by omega)]
  rw [e1, e2, ← Nat.two_pow_add_eq_or_of_lt (by omega)]
  omega
/-- The bit at a place of bytes. -/
def bitAt (data : List Int) (q : Nat) : Int := (data.getD (q / 8) 0 / ((2 ^ (7 - q % 8) : Nat) : Int)) % 2
theorem bitAt_bit (data : List Int) (q : Nat) : bitAt data q = 0 ∨ bitAt data q = 1 := by unfold bitAt; omega
/-- The number that bits stand for. -/
def numF (f : Nat → Int) (p : Nat) : Nat → Int
  | 0 => 0
  | w + 1 => numF f p w * 2 + f (p + w)
theorem numF_lt {f : Nat → Int} (hf : ∀ q, f q = 0 ∨ f q = 1) (p : Nat) : ∀ w, 0 ≤ numF f p w ∧ numF f p w < ((2 ^ w : Nat) : Int)
  | 0 => by simp [numF]
  | w + 1 => by
    have ih := numF_lt hf p w
    have := hf (p + w)
    simp only [numF, Nat.pow_succ]
    omega
theorem numF_small {f : Nat → Int} (hf : ∀ q, f q = 0 ∨ f q = 1) (p : Nat) {w : Nat} (hw : w ≤ 40) : 0 ≤ numF f p w ∧ numF f p w < 1099511627776 := by
  have h1 := numF_lt hf p w
  have h2 : 2 ^ w ≤ 2 ^ 40 := Nat.pow_le_pow_right (by omega) hw
  have h3 : (2 : Nat) ^ 40 = 1099511627776 := by decide
  omega
/-- So many bits of a number, the highest first. -/
def nbits (n : Int) : Nat → List Int
  | 0 => []
  | w + 1 => (n / ((2 ^ w : Nat) : Int)) % 2 :: nbits n w
theorem nbits_length (n : Int) : ∀ w, (nbits n w).length = w
  | 0 => rfl
  | w + 1 => by simp [nbits, nbits_length n w]
theorem nbits_get (n : Int) : ∀ (w q : Nat), q < w → (nbits n w).getD q 0 = (n / ((2 ^ (w - 1 - q) : Nat) : Int)) % 2
  | w + 1, 0, h => by simp [nbits]
  | w + 1, q + 1, h => by
    have := nbits_get n w q (by omega)
    simp only [nbits, List.getD_cons_succ]
    rw [this, show w + 1 - 1 - (q + 1) = w - 1 - q by omega]
theorem nbits_bit (n : Int) (w : Nat) : ∀ x ∈ nbits n w, x = 0 ∨ x = 1 := by
  induction w with
  | zero => intro x hx; cases hx
  | succ w ih =>
    intro x hx
    rcases List.mem_cons.1 hx with rfl | hx
    · omega
    · exact ih x hx
theorem and64 (x : Int) : (((BitVec.ofInt IntKind.i64.bits x &&& BitVec.ofInt IntKind.i64.bits 1).toNat : Nat) : Int) = x % 2 := and_one (by decide) x
theorem and8 (x : Int) : (((BitVec.ofInt IntKind.u8.bits x &&& BitVec.ofInt IntKind.u8.bits 1).toNat : Nat) : Int) = x % 2 := and_one (by decide) x
theorem fdiv_pow (n : Int) (w : Nat) : n.fdiv (2 ^ w) = n / ((2 ^ w : Nat) : Int) := by
  rw [pow_cast]; exact Int.fdiv_eq_ediv_of_nonneg _ (Int.le_of_lt (by have := Nat.two_pow_pos w; rw [← pow_cast]; omega))
theorem put_loop (n : Int) (hmax : 100000000 ≤ maxBytes / 1) : ∀ (w : Nat) (acc : List Int), w ≤ 60 → acc.length + w ≤ 50000000 → Ev (fun k => spec_l7Put_L2 k n ((w : Int) - 1) acc) (acc ++ nbits n w)
  | 0, acc, h, ha => by
    apply ev_succ
    simp only [spec_l7Put_L2, show ¬ (((0 : Nat) : Int) - 1 ≥ 0) by omega, decide_false, cond_false, nbits, List.append_nil]
    exact ev_now _
  | w + 1, acc, h, ha => by
    have ih := put_loop n hmax w (acc ++ [(n / ((2 ^ w : Nat) : Int)) % 2]) (by omega) (by simp; omega)
    apply ev_succ
    have e0 : ((w + 1 : Nat) : Int) - 1 = (w : Int) := by omega
    have e1 : IntKind.u64.wrap (w : Int) = (w : Int) := wu64 (by omega) (by omega)
    have e2 : IntKind.i64.wrap ((w : Int) - 1) = (w : Int) - 1 := w64 (by omega) (by omega)
    have e3 : min w IntKind.i64.bits = w := by have : IntKind.i64.bits = 64 := rfl; omega
    have e6 : IntKind.u8.wrap (IntKind.i64.wrap ((n / ((2 ^ w : Nat) : Int)) % 2)) = (n / ((2 ^ w : Nat) : Int)) % 2 := by rw [w64 (by omega) (by omega), wu8 (by omega) (by omega)]
    simp only [spec_l7Put_L2, e0, e1, e2, e3, Int.toNat_natCast, fdiv_pow, and64, e6, show (w : Int) ≥ 0 by omega, show (0 : Int) ≤ (w : Int) by omega, decide_true, cond_true, List.length_singleton, show acc.length + 1 ≤ maxBytes / 1 by omega]
    refine ev_eq ih ?_
    simp [nbits]
theorem maxB : 100000000 ≤ maxBytes / 1 := by decide
theorem put_eq (n : Int) (w : Nat) (acc : List Int) (hw : w ≤ 60) (ha : acc.length + w ≤ 50000000) : spec_l7Put n (w : Int) acc = some (acc ++ nbits n w) := by
  refine evF_eq ?_
  unfold spec_l7Put_F
  rw [w64 (n := (w : Int) - 1) (by omega) (by omega)]
  exact put_loop n maxB w acc hw ha
/-- All bits of bytes. -/
def bitsB (data : List Int) : List Int := data.flatMap fun x => nbits x 8
theorem bitsB_length : ∀ data : List Int, (bitsB data).length = 8 * data.length
  | [] => rfl
  | x :: r => by
    have := bitsB_length r
    unfold bitsB at this ⊢
    simp only [List.flatMap_cons, List.length_append, nbits_length, List.length_cons, this]
    omega
theorem bitsB_get : ∀ (data : List Int) (q : Nat), q < 8 * data.length → (bitsB data).getD q 0 = bitAt data q
  | [], q, h => by simp at h
  | x :: r, q, h => by
    have e : bitsB (x :: r) = nbits x 8 ++ bitsB r := by unfold bitsB; rw [List.flatMap_cons]
    rw [e]
    by_cases hq : q < 8
    · have : (nbits x 8 ++ bitsB r).getD q 0 = (nbits x 8).getD q 0 := by
        rw [List.getD_eq_getElem?_getD, List.getD_eq_getElem?_getD, List.getElem?_append_left (by rw [nbits_length]; exact hq)]
      rw [this, nbits_get x 8 q hq]
      unfold bitAt
      rw [show q / 8 = 0 by omega, show q % 8 = q by omega]
      rfl
    · have : (nbits x 8 ++ bitsB r).getD q 0 = (bitsB r).getD (q - 8) 0 := by
        rw [List.getD_eq_getElem?_getD, List.getD_eq_getElem?_getD, List.getElem?_append_right (by rw [nbits_length]; omega), nbits_length]
      have h2 : (q - 8) < 8 * r.length := by simp at h; omega
      rw [this, bitsB_get r (q - 8) h2]
      unfold bitAt
      rw [show q / 8 = (q - 8) / 8 + 1 by omega, show (q - 8) % 8 = q % 8 by omega]
      rfl
theorem bits_loop (data : List Int) (hd : data.length ≤ 5000000) (hb : ∀ x ∈ data, 0 ≤ x ∧ x ≤ 255) : ∀ (m n : Nat), n + m = data.length → Ev (fun k => spec_l7Bits_L3 k data (n : Int) (bitsB (data.take n))) (bitsB data)
  | 0, n, h => by
    apply ev_succ
    simp only [spec_l7Bits_L3, show ¬ ((n : Int) < (data.length : Int)) by omega, decide_false, cond_false]
    rw [List.take_of_length_le (by omega)]
    exact ev_now _
  | m + 1, n, h => by
    have hn : n < data.length := by omega
    have ih := bits_loop data hd hb m (n + 1) (by omega)
    have e1 : rd (.int .u8) data (n : Int) = data[n] := rd_nat hn
    have hx := hb _ (List.getElem_mem hn)
    have e2 : IntKind.i64.wrap data[n] = data[n] := w64 (by omega) (by omega)
    have e3 : spec_l7Put data[n] 8 (bitsB (data.take n)) = some (bitsB (data.take n) ++ nbits data[n] 8) := put_eq data[n] 8 _ (by omega) (by rw [bitsB_length, List.length_take]; omega)
    have e4 : bitsB (data.take n) ++ nbits data[n] 8 = bitsB (data.take (n + 1)) := by
      rw [List.take_succ_eq_append_getElem hn]
      unfold bitsB
      rw [List.flatMap_append]; simp
    apply ev_succ
    simp only [spec_l7Bits_L3, e1, e2, e3, e4, Option.bind_some, show (n : Int) < (data.length : Int) by omega, show (0 : Int) ≤ (n : Int) by omega, decide_true, cond_true, wsucc (show n < 9223372036854775807 by omega)]
    exact ih
theorem bits_eq {data : List Int} (hd : data.length ≤ 5000000) (hb : ∀ x ∈ data, 0 ≤ x ∧ x ≤ 255) : spec_l7Bits data = some (bitsB data) := evF_eq (bits_loop data hd hb data.length 0 (by omega))
/-! ### values -/
theorem nan_eq : impl_nan = some 9221120237041090560 := by
  unfold impl_nan math_NaN
  have : dFf 9221120237041090561 = some 9221120237041090560 := by decide
  rw [this]; rfl
theorem none_eq : spec_l1None = some 9221120237041090560 := by
  unfold spec_l1None
  have : fdiv 0 0 = 9221120237041090560 := by decide +kernel
  rw [this]
theorem pow_small {w : Nat} (h : w ≤ 32) : 2 ^ w ≤ 4294967296 := by
  have h1 : 2 ^ w ≤ 2 ^ 32 := Nat.pow_le_pow_right (by omega) h
  have h2 : (2 : Nat) ^ 32 = 4294967296 := by decide
  omega
theorem one_mul_pow (w : Nat) : (1 : Int) * 2 ^ w = ((2 ^ w : Nat) : Int) := by rw [Int.one_mul, pow_cast]
theorem ones_eq {w : Nat} (h : w ≤ 32) : impl_ones (w : Int) = some (((2 ^ w : Nat) : Int) - 1) := by
  unfold impl_ones
  have h1 := pow_small h
  have h2 := Nat.two_pow_pos w
  have e1 : IntKind.u64.wrap (w : Int) = (w : Int) := wu64 (by omega) (by omega)
  have e3 : min w IntKind.u64.bits = w := by have : IntKind.u64.bits = 64 := rfl; omega
  simp only [e1, show (0 : Int) ≤ (w : Int) by omega, decide_true, cond_true, Int.toNat_natCast, e3, one_mul_pow]
  rw [wu64 (n := ((2 ^ w : Nat) : Int)) (by omega) (by omega), wu64 (by omega) (by omega)]
/-- The value of a number at an element. -/
def valV (w : Nat) (s ref n : Int) : Nat :=
  if n = ((2 ^ w : Nat) : Int) - 1 then 9221120237041090560
  else if 0 ≤ s then fdiv (fofi (IntKind.i64.wrap (n + ref))) (tenB s.toNat) else fmul (fofi (IntKind.i64.wrap (n + ref))) (tenB (-s).toNat)
theorem tens (s : Int) (h0 : 0 ≤ s) (h1 : s ≤ 10) : impl_ten s = some (tenB s.toNat) := by
  have := ten_impl (m := s.toNat) (by omega)
  rwa [show ((s.toNat : Nat) : Int) = s by omega] at this
theorem l7tens (s : Int) (h0 : -10 ≤ s) (h1 : s ≤ 10) : spec_l7Ten s = some (tenB s.natAbs) := by
  unfold spec_l7Ten
  have key : ∀ n : Nat, n ≤ 10 → (spec_l1Ten (n : Int)).bind (fun val => some (fofi val)) = some (tenB n) := fun n hn => by
    rw [ten_spec hn, Option.bind_some, ten_of n (by omega)]
  by_cases h : s < 0
  · simp only [h, decide_true, cond_true]
    rw [w64 (n := 0 - s) (by omega) (by omega), show 0 - s = ((s.natAbs : Nat) : Int) by omega]
    exact key _ (by omega)
  · simp only [h, decide_false, cond_false]
    have := key s.natAbs (by omega)
    rwa [show ((s.natAbs : Nat) : Int) = s by omega] at this
theorem impl_val {w : Nat} (hw : w ≤ 32) {s : Int} (hs : -10 ≤ s ∧ s ≤ 10) (c ref : Int) {n : Int} (hn : 0 ≤ n ∧ n < ((2 ^ w : Nat) : Int)) : impl_valueOf c (w : Int) s ref n = some (valV w s ref n) := by
  unfold impl_valueOf valV
  have h1 := pow_small hw
  rw [ones_eq hw, Option.bind_some, beqI]
  by_cases h : n = ((2 ^ w : Nat) : Int) - 1
  · simp only [h, decide_true, cond_true, nan_eq, Option.bind_some, if_true]
  · simp only [h, decide_false, cond_false, if_false, w64 (n := n) (by omega) (by omega)]
    by_cases h0 : s ≥ 0
    · simp only [h0, show (0 : Int) ≤ s by omega, decide_true, cond_true, if_true, tens s (by omega) hs.2, Option.bind_some]
    · have e : 0 - s = -s := by omega
      simp only [h0, show ¬ (0 : Int) ≤ s by omega, decide_false, cond_false, if_false, e, w64 (n := -s) (by omega) (by omega), tens (-s) (by omega) (by omega), Option.bind_some]
theorem spec_val {w : Nat} (hw : w ≤ 32) {s : Int} (hs : -10 ≤ s ∧ s ≤ 10) (c ref : Int) {n : Int} (hn : 0 ≤ n ∧ n < ((2 ^ w : Nat) : Int)) : spec_l7Value c (w : Int) s ref n = some (valV w s ref n) := by
  unfold spec_l7Value valV
  have h1 := pow_small hw
  have h2 := Nat.two_pow_pos w
  have e1 : IntKind.u64.wrap (w : Int) = (w : Int) := wu64 (by omega) (by omega)
  have e3 : min w IntKind.i64.bits = w := by have : IntKind.i64.bits = 64 := rfl; omega
  simp only [e1, show (0 : Int) ≤ (w : Int) by omega, decide_true, cond_true, Int.toNat_natCast, e3, one_mul_pow, w64 (n := ((2 ^ w : Nat) : Int)) (by omega) (by omega), w64 (n := ((2 ^ w : Nat) : Int) - 1) (by omega) (by omega), beqI, l7tens s hs.1 hs.2, Option.bind_some]
  by_cases h : n = ((2 ^ w : Nat) : Int) - 1
  · simp only [h, decide_true, cond_true, none_eq, Option.bind_some, if_true]
  · simp only [h, decide_false, cond_false, if_false]
    by_cases h0 : s < 0
    · simp only [h0, show ¬ (0 : Int) ≤ s by omega, decide_true, cond_true, if_false, show s.natAbs = (-s).toNat by omega]
    · simp only [h0, show (0 : Int) ≤ s by omega, decide_false, cond_false, if_true, show s.natAbs = s.toNat by omega]
end Go.Proofs.Ytgkejafaggaocaa.PO

namespace Go.Proofs.Ytgkejafaggaocaa.PO
open Go Go.Eng Go.TB Go.FT Ieee Go.Proofs.Ytgkejafaggaocaa.EX
/-! ### whole numbers up to 255 -/
def wholeV (x : Nat) : Option Nat := (List.range 256).find? fun n => x == fofi (n : Int)
theorem fofi_small : ((List.range 256).all fun n => decide (fofi (n : Int) < 2 ^ 64)) = true := by decide +kernel
theorem fofi_lt {n : Nat} (h : n ≤ 255) : fofi (n : Int) < 2 ^ 64 := of_decide_eq_true (List.all_eq_true.1 fofi_small n (List.mem_range.2 (by omega)))
theorem fin_nat {n : Nat} (h : n ≤ 255) : Fin (fofi (n : Int)) ((n : Int) * (DD : Int)) := fin_of (by omega)
theorem DD_ne : (DD : Int) ≠ 0 := by have := DD_pos; omega
theorem fofi_inj {n m : Nat} (hn : n ≤ 255) (hm : m ≤ 255) (h : fofi (n : Int) = fofi (m : Int)) : n = m := by
  have a := fin_nat hn
  have b := fin_nat hm
  rw [h] at a
  have : (n : Int) * (DD : Int) = (m : Int) * (DD : Int) := by
    obtain ⟨s, x, p, h1, _, h2, _⟩ := a
    obtain ⟨s', x', p', k1, _, k2, _⟩ := b
    rw [h1] at k1
    cases k1
    rw [h2, k2]
  have := Int.eq_of_mul_eq_mul_right DD_ne this
  omega
theorem wholeV_some {x n : Nat} (hn : n ≤ 255) (h : x = fofi (n : Int)) : wholeV x = some n := by
  cases hw : wholeV x with
  | none =>
    have := List.find?_eq_none.1 hw n (List.mem_range.2 (by omega))
    exact absurd (by rw [beq_iff_eq]; exact h) this
  | some m =>
    have h1 := List.find?_some hw
    have h2 := List.mem_of_find?_eq_some hw
    rw [beq_iff_eq] at h1
    have h3 := List.mem_range.1 h2
    rw [fofi_inj hn (show m ≤ 255 by omega) (h.symm.trans h1)]
theorem wholeV_none {x : Nat} (h : ¬ ∃ n : Nat, n ≤ 255 ∧ x = fofi (n : Int)) : wholeV x = none := by
  cases hw : wholeV x with
  | none => rfl
  | some m =>
    have h1 := List.find?_some hw
    have h2 := List.mem_range.1 (List.mem_of_find?_eq_some hw)
    rw [beq_iff_eq] at h1
    exact absurd ⟨m, by omega, h1⟩ h
theorem minus_fin {x : Nat} {Z : Int} (h : Fin x Z) : ∃ b, spec_l1Minus x = some b := by
  unfold spec_l1Minus
  cases Go.Eng.flt x 0 with
  | true => exact ⟨true, rfl⟩
  | false =>
    cases feq x 0 with
    | true => exact ⟨_, rfl⟩
    | false => exact ⟨false, rfl⟩
theorem same_spec {x : Nat} {Z : Int} (h : Fin x Z) : spec_Same x x = some true := by
  obtain ⟨b, hb⟩ := minus_fin h
  unfold spec_Same
  rw [self_fin h, hb]
  simp
theorem near_whole (n : Nat) (h : n ≤ 1000000) : nearV ((n : Int) * (DD : Int)) = (n : Int) := by
  unfold nearV
  rw [scale_abs]
  have hp := DD_pos
  have e1 : rne ((n : Int).natAbs * DD) = n := by
    rw [rne_eq, Nat.mul_div_cancel _ hp, Nat.mul_mod_left]
    have := HH_pos
    rw [if_neg (by omega)]
    simp
  have e2 : ¬ ((n : Int) * (DD : Int) < 0) := by
    have := Int.mul_nonneg (show (0 : Int) ≤ n by omega) (show (0 : Int) ≤ DD by omega)
    omega
  rw [e1, decide_eq_false e2]
  rfl
theorem minus_neg0 : spec_l1Minus 9223372036854775808 = some true ∧ spec_l1Minus 0 = some false := by
  unfold spec_l1Minus
  decide +kernel
theorem whole_both {x : Nat} (hx : x < 2 ^ 64) : (∃ n : Nat, n ≤ 255 ∧ wholeV x = some n ∧ impl_wholeOf x 0 255 = some ((n : Int), true) ∧ spec_l5Is x 0 255 = some ((n : Int), true)) ∨
    (wholeV x = none ∧ ∃ a b : Int, impl_wholeOf x 0 255 = some (a, false) ∧ spec_l5Is x 0 255 = some (b, false)) := by
  have hp := DD_pos
  by_cases E : ∃ n : Nat, n ≤ 255 ∧ x = fofi (n : Int)
  · left
    obtain ⟨n, hn, rfl⟩ := E
    have hf := fin_nat hn
    have ha := fin_abs hf
    refine ⟨n, hn, wholeV_some hn rfl, ?_, ?_⟩
    · have e1 : fgt (fofi (n : Int) % 2 ^ 63) 4831355200913801216 = false := by
        rw [fgt_fin ha fin_big, scale_abs]
        refine decide_eq_false ?_
        unfold big
        have : (n : Int).natAbs * DD ≤ 255 * DD := Nat.mul_le_mul_right _ (by omega)
        omega
      have e2 : floatToIntVal .f64 (fofi (n : Int)) .i64 = some (n : Int) := by
        have := trunc_fin hf (by rw [scale_abs, Nat.mul_div_cancel _ hp]; omega)
        rw [this, scale_abs, Nat.mul_div_cancel _ hp]
        have e3 : ¬ ((n : Int) * (DD : Int) < 0) := by
          have := Int.mul_nonneg (show (0 : Int) ≤ n by omega) (show (0 : Int) ≤ DD by omega)
          omega
        rw [decide_eq_false e3]; rfl
      have e4 : inB (n : Int) 0 255 = true := by unfold inB; simp; omega
      have e5 : impl_Same (fofi (n : Int)) (fofi (n : Int)) = some true := by
        unfold impl_Same impl_missing dFb
        simp only [self_fin hf, nan_fin hf, Option.bind_some, Bool.not_true, cond_false, beq_self_eq_true]
      unfold impl_wholeOf
      simp only [known_impl, known_fin hf, Option.bind_some, Bool.not_true, cond_false, abs_eq (nan_fin hf) ha.canon, e1, e2, in_eq, e4, cond_true, e5]
    · have e1 : inBig ((n : Int) * (DD : Int)) = true := by
        unfold inBig big
        rw [Bool.and_eq_true, decide_eq_true_eq, decide_eq_true_eq]
        have h1 : (n : Int) * (DD : Int) ≤ 255 * (DD : Int) := Int.mul_le_mul_of_nonneg_right (by omega) (by omega)
        have h2 := Int.mul_nonneg (show (0 : Int) ≤ n by omega) (show (0 : Int) ≤ DD by omega)
        omega
      unfold spec_l5Is
      simp only [spec_in hf e1, near_whole n (by omega), Option.bind_some, Bool.not_true, cond_false, show ¬ ((n : Int) < 0) by omega, show ¬ ((n : Int) > 255) by omega, decide_false, same_spec hf]
  · right
    refine ⟨wholeV_none E, ?_⟩
    have himpl : ∃ a : Int, impl_wholeOf x 0 255 = some (a, false) := by
      unfold impl_wholeOf
      rcases read_cases x with ⟨Y, h⟩ | ⟨s, h⟩ | ⟨s, t, h⟩
      · have ha := fin_abs h
        simp only [known_impl, known_fin h, Option.bind_some, Bool.not_true, cond_false, abs_eq (nan_fin h) ha.canon]
        rw [fgt_fin ha fin_big]
        by_cases hb : big * (DD : Int) < (Y.natAbs : Int)
        · simp only [hb, decide_true, cond_true]; exact ⟨0, rfl⟩
        · have hab : Y.natAbs ≤ 1000000000000000 * DD := by unfold big at hb; omega
          have ht := trunc_fin h (by have := whole_bound hab; omega)
          generalize sgn (decide (Y < 0)) (Y.natAbs / DD) = m at ht
          simp only [hb, decide_false, cond_false, ht, Option.bind_some, in_eq]
          cases hi : inB m 0 255 with
          | false => exact ⟨m, rfl⟩
          | true =>
            unfold inB at hi
            rw [Bool.and_eq_true, decide_eq_true_eq, decide_eq_true_eq] at hi
            obtain ⟨k, rfl⟩ : ∃ k : Nat, m = (k : Int) := ⟨m.toNat, by omega⟩
            have hk := fin_nat (n := k) (by omega)
            have hne : ¬ (fofi (k : Int) = x) := fun hc => E ⟨k, by omega, hc.symm⟩
            have e5 : impl_Same (fofi (k : Int)) x = some false := by
              unfold impl_Same impl_missing dFb
              simp only [self_fin hk, nan_fin hk, nan_fin h, Option.bind_some, Bool.not_true, cond_false, beqI]
              rw [decide_eq_false (by omega)]
            simp only [cond_true, e5, Option.bind_some]
            exact ⟨_, rfl⟩
      · simp only [known_impl, known_inf h, Option.bind_some, Bool.not_false, cond_true]; exact ⟨0, rfl⟩
      · simp only [known_impl, known_nan h, Option.bind_some, Bool.not_false, cond_true]; exact ⟨0, rfl⟩
    have hspec : ∃ b : Int, spec_l5Is x 0 255 = some (b, false) := by
      unfold spec_l5Is
      rcases nearest_both x with ⟨Y, h, hi, h1, _⟩ | ⟨h1, _⟩
      · simp only [h1, Option.bind_some, Bool.not_true, cond_false]
        generalize nearV Y = n
        by_cases h2 : n < 0
        · simp only [h2, decide_true, cond_true]; exact ⟨0, rfl⟩
        · by_cases h3 : n > 255
          · simp only [h2, h3, decide_true, decide_false, cond_true, cond_false]; exact ⟨0, rfl⟩
          · obtain ⟨k, rfl⟩ : ∃ k : Nat, n = (k : Int) := ⟨n.toNat, by omega⟩
            have hk := fin_nat (n := k) (by omega)
            have e5 : spec_Same x (fofi (k : Int)) = some false := by
              unfold spec_Same
              simp only [self_fin h, self_fin hk, Bool.not_true, cond_false, feq_fin h hk]
              by_cases hY : Y = (k : Int) * (DD : Int)
              · simp only [hY, decide_true, cond_true]
                by_cases hk0 : k = 0
                · subst hk0
                  have hY0 : Y = 0 := by rw [hY]; simp
                  rw [hY0] at h
                  have e0 : fofi ((0 : Nat) : Int) = 0 := by decide +kernel
                  rcases fin_zero_word h hx with h0 | h0
                  · exact absurd ⟨0, by omega, by rw [h0, e0]⟩ E
                  · rw [h0, e0, show (2 : Nat) ^ 63 = 9223372036854775808 by decide, minus_neg0.1, minus_neg0.2]; rfl
                · exfalso
                  refine E ⟨k, by omega, fin_inj (Z := Y) h (by rw [hY]; exact hk) hx (fofi_lt (by omega)) ?_⟩
                  rw [hY]
                  exact Int.mul_ne_zero (by omega) DD_ne
              · simp only [hY, decide_false, cond_false]
            simp only [h2, h3, decide_false, cond_false, e5, Option.bind_some, Bool.not_false, cond_true]
            exact ⟨0, rfl⟩
      · simp only [h1, Option.bind_some, Bool.not_false, cond_true]; exact ⟨0, rfl⟩
    obtain ⟨a, ha⟩ := himpl
    obtain ⟨b, hb⟩ := hspec
    exact ⟨a, b, ha, hb⟩
/-! ### the number of a value at an element -/
def scaleV (s : Int) (x : Nat) : Nat := if 0 ≤ s then fmul x (tenB s.toNat) else fdiv x (tenB (-s).toNat)
noncomputable def nearO (y : Nat) : Option Int := match spec_Nearest y with
  | some (n, true) => some n
  | _ => none
def inW (w : Nat) (ref n : Int) : Option Int := if 0 ≤ IntKind.i64.wrap (n - ref) ∧ IntKind.i64.wrap (n - ref) < ((2 ^ w : Nat) : Int) - 1 then some (IntKind.i64.wrap (n - ref)) else none
noncomputable def numV (w : Nat) (s ref : Int) (x : Nat) : Option Int := (nearO (scaleV s x)).bind (inW w ref)
noncomputable def numB (w : Nat) (s ref : Int) (x : Nat) : Option Int := bif feq x x then numV w s ref x else some (((2 ^ w : Nat) : Int) - 1)
theorem near_cases (y : Nat) : (∃ n : Int, nearO y = some n ∧ spec_Nearest y = some (n, true) ∧ impl_Nearest y = some (n, true)) ∨ (nearO y = none ∧ spec_Nearest y = some (0, false) ∧ impl_Nearest y = some (0, false)) := by
  rcases nearest_both y with ⟨Y, _, _, h1, h2⟩ | ⟨h1, h2, _⟩
  · exact .inl ⟨_, by unfold nearO; rw [h1], h1, h2⟩
  · exact .inr ⟨by unfold nearO; rw [h1], h1, h2⟩
theorem spec_num {w : Nat} (hw : w ≤ 32) {s : Int} (hs : -10 ≤ s ∧ s ≤ 10) (c ref : Int) (x : Nat) : (∃ n, numV w s ref x = some n ∧ spec_l7Number c (w : Int) s ref x = some (n, true)) ∨ (numV w s ref x = none ∧ ∃ n, spec_l7Number c (w : Int) s ref x = some (n, false)) := by
  have h1 := pow_small hw
  have h2 := Nat.two_pow_pos w
  have e1 : IntKind.u64.wrap (w : Int) = (w : Int) := wu64 (by omega) (by omega)
  have e3 : min w IntKind.i64.bits = w := by have : IntKind.i64.bits = 64 := rfl; omega
  have key : ∀ n : Int, (bif decide (IntKind.i64.wrap (n - ref) ≥ 0) then bif decide (0 ≤ IntKind.u64.wrap (w : Int)) then some (IntKind.i64.wrap (n - ref), decide (IntKind.i64.wrap (n - ref) < IntKind.i64.wrap (IntKind.i64.wrap (1 * 2 ^ min (IntKind.u64.wrap (w : Int)).toNat IntKind.i64.bits) - 1))) else none else some (IntKind.i64.wrap (n - ref), false)) = some (IntKind.i64.wrap (n - ref), (inW w ref n).isSome) := fun n => by
    simp only [e1, show (0 : Int) ≤ (w : Int) by omega, decide_true, cond_true, Int.toNat_natCast, e3, one_mul_pow, w64 (n := ((2 ^ w : Nat) : Int)) (by omega) (by omega), w64 (n := ((2 ^ w : Nat) : Int) - 1) (by omega) (by omega)]
    unfold inW
    by_cases a : IntKind.i64.wrap (n - ref) ≥ 0
    · by_cases b : IntKind.i64.wrap (n - ref) < ((2 ^ w : Nat) : Int) - 1
      · simp only [a, b, decide_true, cond_true, show (0 : Int) ≤ IntKind.i64.wrap (n - ref) from a, and_self, if_true, Option.isSome_some]
      · simp only [a, b, decide_true, decide_false, cond_true, and_false, if_false, Option.isSome_none]
    · simp only [a, decide_false, cond_false, show ¬ (0 : Int) ≤ IntKind.i64.wrap (n - ref) from a, false_and, if_false, Option.isSome_none]
  have fin : ∀ n : Int, (∃ m, inW w ref n = some m ∧ some (IntKind.i64.wrap (n - ref), (inW w ref n).isSome) = some (m, true)) ∨ (inW w ref n = none ∧ ∃ m, some (IntKind.i64.wrap (n - ref), (inW w ref n).isSome) = some (m, false)) := fun n => by
    cases hm : inW w ref n with
    | none => exact .inr ⟨rfl, _, rfl⟩
    | some m =>
      left
      have : m = IntKind.i64.wrap (n - ref) := by
        unfold inW at hm
        split at hm
        · exact (Option.some.inj hm).symm
        · cases hm
      exact ⟨m, rfl, by rw [this]; rfl⟩
  unfold spec_l7Number numV scaleV
  rw [l7tens s hs.1 hs.2, Option.bind_some]
  by_cases h0 : s < 0
  · simp only [h0, show ¬ (0 : Int) ≤ s by omega, decide_true, cond_true, if_false, show s.natAbs = (-s).toNat by omega]
    rcases near_cases (fdiv x (tenB (-s).toNat)) with ⟨n, a1, a2, _⟩ | ⟨a1, a2, _⟩
    · simp only [a1, a2, Option.bind_some, cond_true, key]; exact fin n
    · simp only [a1, a2, Option.bind_some, Option.bind_none, cond_false]; exact .inr ⟨trivial, _, rfl⟩
  · simp only [h0, show (0 : Int) ≤ s by omega, decide_false, cond_false, if_true, show s.natAbs = s.toNat by omega]
    rcases near_cases (fmul x (tenB s.toNat)) with ⟨n, a1, a2, _⟩ | ⟨a1, a2, _⟩
    · simp only [a1, a2, Option.bind_some, cond_true, key]; exact fin n
    · simp only [a1, a2, Option.bind_some, Option.bind_none, cond_false]; exact .inr ⟨trivial, _, rfl⟩
theorem inW_range {w : Nat} {ref n m : Int} (h : inW w ref n = some m) : 0 ≤ m ∧ m < ((2 ^ w : Nat) : Int) - 1 := by
  unfold inW at h
  split at h
  · cases h; assumption
  · cases h
theorem numB_range {w : Nat} {s ref : Int} {x : Nat} {n : Int} (h : numB w s ref x = some n) : 0 ≤ n ∧ n < ((2 ^ w : Nat) : Int) := by
  have h2 := Nat.two_pow_pos w
  unfold numB at h
  cases hf : feq x x with
  | false => rw [hf] at h; cases h; omega
  | true =>
    rw [hf] at h
    unfold numV at h
    cases hn : nearO (scaleV s x) with
    | none => rw [hn] at h; cases h
    | some k => rw [hn] at h; have := inW_range h; omega
theorem impl_num {w : Nat} (hw : w ≤ 32) {s : Int} (hs : -10 ≤ s ∧ s ≤ 10) (c ref : Int) (x : Nat) : (∃ n, numB w s ref x = some n ∧ impl_bitsOf c (w : Int) s ref x = some (n, true)) ∨ (numB w s ref x = none ∧ ∃ n, impl_bitsOf c (w : Int) s ref x = some (n, false)) := by
  have h1 := pow_small hw
  have h2 := Nat.two_pow_pos w
  unfold impl_bitsOf numB impl_missing
  cases hf : feq x x with
  | false =>
    left
    simp only [Option.bind_some, Bool.not_false, cond_true, ones_eq hw, cond_false]
    exact ⟨_, rfl, rfl⟩
  | true =>
    have key : ∀ n : Int, ((some (((2 ^ w : Nat) : Int) - 1)).bind fun val_1 => (impl_in (IntKind.i64.wrap (n - ref)) 0 (IntKind.i64.wrap (IntKind.i64.wrap val_1 - 1))).bind fun val_2 => some (IntKind.u64.wrap (IntKind.i64.wrap (n - ref)), val_2)) = some (IntKind.u64.wrap (IntKind.i64.wrap (n - ref)), (inW w ref n).isSome) := fun n => by
      simp only [Option.bind_some, w64 (n := ((2 ^ w : Nat) : Int) - 1) (by omega) (by omega), w64 (n := ((2 ^ w : Nat) : Int) - 1 - 1) (by omega) (by omega), in_eq]
      unfold inW inB
      by_cases a : 0 ≤ IntKind.i64.wrap (n - ref)
      · by_cases b : IntKind.i64.wrap (n - ref) < ((2 ^ w : Nat) : Int) - 1
        · simp only [a, b, show IntKind.i64.wrap (n - ref) ≤ ((2 ^ w : Nat) : Int) - 1 - 1 by omega, decide_true, Bool.and_self, and_self, if_true, Option.isSome_some]
        · simp only [a, b, show ¬ IntKind.i64.wrap (n - ref) ≤ ((2 ^ w : Nat) : Int) - 1 - 1 by omega, decide_true, decide_false, Bool.and_false, and_false, if_false, Option.isSome_none]
      · simp only [a, decide_false, Bool.false_and, false_and, if_false, Option.isSome_none]
    have fin : ∀ n : Int, (∃ m, inW w ref n = some m ∧ some (IntKind.u64.wrap (IntKind.i64.wrap (n - ref)), (inW w ref n).isSome) = some (m, true)) ∨ (inW w ref n = none ∧ ∃ m, some (IntKind.u64.wrap (IntKind.i64.wrap (n - ref)), (inW w ref n).isSome) = some (m, false)) := fun n => by
      cases hm : inW w ref n with
      | none => exact .inr ⟨rfl, _, rfl⟩
      | some m =>
        left
        have hr := inW_range hm
        have : m = IntKind.i64.wrap (n - ref) := by
          unfold inW at hm
          split at hm
          · exact (Option.some.inj hm).symm
          · cases hm
        refine ⟨m, rfl, ?_⟩
        rw [← this, wu64 (by omega) (by omega)]; rfl
    unfold numV scaleV
    simp only [Option.bind_some, Bool.not_true, cond_false, cond_true, ones_eq hw]
    by_cases h0 : s ≥ 0
    · simp only [h0, show (0 : Int) ≤ s by omega, decide_true, cond_true, if_true, tens s (by omega) hs.2, Option.bind_some]
      rcases near_cases (fmul x (tenB s.toNat)) with ⟨n, a1, _, a2⟩ | ⟨a1, _, a2⟩
      · have := key n
        simp only [Option.bind_some] at this
        simp only [a1, a2, Option.bind_some, cond_true, this]; exact fin n
      · simp only [a1, a2, Option.bind_some, Option.bind_none, cond_false]; exact .inr ⟨trivial, _, rfl⟩
    · have e : 0 - s = -s := by omega
      simp only [h0, show ¬ (0 : Int) ≤ s by omega, decide_false, cond_false, if_false, e, w64 (n := -s) (by omega) (by omega), tens (-s) (by omega) (by omega), Option.bind_some]
      rcases near_cases (fdiv x (tenB (-s).toNat)) with ⟨n, a1, _, a2⟩ | ⟨a1, _, a2⟩
      · have := key n
        simp only [Option.bind_some] at this
        simp only [a1, a2, Option.bind_some, cond_true, this]; exact fin n
      · simp only [a1, a2, Option.bind_some, Option.bind_none, cond_false]; exact .inr ⟨trivial, _, rfl⟩
end Go.Proofs.Ytgkejafaggaocaa.PO

namespace Go.Proofs.Ytgkejafaggaocaa.PO
open Go Go.Eng Go.TB Go.FT Go.Proofs.Ytgkejafaggaocaa.EX
def Bits (b : List Int) : Prop := ∀ x ∈ b, x = 0 ∨ x = 1
def fB (b : List Int) (q : Nat) : Int := b.getD q 0
theorem fB_bit {b : List Int} (h : Bits b) (q : Nat) : fB b q = 0 ∨ fB b q = 1 := by
  unfold fB
  rw [List.getD_eq_getElem?_getD]
  cases hq : b[q]? with
  | none => left; rfl
  | some x => exact h x (List.mem_of_getElem? hq)
theorem fB_out {b : List Int} {q : Nat} (h : b.length ≤ q) : fB b q = 0 := by
  unfold fB
  rw [List.getD_eq_getElem?_getD, List.getElem?_eq_none h]; rfl
theorem fB_left {b c : List Int} {q : Nat} (h : q < b.length) : fB (b ++ c) q = fB b q := by
  unfold fB
  rw [List.getD_eq_getElem?_getD, List.getD_eq_getElem?_getD, List.getElem?_append_left h]
theorem fB_last (b : List Int) (x : Int) : fB (b ++ [x]) b.length = x := by
  unfold fB
  rw [List.getD_eq_getElem?_getD, List.getElem?_append_right (Nat.le_refl _)]
  simp
theorem numF_congr {f g : Nat → Int} {p : Nat} : ∀ {w : Nat}, (∀ j, j < w → f (p + j) = g (p + j)) → numF f p w = numF g p w
  | 0, _ => rfl
  | w + 1, h => by
    simp only [numF]
    rw [numF_congr (fun j hj => h j (by omega)), h w (by omega)]
theorem numF_zeros {f : Nat → Int} {p r : Nat} : ∀ {w : Nat}, (∀ q, p + r ≤ q → f q = 0) → r ≤ w → numF f p w = numF f p r * ((2 ^ (w - r) : Nat) : Int)
  | 0, _, h => by
    obtain rfl : r = 0 := by omega
    simp [numF]
  | w + 1, hz, h => by
    by_cases e : r = w + 1
    · subst e; simp
    · have ih := numF_zeros (w := w) hz (by omega)
      simp only [numF]
      rw [ih, hz (p + w) (by omega), show w + 1 - r = (w - r) + 1 by omega, Nat.pow_succ]
      rw [Int.natCast_mul, ← Int.mul_assoc]
      simp
theorem numF_one {f g : Nat → Int} {p r : Nat} {x : Int} (hd : ∀ q, q ≠ p + r → g q = f q) (hr : g (p + r) = f (p + r) + x) : ∀ {w : Nat}, r < w → numF g p w = numF f p w + x * ((2 ^ (w - 1 - r) : Nat) : Int)
  | 0, h => by omega
  | w + 1, h => by
    simp only [numF]
    by_cases e : r = w
    · subst e
      rw [numF_congr (f := g) (g := f) (fun j hj => hd _ (by omega)), hr, show r + 1 - 1 - r = 0 by omega]
      simp; omega
    · have ih := numF_one hd hr (w := w) (by omega)
      rw [ih, hd (p + w) (by omega), show w + 1 - 1 - r = (w - 1 - r) + 1 by omega, Nat.pow_succ, Int.natCast_mul, ← Int.mul_assoc]
      generalize x * ((2 ^ (w - 1 - r) : Nat) : Int) = u
      omega
theorem numF_bit {f : Nat → Int} (hf : ∀ q, f q = 0 ∨ f q = 1) {p : Nat} : ∀ {w j : Nat}, j < w → (numF f p w / ((2 ^ (w - 1 - j) : Nat) : Int)) % 2 = f (p + j)
  | 0, j, h => by omega
  | w + 1, j, h => by
    have hb := hf (p + w)
    simp only [numF]
    by_cases e : j = w
    · subst e
      rw [show j + 1 - 1 - j = 0 by omega]
      have : ((2 ^ 0 : Nat) : Int) = 1 := rfl
      rw [this, Int.ediv_one]
      omega
    · have ih := numF_bit hf (p := p) (w := w) (j := j) (by omega)
      rw [show w + 1 - 1 - j = (w - 1 - j) + 1 by omega, Nat.pow_succ, Nat.mul_comm, Int.natCast_mul, ← Int.ediv_ediv_of_nonneg (by decide)]
      have : (numF f p w * 2 + f (p + w)) / ((2 : Nat) : Int) = numF f p w := by
        show (numF f p w * 2 + f (p + w)) / 2 = _
        omega
      rw [this]
      exact ih
def byteAt (b : List Int) (k : Nat) : Int := numF (fB b) (8 * k) 8
/-- Bytes out of bits, the highest first, filled up with noughts. -/
def bytesB (b : List Int) : List Int := (List.range ((b.length + 7) / 8)).map (byteAt b)
theorem bytesB_length (b : List Int) : (bytesB b).length = (b.length + 7) / 8 := by simp [bytesB]
theorem byteAt_range {b : List Int} (h : Bits b) (k : Nat) : 0 ≤ byteAt b k ∧ byteAt b k ≤ 255 := by
  have := numF_lt (fB_bit h) (8 * k) 8
  have h8 : ((2 ^ 8 : Nat) : Int) = 256 := by decide
  unfold byteAt
  omega
theorem byteAt_same {b : List Int} (x : Int) {k : Nat} (h : 8 * k + 8 ≤ b.length) : byteAt (b ++ [x]) k = byteAt b k := numF_congr fun j hj => fB_left (by omega)
theorem byteAt_new (b : List Int) (x : Int) : byteAt (b ++ [x]) (b.length / 8) = byteAt b (b.length / 8) + x * ((2 ^ (7 - b.length % 8) : Nat) : Int) := by
  unfold byteAt
  have e : 8 * (b.length / 8) + b.length % 8 = b.length := by omega
  have := numF_one (f := fB b) (g := fB (b ++ [x])) (p := 8 * (b.length / 8)) (r := b.length % 8) (x := x) (fun q hq => by
    by_cases h : q < b.length
    · exact fB_left h
    · rw [fB_out (b := b) (by omega), fB_out (by simp; omega)]) (by rw [e, fB_last, fB_out (Nat.le_refl _)]; omega) (w := 8) (by omega)
  rw [show 8 - 1 - b.length % 8 = 7 - b.length % 8 by omega] at this
  exact this
theorem byteAt_mult (b : List Int) : byteAt b (b.length / 8) = numF (fB b) (8 * (b.length / 8)) (b.length % 8) * ((2 ^ (8 - b.length % 8) : Nat) : Int) := by
  unfold byteAt
  exact numF_zeros (fun q hq => fB_out (by omega)) (by omega)
/-- The bytes into which the next bit goes. -/
def openB (b : List Int) : List Int := if b.length % 8 = 0 then bytesB b ++ [0] else bytesB b
theorem openB_length (b : List Int) : (openB b).length = b.length / 8 + 1 := by
  unfold openB
  split
  · simp [bytesB_length]; omega
  · rw [bytesB_length]; omega
theorem openB_get (b : List Int) {k : Nat} (h : k < (openB b).length) : (openB b)[k] = byteAt b k := by
  have hl := openB_length b
  unfold openB
  by_cases h0 : b.length % 8 = 0
  · simp only [h0, if_true]
    by_cases hk : k < (bytesB b).length
    · rw [List.getElem_append_left hk]
      simp [bytesB]
    · rw [List.getElem_append_right (by omega)]
      rw [bytesB_length] at hk
      have : byteAt b k = 0 := by
        unfold byteAt
        have := numF_zeros (f := fB b) (p := 8 * k) (r := 0) (w := 8) (fun q hq => fB_out (by omega)) (by omega)
        rw [this]; simp [numF]
      rw [this]; simp
  · simp only [h0, if_false]
    simp [bytesB]
theorem bytes_step (b : List Int) (x : Int) : (openB b).set (b.length / 8) (byteAt b (b.length / 8) + x * ((2 ^ (7 - b.length % 8) : Nat) : Int)) = bytesB (b ++ [x]) := by
  have hl := openB_length b
  apply List.ext_getElem
  · rw [List.length_set, hl, bytesB_length]; simp; omega
  · intro k h1 h2
    rw [List.length_set, hl] at h1
    have e : (bytesB (b ++ [x]))[k] = byteAt (b ++ [x]) k := by simp [bytesB]
    rw [e]
    by_cases hk : k = b.length / 8
    · subst hk
      rw [List.getElem_set_self, byteAt_new]
    · rw [List.getElem_set_ne (by omega), openB_get b (by omega), byteAt_same x (by omega)]
theorem or_byte {old x : Int} {r : Nat} (hr : r < 8) (hx : x = 0 ∨ x = 1) {a : Int} (ha : 0 ≤ a) (ho : old = a * ((2 ^ (8 - r) : Nat) : Int)) (hlt : old ≤ 255) :
    IntKind.u8.wrap (((BitVec.ofInt IntKind.u8.bits old ||| BitVec.ofInt IntKind.u8.bits (IntKind.u8.wrap (x * ((2 ^ (7 - r) : Nat) : Int)))).toNat : Nat) : Int) = old + x * ((2 ^ (7 - r) : Nat) : Int) := by
  have hp : 2 ^ (7 - r) ≤ 128 := by
    have := Nat.pow_le_pow_right (show 0 < 2 by omega) (show 7 - r ≤ 7 by omega)
    have h7 : (2 : Nat) ^ 7 = 128 := by decide
    omega
  have hq : 2 ^ (8 - r) = 2 * 2 ^ (7 - r) := by rw [show 8 - r = (7 - r) + 1 by omega, Nat.pow_succ, Nat.mul_comm]
  have h0 : 0 ≤ old := by rw [ho]; exact Int.mul_nonneg ha (by omega)
  have hpp := Nat.two_pow_pos (7 - r)
  have hxr : 0 ≤ x * ((2 ^ (7 - r) : Nat) : Int) ∧ x * ((2 ^ (7 - r) : Nat) : Int) < ((2 ^ (8 - r) : Nat) : Int) := by
    rw [hq]
    rcases hx with rfl | rfl <;> omega
  have hxs : x * ((2 ^ (7 - r) : Nat) : Int) ≤ 128 := by rcases hx with rfl | rfl <;> omega
  generalize hX : x * ((2 ^ (7 - r) : Nat) : Int) = X at hxr hxs ⊢
  rw [wu8 (n := X) (by omega) (by omega)]
  have e0 : (((BitVec.ofInt 8 old ||| BitVec.ofInt 8 X).toNat : Nat) : Int) = old + X := by
    rw [BitVec.toNat_or, BitVec.toNat_ofInt, BitVec.toNat_ofInt]
    have e1 : (old % ((2 ^ 8 : Nat) : Int)).toNat = 2 ^ (8 - r) * a.toNat := by
      rw [Int.emod_eq_of_lt (by omega) (by omega), ho]
      have : a = ((a.toNat : Nat) : Int) := by omega
      rw [this, ← Int.natCast_mul, Int.toNat_natCast, Int.toNat_natCast, Nat.mul_comm]
    have e2 : (X % ((2 ^ 8 : Nat) : Int)).toNat = X.toNat := by rw [Int.emod_eq_of_lt (by omega) (by omega)]
    rw [e1, e2, ← Nat.two_pow_add_eq_or_of_lt (by omega)]
    have e3 : ((2 ^ (8 - r) * a.toNat : Nat) : Int) = old := by
      rw [ho, Int.natCast_mul, Int.mul_comm]
      congr 1
      omega
    omega
  have hle : old + X ≤ 255 := by
    rw [ho] at hlt h0 ⊢
    have hr8 : ((2 ^ (8 - r) : Nat) : Int) * ((2 ^ r : Nat) : Int) = 256 := by
      rw [← Int.natCast_mul, ← Nat.pow_add, show 8 - r + r = 8 by omega]; rfl
    have : a < ((2 ^ r : Nat) : Int) := by
      have hP : (0 : Int) < ((2 ^ (8 - r) : Nat) : Int) := by have := Nat.two_pow_pos (8 - r); omega
      by_cases c : a < ((2 ^ r : Nat) : Int)
      · exact c
      · have h1 := Int.mul_le_mul_of_nonneg_right (show ((2 ^ r : Nat) : Int) ≤ a by omega) (show (0 : Int) ≤ ((2 ^ (8 - r) : Nat) : Int) by omega)
        rw [Int.mul_comm, hr8] at h1
        omega
    have h2 := Int.mul_le_mul_of_nonneg_right (show a + 1 ≤ ((2 ^ r : Nat) : Int) by omega) (show (0 : Int) ≤ ((2 ^ (8 - r) : Nat) : Int) by omega)
    rw [Int.mul_comm _ ((2 ^ (8 - r) : Nat) : Int), Int.mul_comm _ ((2 ^ (8 - r) : Nat) : Int), hr8, Int.mul_add, Int.mul_one] at h2
    rw [Int.mul_comm]
    omega
  refine (congrArg IntKind.u8.wrap e0).trans ?_
  rw [wu8 (by omega) (by omega)]
theorem pow_cast_eq (k : Nat) : (2 : Int) ^ k = ((2 ^ k : Nat) : Int) := (pow_cast k).symm
theorem bits_append {a b : List Int} (ha : Bits a) (hb : Bits b) : Bits (a ++ b) := fun x hx => (List.mem_append.1 hx).elim (ha x) (hb x)
theorem or_at {b : List Int} (hb : Bits b) {x : Int} (hx : x = 0 ∨ x = 1) :
    IntKind.u8.wrap (((BitVec.ofInt IntKind.u8.bits (byteAt b (b.length / 8)) ||| BitVec.ofInt IntKind.u8.bits (IntKind.u8.wrap (x * ((2 ^ (7 - b.length % 8) : Nat) : Int)))).toNat : Nat) : Int) = byteAt b (b.length / 8) + x * ((2 ^ (7 - b.length % 8) : Nat) : Int) :=
  or_byte (by omega) hx (numF_lt (fB_bit hb) _ _).1 (byteAt_mult b) (byteAt_range hb _).2
theorem spec_bytes_loop {b : List Int} (hb : Bits b) (hl : b.length ≤ 50000000) : ∀ (m n : Nat), n + m = b.length → Ev (fun k => spec_l7Bytes_L3 k b (n : Int) (bytesB (b.take n))) (bytesB b)
  | 0, n, h => by
    apply ev_succ
    rw [List.take_of_length_le (by omega)]
    simp only [spec_l7Bytes_L3, show ¬ ((n : Int) < (b.length : Int)) by omega, decide_false, cond_false]
    exact ev_now _
  | m + 1, n, h => by
    have hn : n < b.length := by omega
    have ih := spec_bytes_loop hb hl m (n + 1) (by omega)
    have htl : (b.take n).length = n := by rw [List.length_take]; omega
    have hbt : Bits (b.take n) := fun x hx => hb x (List.mem_of_mem_take hx)
    have hx := hb _ (List.getElem_mem hn)
    have e1 : IntKind.i64.wrap ((n : Int).tdiv 8) = ((n / 8 : Nat) : Int) := by rw [Int.tdiv_eq_ediv_of_nonneg (by omega), w64 (by omega) (by omega)]; omega
    have e2 : (n : Int).tmod 8 = ((n % 8 : Nat) : Int) := by rw [Int.tmod_eq_emod_of_nonneg (by omega)]; omega
    have e3 : IntKind.i64.wrap (7 - ((n % 8 : Nat) : Int)) = ((7 - n % 8 : Nat) : Int) := by rw [w64 (by omega) (by omega)]; omega
    have e3' : IntKind.u64.wrap ((7 - n % 8 : Nat) : Int) = ((7 - n % 8 : Nat) : Int) := wu64 (by omega) (by omega)
    have e4 : rd (.int .u8) b (n : Int) = b[n] := rd_nat hn
    have e5 : min (7 - n % 8) IntKind.u8.bits = 7 - n % 8 := by have : IntKind.u8.bits = 8 := rfl; omega
    have hol := openB_length (b.take n)
    rw [htl] at hol
    have hk : n / 8 < (openB (b.take n)).length := by omega
    have e6 : rd (.int .u8) (openB (b.take n)) ((n / 8 : Nat) : Int) = byteAt (b.take n) (n / 8) := (rd_nat hk).trans (openB_get _ hk)
    have e7 := or_at hbt hx
    rw [htl] at e7
    have e8 := bytes_step (b.take n) b[n]
    rw [htl, ← List.take_succ_eq_append_getElem hn] at e8
    have e9 : setW (openB (b.take n)) ((n / 8 : Nat) : Int) (byteAt (b.take n) (n / 8) + b[n] * ((2 ^ (7 - n % 8) : Nat) : Int)) = some (bytesB (b.take (n + 1))) := by rw [setW_nat hk, e8]
    have hmax := maxB
    have hbl := bytesB_length (b.take n)
    rw [htl] at hbl
    apply ev_succ
    by_cases h0 : n % 8 = 0
    · have ho : openB (b.take n) = bytesB (b.take n) ++ [0] := by unfold openB; rw [htl, if_pos h0]
      rw [ho] at e6 e9
      have hlen : (bytesB (b.take n) ++ [0]).length = n / 8 + 1 := by rw [← ho]; exact hol
      have e2' : (n : Int).tmod 8 = 0 := by rw [e2, h0]; rfl
      have e3'' : IntKind.i64.wrap (7 - 0) = ((7 - n % 8 : Nat) : Int) := by rw [h0]; rfl
      simp only [spec_l7Bytes_L3, e1, e2', e3'', e3', e4, e5, e6, e7, e9, hlen, pow_cast_eq, beq_self_eq_true, show (n : Int) < (b.length : Int) by omega, show (0 : Int) ≤ (n : Int) by omega, decide_true, cond_true, List.length_singleton, show (bytesB (b.take n)).length + 1 ≤ maxBytes / 1 by omega,
        show (0 : Int) ≤ ((n / 8 : Nat) : Int) by omega, show ((n / 8 : Nat) : Int) < ((n / 8 + 1 : Nat) : Int) by omega, show (0 : Int) ≤ ((7 - n % 8 : Nat) : Int) by omega, Int.toNat_natCast, Option.bind_some, wsucc (show n < 9223372036854775807 by omega)]
      exact ih
    · have ho : openB (b.take n) = bytesB (b.take n) := by unfold openB; rw [htl, if_neg h0]
      rw [ho] at e6 e9
      have hlen : (bytesB (b.take n)).length = n / 8 + 1 := by rw [← ho]; exact hol
      have hb0 : (((n % 8 : Nat) : Int) == 0) = false := by rw [beqI]; exact decide_eq_false (by omega)
      simp only [spec_l7Bytes_L3, e1, e2, e3, e3', e4, e5, e6, e7, e9, hlen, hb0, pow_cast_eq, show (n : Int) < (b.length : Int) by omega, show (0 : Int) ≤ (n : Int) by omega, decide_true, cond_true, cond_false,
        show (0 : Int) ≤ ((n / 8 : Nat) : Int) by omega, show ((n / 8 : Nat) : Int) < ((n / 8 + 1 : Nat) : Int) by omega, show (0 : Int) ≤ ((7 - n % 8 : Nat) : Int) by omega, Int.toNat_natCast, Option.bind_some, wsucc (show n < 9223372036854775807 by omega)]
      exact ih
theorem spec_bytes {b : List Int} (hb : Bits b) (hl : b.length ≤ 50000000) : spec_l7Bytes b = some (bytesB b) := by
  have h := spec_bytes_loop hb hl b.length 0 (by omega)
  have e : bytesB (b.take 0) = [] := by rw [List.take_zero]; simp [bytesB]
  rw [e] at h
  exact evF_eq h
theorem bitAt_bytes {b : List Int} (hb : Bits b) {q : Nat} (hq : q < 8 * ((b.length + 7) / 8)) : bitAt (bytesB b) q = fB b q := by
  unfold bitAt
  have hk : q / 8 < (bytesB b).length := by rw [bytesB_length]; omega
  have e : (bytesB b).getD (q / 8) 0 = byteAt b (q / 8) := by
    rw [List.getD_eq_getElem?_getD, List.getElem?_eq_getElem hk, Option.getD_some]
    simp [bytesB]
  rw [e]
  unfold byteAt
  have := numF_bit (fB_bit hb) (p := 8 * (q / 8)) (w := 8) (j := q % 8) (by omega)
  rw [show 8 - 1 - q % 8 = 7 - q % 8 by omega, show 8 * (q / 8) + q % 8 = q by omega] at this
  exact this
end Go.Proofs.Ytgkejafaggaocaa.PO
