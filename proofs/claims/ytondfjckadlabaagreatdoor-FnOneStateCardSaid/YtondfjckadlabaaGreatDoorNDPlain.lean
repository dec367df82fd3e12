/-
  Part of a proof by the engine: texts that a program of ours printed, or plain lemmas on them. No condition but what each theorem says.
-/
import Derived.Test.YtondfjckadlabaaGreatDoorNU
import Derived.Test.YtondfjckadlabaaGreatDoorDTPlain
import Derived.Test.YtondfjckadlabaaGreatDoorNDB
set_option linter.unusedVariables false
set_option linter.unusedSimpArgs false
namespace Go.Proofs.YtondfjckadlabaaGreatDoor.NU
open Go Go.Eng Go.Proofs.YtondfjckadlabaaGreatDoor.DT Go.Proofs.YtondfjckadlabaaGreatDoor.EX
/-! ### the nearest day: the program -/
def InvB (d h i : Nat) (ref : Int) (q : Nat) (best : Int) (found : Bool) : Prop :=
  (found = false ∧ best = 0 ∧ ∀ q', q' < q → ¬ okC' d h i q') ∨ (found = true ∧ Best (fun x => x < q) d h i ref best)
theorem inv_range {d h i : Nat} {ref : Int} {q : Nat} {best : Int} (hB : Best (fun x => x < q) d h i ref best) : 0 ≤ best ∧ best ≤ 52596000 := by
  obtain ⟨⟨q0, _, ho, rfl⟩, _⟩ := hB
  exact ho.2
theorem lt_succ_or (n : Nat) : ∀ q, (q < n ∨ q = n) ↔ q < n + 1 := fun q => by omega
theorem inv_no {d h i : Nat} {ref : Int} {q : Nat} {best : Int} {found : Bool} (hI : InvB d h i ref q best found) (hno : ¬ okC' d h i q) : InvB d h i ref (q + 1) best found := by
  rcases hI with ⟨h1, h2, h3⟩ | ⟨h1, h2⟩
  · exact .inl ⟨h1, h2, fun q' hq => by
      by_cases he : q' = q
      · rw [he]; exact hno
      · exact h3 q' (by omega)⟩
  · exact .inr ⟨h1, best_congr (lt_succ_or q) (best_old (fun _ h => h) h2 fun ho => absurd ho hno)⟩
theorem near_loopB {d h i : Nat} {ref : Int} (hd : 1 ≤ d ∧ d ≤ 31) (hh : h ≤ 24) (hi : i < 60) (href : 0 ≤ ref ∧ ref ≤ 52596000) : ∀ (n q : Nat) (best : Int) (found : Bool), 1212 - q = n → q < 1212 → InvB d h i ref q best found →
    ∃ r f, Ev (fun k => impl_NearDay_L8 k (d : Int) (h : Int) (i : Int) ref best found (2000 + ((q / 12 : Nat) : Int)) (((q % 12 : Nat) : Int) + 1)) (r, f) ∧ InvB d h i ref 1212 r f := by
  intro n
  induction n with
  | zero => intro q best found hn hq; omega
  | succ n ih =>
    intro q best found hn hq hI
    have nxt : ∀ (best' : Int) (found' : Bool), InvB d h i ref (q + 1) best' found' → ∃ r f, Ev (fun k => impl_NearDay_L8 k (d : Int) (h : Int) (i : Int) ref best' found' (2000 + ((q / 12 : Nat) : Int)) (IntKind.i64.wrap (((q % 12 : Nat) : Int) + 1 + 1))) (r, f) ∧ InvB d h i ref 1212 r f := by
      intro best' found' hI'
      rw [w64 (by omega) (by omega)]
      by_cases h11 : q % 12 = 11
      · by_cases hlast : q + 1 < 1212
        · obtain ⟨r, f, e1, e2⟩ := ih (q + 1) best' found' (by omega) hlast hI'
          refine ⟨r, f, ev_succ ?_, e2⟩
          simp only [impl_NearDay_L8, show ¬ (((q % 12 : Nat) : Int) + 1 + 1 ≤ 12) by omega, decide_false, cond_false]
          rw [w64 (n := 2000 + ((q / 12 : Nat) : Int) + 1) (by omega) (by omega)]
          apply ev_succ
          simp only [impl_NearDay_L5, show 2000 + ((q / 12 : Nat) : Int) + 1 ≤ 2100 by omega, decide_true, cond_true]
          rw [show (2000 + (((q + 1) / 12 : Nat) : Int)) = 2000 + ((q / 12 : Nat) : Int) + 1 by omega, show ((((q + 1) % 12 : Nat) : Int) + 1) = 1 by omega] at e1
          exact e1
        · refine ⟨best', found', ev_succ ?_, by rw [show (1212 : Nat) = q + 1 by omega]; exact hI'⟩
          simp only [impl_NearDay_L8, show ¬ (((q % 12 : Nat) : Int) + 1 + 1 ≤ 12) by omega, decide_false, cond_false]
          rw [w64 (n := 2000 + ((q / 12 : Nat) : Int) + 1) (by omega) (by omega)]
          apply ev_succ
          simp only [impl_NearDay_L5, show ¬ (2000 + ((q / 12 : Nat) : Int) + 1 ≤ 2100) by omega, decide_false, cond_false]
          exact ev_now _
      · obtain ⟨r, f, e1, e2⟩ := ih (q + 1) best' found' (by omega) (by omega) hI'
        rw [show (2000 + (((q + 1) / 12 : Nat) : Int)) = 2000 + ((q / 12 : Nat) : Int) by omega, show ((((q + 1) % 12 : Nat) : Int) + 1) = ((q % 12 : Nat) : Int) + 1 + 1 by omega] at e1
        exact ⟨r, f, e1, e2⟩
    have hm := days_impl (q / 12) (q % 12) (by omega)
    rw [show 12 * (q / 12) + q % 12 = q by omega] at hm
    by_cases hgt : (d : Int) > ((ml q : Nat) : Int)
    · obtain ⟨r, f, e1, e2⟩ := nxt best found (inv_no hI fun ho => by have := ho.1; omega)
      refine ⟨r, f, ev_succ ?_, e2⟩
      simp only [impl_NearDay_L8, show ((q % 12 : Nat) : Int) + 1 ≤ 12 by omega, decide_true, cond_true, hm, Option.bind_some, hgt]
      exact e1
    · have hto := daysTo_eq (q / 12) (q % 12 + 1) (d : Int) (by omega) (by omega) (by omega)
      rw [show 12 * (q / 12) + (q % 12 + 1 - 1) = q by omega, show ((q % 12 + 1 : Nat) : Int) = ((q % 12 : Nat) : Int) + 1 by omega] at hto
      have hb := Sm_bound (i := q) (by omega)
      have eC : IntKind.i64.wrap (IntKind.i64.wrap (IntKind.i64.wrap ((((Sm q : Nat) : Int) + (d : Int) - 1) * 1440) + IntKind.i64.wrap ((h : Int) * 60)) + (i : Int)) = C d h i q := by
        unfold C
        generalize Sm q = s at *
        rw [w64 (n := ((s : Int) + (d : Int) - 1) * 1440) (by omega) (by omega), w64 (n := (h : Int) * 60) (by omega) (by omega), w64 (n := ((s : Int) + (d : Int) - 1) * 1440 + (h : Int) * 60) (by omega) (by omega), w64 (by omega) (by omega)]
      by_cases hok : 0 ≤ C d h i q ∧ C d h i q ≤ 52596000
      · have ho : okC' d h i q := ⟨by omega, hok⟩
        rcases hI with ⟨hf, hb0, hnone⟩ | ⟨hf, hB⟩
        · obtain ⟨r, f, e1, e2⟩ := nxt (C d h i q) true (.inr ⟨rfl, best_congr (lt_succ_or q) (best_first (S := fun x => x < q) hnone ho)⟩)
          refine ⟨r, f, ev_succ ?_, e2⟩
          simp only [impl_NearDay_L8, show ((q % 12 : Nat) : Int) + 1 ≤ 12 by omega, decide_true, cond_true, hm, Option.bind_some, hgt, decide_false, cond_false, hto, eC, isTime_eq, hok.1, hok.2, Bool.and_self, Bool.not_true, hf, Bool.not_false]
          exact e1
        · have hr := inv_range hB
          have ed : (if IntKind.i64.wrap (ref - C d h i q) > IntKind.i64.wrap (C d h i q - ref) then IntKind.i64.wrap (ref - C d h i q) else IntKind.i64.wrap (C d h i q - ref)) = dst (C d h i q) ref := by
            rw [w64 (n := ref - C d h i q) (by omega) (by omega), w64 (n := C d h i q - ref) (by omega) (by omega)]; rfl
          have eb : (if IntKind.i64.wrap (ref - best) > IntKind.i64.wrap (best - ref) then IntKind.i64.wrap (ref - best) else IntKind.i64.wrap (best - ref)) = dst best ref := by
            rw [w64 (n := ref - best) (by omega) (by omega), w64 (n := best - ref) (by omega) (by omega)]; rfl
          by_cases hlt : dst (C d h i q) ref < dst best ref
          · obtain ⟨r, f, e1, e2⟩ := nxt (C d h i q) true (.inr ⟨rfl, best_congr (lt_succ_or q) (best_new (fun _ h => h) hB ho hlt)⟩)
            refine ⟨r, f, ev_succ ?_, e2⟩
            simp only [impl_NearDay_L8, show ((q % 12 : Nat) : Int) + 1 ≤ 12 by omega, decide_true, cond_true, hm, Option.bind_some, hgt, decide_false, cond_false, hto, eC, isTime_eq, hok.1, hok.2, Bool.and_self, Bool.not_true, hf, Bool.not_false, ed, eb, hlt]
            exact e1
          · obtain ⟨r, f, e1, e2⟩ := nxt best true (.inr ⟨rfl, best_congr (lt_succ_or q) (best_old (fun _ h => h) hB fun _ => hlt)⟩)
            refine ⟨r, f, ev_succ ?_, e2⟩
            simp only [impl_NearDay_L8, show ((q % 12 : Nat) : Int) + 1 ≤ 12 by omega, decide_true, cond_true, hm, Option.bind_some, hgt, decide_false, cond_false, hto, eC, isTime_eq, hok.1, hok.2, Bool.and_self, Bool.not_true, hf, Bool.not_false, ed, eb, hlt]
            exact e1
      · have hno : (decide (0 ≤ C d h i q) && decide (C d h i q ≤ 52596000)) = false := by
          rw [Bool.and_eq_false_iff]
          by_cases h0 : 0 ≤ C d h i q
          · right; simp; omega
          · left; simp [h0]
        obtain ⟨r, f, e1, e2⟩ := nxt best found (inv_no hI fun ho => hok ho.2)
        refine ⟨r, f, ev_succ ?_, e2⟩
        simp only [impl_NearDay_L8, show ((q % 12 : Nat) : Int) + 1 ≤ 12 by omega, decide_true, cond_true, hm, Option.bind_some, hgt, decide_false, cond_false, hto, eC, isTime_eq, hno, Bool.not_false]
        exact e1
/-- What is asked of the parts. -/
def nearOk (d h i ref : Int) : Bool := (decide (0 ≤ ref) && decide (ref ≤ 52596000)) && ((decide (1 ≤ d) && decide (d ≤ 31)) && ((decide (0 ≤ h) && decide (h ≤ 24)) && ((decide (0 ≤ i) && decide (i ≤ 59)) && !(decide (h = 24) && !decide (i = 0)))))
theorem impl_near (d h i ref : Int) : (nearOk d h i ref = false ∧ impl_NearDay d h i ref = some (0, false)) ∨
    (nearOk d h i ref = true ∧ ∃ r, Best (fun q => q < 1212) d.toNat h.toNat i.toNat ref r ∧ impl_NearDay d h i ref = some (r, true)) := by
  cases hn : nearOk d h i ref with
  | false =>
    refine .inl ⟨rfl, evF_eq ?_⟩
    unfold nearOk at hn
    unfold impl_NearDay_F
    simp only [isTime_eq, in_eq, Option.bind_some, beqI, bneI]
    revert hn
    cases (decide (0 ≤ ref) && decide (ref ≤ 52596000)) <;> cases (decide (1 ≤ d) && decide (d ≤ 31)) <;> cases (decide (0 ≤ h) && decide (h ≤ 24)) <;> cases (decide (0 ≤ i) && decide (i ≤ 59)) <;> cases (decide (h = 24)) <;> cases (decide (i = 0)) <;> intro hn <;> first | exact ev_now _ | simp at hn
  | true =>
    refine .inr ⟨rfl, ?_⟩
    have hn' := hn
    simp only [nearOk, Bool.and_eq_true, Bool.not_eq_true', decide_eq_true_eq, Bool.and_eq_false_iff, Bool.not_eq_false', decide_eq_false_iff_not] at hn
    obtain ⟨href, hd, hh, hi, h24⟩ := hn
    have e1 : ((d.toNat : Nat) : Int) = d := by omega
    have e2 : ((h.toNat : Nat) : Int) = h := by omega
    have e3 : ((i.toNat : Nat) : Int) = i := by omega
    obtain ⟨r, f, h1, h2⟩ := near_loopB (d := d.toNat) (h := h.toNat) (i := i.toNat) (ref := ref) (by omega) (by omega) (by omega) href 1212 0 0 false (by omega) (by omega) (.inl ⟨rfl, rfl, fun q' hq => by omega⟩)
    rw [e1, e2, e3] at h1
    have hex : ∃ y : Nat, (Sm (12 * y) : Int) ≤ ref / 1440 ∧ ref / 1440 < (Sm (12 * (y + 1)) : Int) := by
      obtain ⟨j, hj1, hj2⟩ := month_of (ref / 1440).toNat
      refine ⟨j / 12, ?_, ?_⟩
      · have := Sm_mono (show 12 * (j / 12) ≤ j by omega); omega
      · have := Sm_mono (show j + 1 ≤ 12 * (j / 12 + 1) by omega); omega
    obtain ⟨y, hy⟩ := hex
    obtain ⟨q1, a1, a2, a3, _⟩ := some_near (d := d.toNat) (h := h.toNat) (i := i.toNat) (y := y) (ref := ref) (by omega) (by omega) (by omega) (by omega) href hy
    have hq1 : q1 < 1212 := by
      apply Nat.lt_of_not_le; intro hc
      have := Sm_mono (show 12 * 101 ≤ q1 by omega)
      have h3 := Sm_y 101
      have := a3.2.2
      unfold C at this
      omega
    rcases h2 with ⟨_, _, h3⟩ | ⟨h3, h4⟩
    · exact absurd a3 (h3 q1 hq1)
    · subst h3
      refine ⟨r, h4, evF_eq ?_⟩
      have ho : (decide (h = 24) && !decide (i = 0)) = false := by
        rw [Bool.and_eq_false_iff]
        rcases h24 with h24 | h24
        · left; simp [h24]
        · right; simp [h24]
      unfold impl_NearDay_F
      simp only [isTime_eq, in_eq, Option.bind_some, beqI, href.1, href.2, hd.1, hd.2, hh.1, hh.2, hi.1, hi.2, decide_true, Bool.and_self, Bool.not_true, cond_false]
      by_cases hx : h = 24
      · have hi0 : i = 0 := by omega
        simp only [hx, hi0, decide_true, cond_true, bneI, Bool.not_true, cond_false]
        apply ev_succ
        simp only [impl_NearDay_L5, show (2000 : Int) ≤ 2100 by omega, decide_true, cond_true]
        rw [hx, hi0] at h1
        exact h1
      · simp only [hx, decide_false, cond_false]
        apply ev_succ
        simp only [impl_NearDay_L5, show (2000 : Int) ≤ 2100 by omega, decide_true, cond_true]
        exact h1
end Go.Proofs.YtondfjckadlabaaGreatDoor.NU

namespace Go.Proofs.YtondfjckadlabaaGreatDoor.NU
open Go Go.Eng Go.Proofs.YtondfjckadlabaaGreatDoor.DT Go.Proofs.YtondfjckadlabaaGreatDoor.EX
/-! ### the nearest day: the reference -/
theorem l2In_eq' (a b c : Int) : spec_l2In a b c = some (decide (b ≤ a) && decide (a ≤ c)) := in_eq a b c
theorem to_months (q : Nat) (z0 z3 z4 : Int) (hq : q ≤ 1200) (hz : z0 = 2000 + ((q / 12 : Nat) : Int)) (d : Int) (hd : 1 ≤ d ∧ d ≤ 31) (h3 : 0 ≤ z3 ∧ z3 < 24) (h4 : 0 ≤ z4 ∧ z4 < 60) : ∀ (n m : Nat), q % 12 - m = n → m ≤ q % 12 →
    Ev (fun k => spec_TimeOf_L12 k ((Sm (12 * (q / 12) + m) : Nat) : Int) ((m : Int) + 1) z0 (((q % 12 : Nat) : Int) + 1) d z3 z4) (((((Sm q : Nat) : Int) + d - 1) * 24 + z3) * 60 + z4, true) := by
  intro n
  have hb := Sm_bound (i := q) (by omega)
  induction n with
  | zero =>
    intro m hn hm
    obtain rfl : m = q % 12 := by omega
    apply ev_succ
    simp only [spec_TimeOf_L12, Int.lt_irrefl, decide_false, cond_false]
    rw [show 12 * (q / 12) + q % 12 = q by omega]
    generalize Sm q = s at *
    rw [w64 (n := (s : Int) + d) (by omega) (by omega), w64 (n := (s : Int) + d - 1) (by omega) (by omega), w64 (n := ((s : Int) + d - 1) * 24) (by omega) (by omega), w64 (n := ((s : Int) + d - 1) * 24 + z3) (by omega) (by omega), w64 (n := (((s : Int) + d - 1) * 24 + z3) * 60) (by omega) (by omega), w64 (by omega) (by omega)]
    exact ev_now _
  | succ n ih =>
    intro m hn hm
    have hds := days_spec (q / 12) m (by omega) (.inl (by omega))
    have := ih (m + 1) (by omega) (by omega)
    have e1 : Sm (12 * (q / 12) + (m + 1)) = Sm (12 * (q / 12) + m) + ml (12 * (q / 12) + m) := rfl
    have hb' := Sm_bound (i := 12 * (q / 12) + m) (by omega)
    have hml := ml_pos (12 * (q / 12) + m)
    apply ev_succ
    simp only [spec_TimeOf_L12, show (m : Int) + 1 < ((q % 12 : Nat) : Int) + 1 by omega, decide_true, cond_true, hz, hds, Option.bind_some]
    rw [w64 (n := (m : Int) + 1 + 1) (by omega) (by omega), w64 (by omega) (by omega)]
    rw [hz, e1] at this
    rw [show (m : Int) + 1 + 1 = ((m + 1 : Nat) : Int) + 1 by omega, show ((Sm (12 * (q / 12) + m) : Nat) : Int) + ((ml (12 * (q / 12) + m) : Nat) : Int) = ((Sm (12 * (q / 12) + m) + ml (12 * (q / 12) + m) : Nat) : Int) by omega]
    exact this
theorem to_years (q : Nat) (d z3 z4 : Int) (r : Int × Bool) (hq : q ≤ 1200)
    (hlast : Ev (fun k => spec_TimeOf_L12 k ((Sm (12 * (q / 12)) : Nat) : Int) 1 (2000 + ((q / 12 : Nat) : Int)) (((q % 12 : Nat) : Int) + 1) d z3 z4) r) : ∀ (n y : Nat), q / 12 - y = n → y ≤ q / 12 →
    Ev (fun k => spec_TimeOf_L5 k ((Sm (12 * y) : Nat) : Int) (2000 + (y : Int)) (2000 + ((q / 12 : Nat) : Int)) (((q % 12 : Nat) : Int) + 1) d z3 z4) r := by
  intro n
  induction n with
  | zero =>
    intro y hn hy
    obtain rfl : y = q / 12 := by omega
    apply ev_succ
    simp only [spec_TimeOf_L5, Int.lt_irrefl, decide_false, cond_false]
    exact hlast
  | succ n ih =>
    intro y hn hy
    have hy' : y < q / 12 := by omega
    apply ev_succ
    simp only [spec_TimeOf_L5, show 2000 + (y : Int) < 2000 + ((q / 12 : Nat) : Int) by omega, decide_true, cond_true]
    have inner : ∀ (p m : Nat), 12 - m = p → m ≤ 12 → Ev (fun k => spec_TimeOf_L8 k ((Sm (12 * y + m) : Nat) : Int) (2000 + (y : Int)) ((m : Int) + 1) (2000 + ((q / 12 : Nat) : Int)) (((q % 12 : Nat) : Int) + 1) d z3 z4) r := by
      intro p
      induction p with
      | zero =>
        intro m hp hm
        obtain rfl : m = 12 := by omega
        apply ev_succ
        simp only [spec_TimeOf_L8, show ¬ (((12 : Nat) : Int) + 1 ≤ 12) by omega, decide_false, cond_false]
        rw [w64 (n := 2000 + (y : Int) + 1) (by omega) (by omega)]
        have := ih (y + 1) (by omega) (by omega)
        rw [show 12 * (y + 1) = 12 * y + 12 by omega, show 2000 + ((y + 1 : Nat) : Int) = 2000 + (y : Int) + 1 by omega] at this
        exact this
      | succ p ihp =>
        intro m hp hm
        have hds := days_spec y m (by omega) (.inl (by omega))
        have := ihp (m + 1) (by omega) (by omega)
        have e1 : Sm (12 * y + (m + 1)) = Sm (12 * y + m) + ml (12 * y + m) := rfl
        have hb' := Sm_bound (i := 12 * y + m) (by omega)
        have hml := ml_pos (12 * y + m)
        apply ev_succ
        simp only [spec_TimeOf_L8, show (m : Int) + 1 ≤ 12 by omega, decide_true, cond_true, hds, Option.bind_some]
        rw [w64 (n := (m : Int) + 1 + 1) (by omega) (by omega), w64 (by omega) (by omega)]
        rw [e1] at this
        rw [show (m : Int) + 1 + 1 = ((m + 1 : Nat) : Int) + 1 by omega, show ((Sm (12 * y + m) : Nat) : Int) + ((ml (12 * y + m) : Nat) : Int) = ((Sm (12 * y + m) + ml (12 * y + m) : Nat) : Int) by omega]
        exact this
    exact inner 12 0 (by omega) (by omega)
theorem to_all {q d h i : Nat} (hq : q ≤ 1200) (hd : 1 ≤ d ∧ d ≤ 31) (hh : h < 24) (hi : i < 60) : Ev (fun k => spec_TimeOf_L5 k 0 2000 (2000 + ((q / 12 : Nat) : Int)) (((q % 12 : Nat) : Int) + 1) (d : Int) (h : Int) (i : Int)) (C d h i q, true) := by
  have hlast := to_months q (2000 + ((q / 12 : Nat) : Int)) (h : Int) (i : Int) hq rfl (d : Int) (by omega) (by omega) (by omega) (q % 12) 0 (by omega) (by omega)
  have := to_years q (d : Int) (h : Int) (i : Int) _ hq hlast (q / 12) 0 (by omega) (by omega)
  refine ev_eq this ?_
  unfold C
  generalize Sm q = s
  congr 1
  omega
theorem timeOf_spec {q d h i : Nat} (hq : q < 1200) (hd : 1 ≤ d ∧ d ≤ ml q) (hh : h < 24) (hi : i < 60) :
    spec_TimeOf (2000 + ((q / 12 : Nat) : Int)) (((q % 12 : Nat) : Int) + 1) (d : Int) (h : Int) (i : Int) = some (C d h i q, true) := by
  have hml := ml_pos q
  have := to_all (q := q) (d := d) (h := h) (i := i) (by omega) (by omega) hh hi
  refine evF_eq ?_
  have hds := days_spec (q / 12) (q % 12) (by omega) (.inl (by omega))
  rw [show 12 * (q / 12) + q % 12 = q by omega] at hds
  simp only [spec_TimeOf_F, spec_l2Right, in_eq, l2In_eq', beqI, show ¬ (2000 + ((q / 12 : Nat) : Int) = 2100) by omega, decide_false, Bool.false_and, cond_false, show (2000 : Int) ≤ 2000 + ((q / 12 : Nat) : Int) by omega, show 2000 + ((q / 12 : Nat) : Int) ≤ 2099 by omega, show (1 : Int) ≤ ((q % 12 : Nat) : Int) + 1 by omega, show ((q % 12 : Nat) : Int) + 1 ≤ 12 by omega,
    hds, show (1 : Int) ≤ (d : Int) by omega, show (d : Int) ≤ ((ml q : Nat) : Int) by omega, show (0 : Int) ≤ (h : Int) by omega, show (h : Int) ≤ 23 by omega, show (0 : Int) ≤ (i : Int) by omega, show (i : Int) ≤ 59 by omega, decide_true, Bool.and_self, cond_true, Option.bind_some, Bool.not_true, cond_false]
  exact this
/-- What the reference asks of a month: p months behind January 1999. -/
theorem timeOf_at {p d h i : Nat} (hp : p < 1248) (hd : 1 ≤ d ∧ d ≤ 31) (hh : h < 24) (hi : i < 60) :
    (spec_TimeOf (1999 + ((p / 12 : Nat) : Int)) (((p % 12 : Nat) : Int) + 1) (d : Int) (h : Int) (i : Int) = some (0, false) ∧ (∀ q, p = q + 12 → q < 1200 → ¬ d ≤ ml q) ∧ (p = 1212 → ¬ (d = 1 ∧ h = 0 ∧ i = 0))) ∨
    ∃ q, p = q + 12 ∧ q ≤ 1200 ∧ d ≤ ml q ∧ spec_TimeOf (1999 + ((p / 12 : Nat) : Int)) (((p % 12 : Nat) : Int) + 1) (d : Int) (h : Int) (i : Int) = some (C d h i q, true) := by
  have far : ∀ (y m : Int), (y < 2000 ∨ 2100 ≤ y) → (y = 2100 → m = 1 → ¬ ((d : Int) = 1 ∧ (h : Int) = 0 ∧ (i : Int) = 0)) → spec_TimeOf y m (d : Int) (h : Int) (i : Int) = some (0, false) := fun y m hy hm => by
    refine evF_eq ?_
    have e1 : (decide (y = 2100) && (decide (m = 1) && (decide ((d : Int) = 1) && (decide ((h : Int) = 0) && decide ((i : Int) = 0))))) = false := by
      by_cases a1 : y = 2100
      · by_cases a2 : m = 1
        · have := hm a1 a2
          by_cases b1 : (d : Int) = 1 <;> by_cases b2 : (h : Int) = 0 <;> by_cases b3 : (i : Int) = 0 <;> simp_all
        · simp [a2]
      · simp [a1]
    have e2 : (decide (2000 ≤ y) && decide (y ≤ 2099)) = false := by
      rw [Bool.and_eq_false_iff]
      rcases hy with hy | hy
      · left; simp; omega
      · right; simp; omega
    simp only [spec_TimeOf_F, spec_l2Right, l2In_eq', beqI, e1, e2, cond_false, Option.bind_some, Bool.not_false, cond_true]
    exact ev_now _
  by_cases h12 : p < 12
  · exact .inl ⟨far _ _ (by omega) (by omega), fun q hq => by omega, by omega⟩
  · obtain ⟨q, rfl⟩ : ∃ q, p = q + 12 := ⟨p - 12, by omega⟩
    have ey : 1999 + (((q + 12) / 12 : Nat) : Int) = 2000 + ((q / 12 : Nat) : Int) := by omega
    have em : (q + 12) % 12 = q % 12 := by omega
    rw [ey, em]
    by_cases hq : q < 1200
    · by_cases hm : d ≤ ml q
      · exact .inr ⟨q, rfl, by omega, hm, timeOf_spec hq ⟨hd.1, hm⟩ hh hi⟩
      · refine .inl ⟨evF_eq ?_, fun q' hq' _ => by obtain rfl : q' = q := by omega
                                                   exact hm, by omega⟩
        have hds := days_spec (q / 12) (q % 12) (by omega) (.inl (by omega))
        rw [show 12 * (q / 12) + q % 12 = q by omega] at hds
        simp only [spec_TimeOf_F, spec_l2Right, l2In_eq', beqI, show ¬ (2000 + ((q / 12 : Nat) : Int) = 2100) by omega, decide_false, Bool.false_and, cond_false, show (2000 : Int) ≤ 2000 + ((q / 12 : Nat) : Int) by omega, show 2000 + ((q / 12 : Nat) : Int) ≤ 2099 by omega, show (1 : Int) ≤ ((q % 12 : Nat) : Int) + 1 by omega, show ((q % 12 : Nat) : Int) + 1 ≤ 12 by omega,
          hds, show (1 : Int) ≤ (d : Int) by omega, show ¬ (d : Int) ≤ ((ml q : Nat) : Int) by omega, decide_true, decide_false, Bool.and_self, Bool.and_false, cond_true, Option.bind_some, Bool.not_false, cond_false]
        exact ev_now _
    · by_cases hs : q = 1200 ∧ d = 1 ∧ h = 0 ∧ i = 0
      · obtain ⟨rfl, rfl, rfl, rfl⟩ := hs
        have hml : ml 1200 = 31 := by decide
        refine .inr ⟨1200, rfl, by omega, by omega, evF_eq ?_⟩
        have := to_all (q := 1200) (d := 1) (h := 0) (i := 0) (by omega) (by omega) (by omega) (by omega)
        simp only [spec_TimeOf_F, spec_l2Right]
        exact this
      · refine .inl ⟨far _ _ (by omega) (fun a1 a2 hc => hs ⟨by omega, by omega, by omega, by omega⟩), fun q' hq' hlt => by omega, fun he hc => hs ⟨by omega, hc⟩⟩
end Go.Proofs.YtondfjckadlabaaGreatDoor.NU

namespace Go.Proofs.YtondfjckadlabaaGreatDoor.NU
open Go Go.Eng Go.Proofs.YtondfjckadlabaaGreatDoor.DT Go.Proofs.YtondfjckadlabaaGreatDoor.EX
def InvS (d h i : Nat) (ref : Int) (Y p : Nat) (best : Int) : Prop :=
  (best = -1 ∧ ∀ q, 12 * Y ≤ q + 12 → q + 12 < p → ¬ okC' d h i q) ∨ (0 ≤ best ∧ Best (fun q => 12 * Y ≤ q + 12 ∧ q + 12 < p) d h i ref best)
theorem invS_no {d h i : Nat} {ref : Int} {Y p : Nat} {best : Int} (hI : InvS d h i ref Y p best) (hno : ∀ q, p = q + 12 → ¬ okC' d h i q) : InvS d h i ref Y (p + 1) best := by
  rcases hI with ⟨h1, h2⟩ | ⟨h1, h2⟩
  · exact .inl ⟨h1, fun q a b => by
      by_cases he : q + 12 = p
      · exact hno q he.symm
      · exact h2 q a (by omega)⟩
  · by_cases hp : 12 ≤ p
    · obtain ⟨q, rfl⟩ : ∃ q, p = q + 12 := ⟨p - 12, by omega⟩
      by_cases hY : 12 * Y ≤ q + 12
      · exact .inr ⟨h1, best_congr (fun x => by omega) (best_old (n := q) (fun x hx => by omega) h2 fun ho => absurd ho (hno q rfl))⟩
      · exact .inr ⟨h1, best_congr (fun x => by omega) h2⟩
    · exact .inr ⟨h1, best_congr (fun x => by omega) h2⟩
theorem near_loopS {d h i : Nat} {ref : Int} (Y : Nat) (z1 z2 z3 z4 z5 : Int) (hY : Y ≤ 100) (hz : z1 = 2000 + (Y : Int)) (hd : 1 ≤ d ∧ d ≤ 31) (hh : h ≤ 24) (hi : i < 60) (h24 : h = 24 → i = 0) (href : 0 ≤ ref ∧ ref ≤ 52596000) : ∀ (n p : Nat) (best : Int), 12 * Y + 36 - p = n → 12 * Y ≤ p → p < 12 * Y + 36 → InvS d h i ref Y p best →
    ∃ r, Ev (fun k => spec_NearDay_L9 k (d : Int) (h : Int) (i : Int) ref best (1999 + ((p / 12 : Nat) : Int)) (((p % 12 : Nat) : Int) + 1) z1 z2 z3 z4 z5) (if r < 0 then (0, false) else (r, true)) ∧ InvS d h i ref Y (12 * Y + 36) r := by
  intro n
  induction n with
  | zero => intro p best hn h1 h2; omega
  | succ n ih =>
    intro p best hn hp1 hp2 hI
    have nxt : ∀ (best' : Int), InvS d h i ref Y (p + 1) best' → ∃ r, Ev (fun k => spec_NearDay_L9 k (d : Int) (h : Int) (i : Int) ref best' (1999 + ((p / 12 : Nat) : Int)) (IntKind.i64.wrap (((p % 12 : Nat) : Int) + 1 + 1)) z1 z2 z3 z4 z5) (if r < 0 then (0, false) else (r, true)) ∧ InvS d h i ref Y (12 * Y + 36) r := by
      intro best' hI'
      rw [w64 (by omega) (by omega)]
      by_cases h11 : p % 12 = 11
      · by_cases hlast : p + 1 < 12 * Y + 36
        · obtain ⟨r, e1, e2⟩ := ih (p + 1) best' (by omega) (by omega) hlast hI'
          refine ⟨r, ev_succ ?_, e2⟩
          simp only [spec_NearDay_L9, show ¬ (((p % 12 : Nat) : Int) + 1 + 1 ≤ 12) by omega, decide_false, cond_false]
          rw [w64 (n := 1999 + ((p / 12 : Nat) : Int) + 1) (by omega) (by omega)]
          apply ev_succ
          simp only [spec_NearDay_L6, hz, w64 (n := 2000 + (Y : Int) + 1) (by omega) (by omega), show 1999 + ((p / 12 : Nat) : Int) + 1 ≤ 2000 + (Y : Int) + 1 by omega, decide_true, cond_true]
          rw [hz, show (1999 + (((p + 1) / 12 : Nat) : Int)) = 1999 + ((p / 12 : Nat) : Int) + 1 by omega, show ((((p + 1) % 12 : Nat) : Int) + 1) = 1 by omega] at e1
          exact e1
        · refine ⟨best', ev_succ ?_, by rw [show 12 * Y + 36 = p + 1 by omega]; exact hI'⟩
          simp only [spec_NearDay_L9, show ¬ (((p % 12 : Nat) : Int) + 1 + 1 ≤ 12) by omega, decide_false, cond_false]
          rw [w64 (n := 1999 + ((p / 12 : Nat) : Int) + 1) (by omega) (by omega)]
          apply ev_succ
          simp only [spec_NearDay_L6, hz, w64 (n := 2000 + (Y : Int) + 1) (by omega) (by omega), show ¬ (1999 + ((p / 12 : Nat) : Int) + 1 ≤ 2000 + (Y : Int) + 1) by omega, decide_false, cond_false]
          by_cases hb : best' < 0
          · simp only [hb, decide_true, cond_true, if_true]; exact ev_now _
          · simp only [hb, decide_false, cond_false, if_false]; exact ev_now _
      · obtain ⟨r, e1, e2⟩ := ih (p + 1) best' (by omega) (by omega) (by omega) hI'
        rw [show (1999 + (((p + 1) / 12 : Nat) : Int)) = 1999 + ((p / 12 : Nat) : Int) by omega, show ((((p + 1) % 12 : Nat) : Int) + 1) = ((p % 12 : Nat) : Int) + 1 + 1 by omega] at e1
        exact ⟨r, e1, e2⟩
    have hmod : Int.tmod (h : Int) 24 = ((h % 24 : Nat) : Int) := by rw [Int.tmod_eq_emod_of_nonneg (by omega)]; omega
    rcases timeOf_at (p := p) (d := d) (h := h % 24) (i := i) (by omega) hd (by omega) hi with ⟨ht, hn1, hn2⟩ | ⟨q, rfl, hq, hm, ht⟩
    · obtain ⟨r, e1, e2⟩ := nxt best (invS_no hI fun q hq ho => by
        by_cases hq1 : q < 1200
        · exact hn1 q hq hq1 ho.1
        · by_cases hq2 : q = 1200
          · subst hq2
            have hs := Sm_1200
            have h3 := ho.2.2
            unfold C at h3
            exact hn2 (by omega) (by omega)
          · have h3 := Sm_lt (show 1200 < q by omega)
            have hs := Sm_1200
            have h6 := ho.2.2
            unfold C at h6
            omega)
      refine ⟨r, ev_succ ?_, e2⟩
      simp only [spec_NearDay_L9, show ((p % 12 : Nat) : Int) + 1 ≤ 12 by omega, decide_true, cond_true, hmod, ht, Option.bind_some, Bool.not_false]
      exact e1
    · have hb := Sm_bound (i := q) (by omega)
      have hval : (if h = 24 then C d (h % 24) i q + 1440 else C d (h % 24) i q) = C d h i q := by
        unfold C; generalize Sm q = s; split <;> omega
      have hbd : -100000 ≤ C d h i q ∧ C d h i q ≤ 60000000 := by
        unfold C; generalize Sm q = s at *; omega
      have step : ∃ r, Ev (fun k => bif (decide (0 ≤ C d h i q) && decide (C d h i q ≤ 52596000)) then bif decide (best < 0) then spec_NearDay_L9 k (d : Int) (h : Int) (i : Int) ref (C d h i q) (1999 + (((q + 12) / 12 : Nat) : Int)) (IntKind.i64.wrap ((((q + 12) % 12 : Nat) : Int) + 1 + 1)) z1 z2 z3 z4 z5
            else bif decide ((if IntKind.i64.wrap (ref - C d h i q) > IntKind.i64.wrap (C d h i q - ref) then IntKind.i64.wrap (ref - C d h i q) else IntKind.i64.wrap (C d h i q - ref)) < if IntKind.i64.wrap (ref - best) > IntKind.i64.wrap (best - ref) then IntKind.i64.wrap (ref - best) else IntKind.i64.wrap (best - ref)) then spec_NearDay_L9 k (d : Int) (h : Int) (i : Int) ref (C d h i q) (1999 + (((q + 12) / 12 : Nat) : Int)) (IntKind.i64.wrap ((((q + 12) % 12 : Nat) : Int) + 1 + 1)) z1 z2 z3 z4 z5
            else spec_NearDay_L9 k (d : Int) (h : Int) (i : Int) ref best (1999 + (((q + 12) / 12 : Nat) : Int)) (IntKind.i64.wrap ((((q + 12) % 12 : Nat) : Int) + 1 + 1)) z1 z2 z3 z4 z5
          else spec_NearDay_L9 k (d : Int) (h : Int) (i : Int) ref best (1999 + (((q + 12) / 12 : Nat) : Int)) (IntKind.i64.wrap ((((q + 12) % 12 : Nat) : Int) + 1 + 1)) z1 z2 z3 z4 z5) (if r < 0 then (0, false) else (r, true)) ∧ InvS d h i ref Y (12 * Y + 36) r := by
        by_cases hok : 0 ≤ C d h i q ∧ C d h i q ≤ 52596000
        · have ho : okC' d h i q := ⟨hm, hok⟩
          rcases hI with ⟨hb1, hnone⟩ | ⟨hb1, hB⟩
          · obtain ⟨r, e1, e2⟩ := nxt (C d h i q) (.inr ⟨hok.1, best_congr (fun x => by omega) (best_first (S := fun x => 12 * Y ≤ x + 12 ∧ x + 12 < q + 12) (fun x hx => hnone x hx.1 hx.2) ho)⟩)
            refine ⟨r, ?_, e2⟩
            simp only [hok.1, hok.2, decide_true, Bool.and_self, cond_true, show best < 0 by omega]
            exact e1
          · have hr : 0 ≤ best ∧ best ≤ 52596000 := by
              obtain ⟨⟨q0, _, ho0, rfl⟩, _⟩ := hB
              exact ho0.2
            have ed : (if IntKind.i64.wrap (ref - C d h i q) > IntKind.i64.wrap (C d h i q - ref) then IntKind.i64.wrap (ref - C d h i q) else IntKind.i64.wrap (C d h i q - ref)) = dst (C d h i q) ref := by
              rw [w64 (n := ref - C d h i q) (by omega) (by omega), w64 (n := C d h i q - ref) (by omega) (by omega)]; rfl
            have eb : (if IntKind.i64.wrap (ref - best) > IntKind.i64.wrap (best - ref) then IntKind.i64.wrap (ref - best) else IntKind.i64.wrap (best - ref)) = dst best ref := by
              rw [w64 (n := ref - best) (by omega) (by omega), w64 (n := best - ref) (by omega) (by omega)]; rfl
            by_cases hlt : dst (C d h i q) ref < dst best ref
            · obtain ⟨r, e1, e2⟩ := nxt (C d h i q) (.inr ⟨hok.1, best_congr (fun x => by omega) (best_new (n := q) (fun x hx => by omega) hB ho hlt)⟩)
              refine ⟨r, ?_, e2⟩
              simp only [hok.1, hok.2, decide_true, Bool.and_self, cond_true, show ¬ best < 0 by omega, decide_false, cond_false, ed, eb, hlt]
              exact e1
            · obtain ⟨r, e1, e2⟩ := nxt best (.inr ⟨hb1, best_congr (fun x => by omega) (best_old (n := q) (fun x hx => by omega) hB fun _ => hlt)⟩)
              refine ⟨r, ?_, e2⟩
              simp only [hok.1, hok.2, decide_true, Bool.and_self, cond_true, show ¬ best < 0 by omega, decide_false, cond_false, ed, eb, hlt]
              exact e1
        · have hno : (decide (0 ≤ C d h i q) && decide (C d h i q ≤ 52596000)) = false := by
            rw [Bool.and_eq_false_iff]
            by_cases h0 : 0 ≤ C d h i q
            · right; simp; omega
            · left; simp [h0]
          obtain ⟨r, e1, e2⟩ := nxt best (invS_no hI fun q' hq' ho => hok ((show q' = q by omega) ▸ ho : okC' d h i q).2)
          refine ⟨r, ?_, e2⟩
          simp only [hno, cond_false]
          exact e1
      obtain ⟨r, e1, e2⟩ := step
      refine ⟨r, ev_succ ?_, e2⟩
      by_cases hx : h = 24
      · rw [if_pos hx] at hval
        have hx24 : decide ((h : Int) = 24) = true := decide_eq_true (by omega)
        simp only [spec_NearDay_L9, show (((q + 12) % 12 : Nat) : Int) + 1 ≤ 12 by omega, decide_true, cond_true, hmod, ht, Option.bind_some, Bool.not_true, cond_false, beqI, hx24, hval, w64 (n := C d h i q) (by omega) (by omega), l2Time_eq]
        exact e1
      · rw [if_neg hx] at hval
        simp only [spec_NearDay_L9, show (((q + 12) % 12 : Nat) : Int) + 1 ≤ 12 by omega, decide_true, cond_true, hmod, ht, Option.bind_some, Bool.not_true, cond_false, beqI, show ¬ (h : Int) = 24 by omega, decide_false, hval, l2Time_eq]
        exact e1
theorem spec_near (d h i ref : Int) : (nearOk d h i ref = false ∧ spec_NearDay d h i ref = some (0, false)) ∨
    (nearOk d h i ref = true ∧ ∃ r, Best (fun q => q < 1212) d.toNat h.toNat i.toNat ref r ∧ spec_NearDay d h i ref = some (r, true)) := by
  cases hn : nearOk d h i ref with
  | false =>
    refine .inl ⟨rfl, evF_eq ?_⟩
    have hnt : ∀ x, nearOk d h i ref = x → x = false → (decide (0 ≤ ref) && decide (ref ≤ 52596000)) = true → (decide (1 ≤ d) && decide (d ≤ 31)) = true → (decide (0 ≤ h) && decide (h ≤ 24)) = true → (decide (0 ≤ i) && decide (i ≤ 59)) = true → h = 24 ∧ ¬ i = 0 := by
      intro x hx hf a b c e
      subst hx
      unfold nearOk at hf
      rw [a, b, c, e] at hf
      simpa using hf
    have hk := hnt _ rfl hn
    unfold spec_NearDay_F
    simp only [l2Time_eq, l2In_eq', Option.bind_some, beqI, bneI]
    cases a : (decide (0 ≤ ref) && decide (ref ≤ 52596000)) with
    | false => simp only [Bool.not_false, cond_true]; exact ev_now _
    | true =>
      cases b : (decide (1 ≤ d) && decide (d ≤ 31)) with
      | false => simp only [Bool.not_false, Bool.not_true, cond_true, cond_false]; exact ev_now _
      | true =>
        cases c : (decide (0 ≤ h) && decide (h ≤ 24)) with
        | false => simp only [Bool.not_false, Bool.not_true, cond_true, cond_false]; exact ev_now _
        | true =>
          cases e : (decide (0 ≤ i) && decide (i ≤ 59)) with
          | false => simp only [Bool.not_false, Bool.not_true, cond_true, cond_false]; exact ev_now _
          | true =>
            obtain ⟨k1, k2⟩ := hk a b c e
            simp only [Bool.not_true, cond_false, k1, k2, decide_true, decide_false, Bool.not_false, cond_true]
            exact ev_now _
  | true =>
    refine .inr ⟨rfl, ?_⟩
    have hn' := hn
    simp only [nearOk, Bool.and_eq_true, Bool.not_eq_true', decide_eq_true_eq, Bool.and_eq_false_iff, Bool.not_eq_false', decide_eq_false_iff_not] at hn
    obtain ⟨href, hd, hh, hi, h24⟩ := hn
    have e1 : ((d.toNat : Nat) : Int) = d := by omega
    have e2 : ((h.toNat : Nat) : Int) = h := by omega
    have e3 : ((i.toNat : Nat) : Int) = i := by omega
    obtain ⟨n, rfl⟩ : ∃ n : Nat, ref = (n : Int) := ⟨ref.toNat, by omega⟩
    obtain ⟨j, hj⟩ := month_of (n / 1440)
    have hdate := date_spec n j (by omega) hj
    have hj' := month_le hj.1 (by omega)
    have hY : j / 12 ≤ 100 := by omega
    have hyr : (Sm (12 * (j / 12)) : Int) ≤ (n : Int) / 1440 ∧ (n : Int) / 1440 < (Sm (12 * (j / 12 + 1)) : Int) := by
      have a1 := Sm_mono (show 12 * (j / 12) ≤ j by omega)
      have a2 := Sm_mono (show j + 1 ≤ 12 * (j / 12 + 1) by omega)
      omega
    obtain ⟨r, h1, h2⟩ := near_loopS (d := d.toNat) (h := h.toNat) (i := i.toNat) (ref := (n : Int)) (j / 12) (2000 + ((j / 12 : Nat) : Int)) (((j % 12 : Nat) : Int) + 1) (((n / 1440 - Sm j : Nat) : Int) + 1) ((n / 60 % 24 : Nat) : Int) ((n % 60 : Nat) : Int) hY rfl (by omega) (by omega) (by omega) (by omega) href 36 (12 * (j / 12)) (-1) (by omega) (by omega) (by omega) (.inl ⟨rfl, fun q a b => by omega⟩)
    rw [e1, e2, e3] at h1
    obtain ⟨q1, a1, a2, a3, _⟩ := some_near (d := d.toNat) (h := h.toNat) (i := i.toNat) (y := j / 12) (ref := (n : Int)) (by omega) (by omega) (by omega) (by omega) href hyr
    rcases h2 with ⟨_, h3⟩ | ⟨h3, h4⟩
    · exact absurd a3 (h3 q1 (by omega) (by omega))
    · rw [if_neg (by omega)] at h1
      refine ⟨r, best_wide (by omega) (by omega) (by omega) (by omega) href hyr (best_congr (fun q => by omega) h4), evF_eq ?_⟩
      have ey : (12 * (j / 12)) / 12 = j / 12 := by omega
      have em : (12 * (j / 12)) % 12 = 0 := by omega
      rw [ey, em] at h1
      have hw : IntKind.i64.wrap (2000 + ((j / 12 : Nat) : Int) - 1) = 1999 + ((j / 12 : Nat) : Int) := by rw [w64 (by omega) (by omega)]; omega
      have core : Ev (fun k => spec_NearDay_L6 k d h i (n : Int) (-1) (IntKind.i64.wrap (2000 + ((j / 12 : Nat) : Int) - 1)) (2000 + ((j / 12 : Nat) : Int)) (((j % 12 : Nat) : Int) + 1) (((n / 1440 - Sm j : Nat) : Int) + 1) ((n / 60 % 24 : Nat) : Int) ((n % 60 : Nat) : Int)) (r, true) := by
        apply ev_succ
        rw [hw]
        simp only [spec_NearDay_L6, w64 (n := 2000 + ((j / 12 : Nat) : Int) + 1) (by omega) (by omega), show 1999 + ((j / 12 : Nat) : Int) ≤ 2000 + ((j / 12 : Nat) : Int) + 1 by omega, decide_true, cond_true]
        exact h1
      unfold spec_NearDay_F
      simp only [l2Time_eq, l2In_eq', Option.bind_some, beqI, href.1, href.2, hd.1, hd.2, hh.1, hh.2, hi.1, hi.2, decide_true, Bool.and_self, Bool.not_true, cond_false, hdate, dateV]
      by_cases hx : h = 24
      · have hi0 : i = 0 := by omega
        rw [hx, hi0] at core
        simp only [hx, hi0, decide_true, cond_true, bneI, Bool.not_true, cond_false]
        exact core
      · simp only [hx, decide_false, cond_false]
        exact core
/-- What both say of a day. -/
theorem near_both (d h i ref : Int) : ∃ r : Int × Bool, spec_NearDay d h i ref = some r ∧ impl_NearDay d h i ref = some r ∧ (r = (0, false) ∨ (0 ≤ r.1 ∧ r.1 ≤ 52596000 ∧ r.2 = true ∧ 0 ≤ ref ∧ ref ≤ 52596000)) := by
  rcases spec_near d h i ref with ⟨a, b⟩ | ⟨a, r, b, c⟩ <;> rcases impl_near d h i ref with ⟨a', b'⟩ | ⟨a', r', b', c'⟩
  · exact ⟨_, b, b', .inl rfl⟩
  · rw [a] at a'; cases a'
  · rw [a] at a'; cases a'
  · have := best_uniq b b'
    subst this
    have hr := inv_range b
    simp only [nearOk, Bool.and_eq_true, decide_eq_true_eq] at a
    exact ⟨_, c, c', .inr ⟨hr.1, hr.2, rfl, a.1.1, a.1.2⟩⟩
/-- A minute that is near is found again. -/
theorem near_found {d h i q : Nat} {ref : Int} (hd : 1 ≤ d ∧ d ≤ 31) (hh : h ≤ 24) (hi : i < 60) (h24 : h = 24 → i = 0) (hq : q < 1212) (ho : okC' d h i q) (href : 0 ≤ ref ∧ ref ≤ 52596000) (hn : dst (C d h i q) ref ≤ 18720) :
    impl_NearDay (d : Int) (h : Int) (i : Int) ref = some (C d h i q, true) := by
  rcases impl_near (d : Int) (h : Int) (i : Int) ref with ⟨a, _⟩ | ⟨_, r, b, c⟩
  · exfalso
    have : nearOk (d : Int) (h : Int) (i : Int) ref = true := by
      have hx : (decide ((h : Int) = 24) && !decide ((i : Int) = 0)) = false := by
        by_cases hx : h = 24
        · have := h24 hx; subst this; simp
        · have : ¬ (h : Int) = 24 := by omega
          simp [this]
      simp only [nearOk, hx, show (1 : Int) ≤ (d : Int) by omega, show (d : Int) ≤ 31 by omega, show (0 : Int) ≤ (h : Int) by omega, show (h : Int) ≤ 24 by omega, show (0 : Int) ≤ (i : Int) by omega, show (i : Int) ≤ 59 by omega, href.1, href.2, decide_true, Bool.and_self, Bool.not_false]
    rw [this] at a; cases a
  · simp only [Int.toNat_natCast] at b
    have := best_is b hq ho hn
    rw [c, this]
end Go.Proofs.YtondfjckadlabaaGreatDoor.NU
