/-
  Part of a proof by the engine: texts that a program of ours printed, or plain lemmas on them. No condition but what each theorem says.
-/
import Derived.Test.YtmcmkdiefpepnaaDoorTMP4
set_option linter.unusedVariables false
set_option linter.unusedSimpArgs false
namespace Go.Proofs.YtmcmkdiefpepnaaDoor.TM
open Go Go.Eng Go.Proofs.YtmcmkdiefpepnaaDoor.DT Go.Proofs.YtmcmkdiefpepnaaDoor.EX
/-! ### the nearest day -/
/-- The minute of day d, hour h, minute i in month q. -/
def C (d h i q : Nat) : Int := (((Sm q : Nat) : Int) + (d : Int) - 1) * 1440 + (h : Int) * 60 + (i : Int)
def far (a b : Int) : Prop := a + 21600 ≤ b ∨ b + 21600 ≤ a
def InvN (j : Nat) (t ref : Int) (q : Nat) (best : Int) (found : Bool) : Prop :=
  (q ≤ j → (found = false ∧ best = 0) ∨ (found = true ∧ (0 ≤ best ∧ best ≤ 52596000) ∧ far best ref)) ∧ (j < q → found = true ∧ best = t)
theorem C_far {d h i j q : Nat} {t ref : Int} (hd : 1 ≤ d ∧ d ≤ 31) (hh : h < 24) (hi : i < 60) (hC : C d h i j = t) (hq : q ≠ j) (hr : -18720 ≤ ref - t ∧ ref - t ≤ 18720) : far (C d h i q) ref := by
  unfold C at *
  unfold far
  rcases Nat.lt_or_gt_of_ne hq with h1 | h1
  · have h2 := Sm_mono (show q + 1 ≤ j from h1)
    have h3 : Sm (q + 1) = Sm q + ml q := rfl
    have h4 := ml_pos q
    rw [h3] at h2
    clear h3
    generalize Sm q = a at *
    generalize Sm j = b at *
    generalize ml q = c at *
    left; omega
  · have h2 := Sm_mono (show j + 1 ≤ q from h1)
    have h3 : Sm (j + 1) = Sm j + ml j := rfl
    have h4 := ml_pos j
    rw [h3] at h2
    clear h3
    generalize Sm q = a at *
    generalize Sm j = b at *
    generalize ml j = c at *
    right; omega
section
variable {d h i j : Nat} {t ref : Int}
theorem near_loop (hd : 1 ≤ d ∧ d ≤ ml j) (hh : h < 24) (hi : i < 60) (hC : C d h i j = t) (ht : 0 ≤ t ∧ t ≤ 52596000) (hj : j ≤ 1200) (href : 0 ≤ ref ∧ ref ≤ 52596000) (hr : -18720 ≤ ref - t ∧ ref - t ≤ 18720) : ∀ (n q : Nat) (best : Int) (found : Bool), 1212 - q = n → q < 1212 → InvN j t ref q best found →
    Ev (fun k => impl_NearDay_L8 k (d : Int) (h : Int) (i : Int) ref best found (2000 + ((q / 12 : Nat) : Int)) (((q % 12 : Nat) : Int) + 1)) (t, true) := by
  intro n
  have hd31 : 1 ≤ d ∧ d ≤ 31 := ⟨hd.1, Nat.le_trans hd.2 (ml_pos j).2⟩
  induction n with
  | zero => intro q best found hn hq; omega
  | succ n ih =>
    intro q best found hn hq hI
    have nxt : ∀ (best' : Int) (found' : Bool), InvN j t ref (q + 1) best' found' → Ev (fun k => impl_NearDay_L8 k (d : Int) (h : Int) (i : Int) ref best' found' (2000 + ((q / 12 : Nat) : Int)) (IntKind.i64.wrap (((q % 12 : Nat) : Int) + 1 + 1))) (t, true) := by
      intro best' found' hI'
      rw [w64 (by omega) (by omega)]
      by_cases h11 : q % 12 = 11
      · apply ev_succ
        simp only [impl_NearDay_L8, show ¬ (((q % 12 : Nat) : Int) + 1 + 1 ≤ 12) by omega, decide_false, cond_false]
        rw [w64 (n := 2000 + ((q / 12 : Nat) : Int) + 1) (by omega) (by omega)]
        apply ev_succ
        by_cases hlast : q + 1 < 1212
        · have := ih (q + 1) best' found' (by omega) hlast hI'
          simp only [impl_NearDay_L5, show 2000 + ((q / 12 : Nat) : Int) + 1 ≤ 2100 by omega, decide_true, cond_true]
          rw [show (2000 + (((q + 1) / 12 : Nat) : Int)) = 2000 + ((q / 12 : Nat) : Int) + 1 by omega, show ((((q + 1) % 12 : Nat) : Int) + 1) = 1 by omega] at this
          exact this
        · simp only [impl_NearDay_L5, show ¬ (2000 + ((q / 12 : Nat) : Int) + 1 ≤ 2100) by omega, decide_false, cond_false]
          obtain ⟨e1, e2⟩ := hI'.2 (by omega)
          rw [e1, e2]
          exact ev_now _
      · have := ih (q + 1) best' found' (by omega) (by omega) hI'
        rw [show (2000 + (((q + 1) / 12 : Nat) : Int)) = 2000 + ((q / 12 : Nat) : Int) by omega, show ((((q + 1) % 12 : Nat) : Int) + 1) = ((q % 12 : Nat) : Int) + 1 + 1 by omega] at this
        exact this
    have same : q ≠ j → InvN j t ref (q + 1) best found := fun hne => ⟨fun h1 => hI.1 (by omega), fun h1 => hI.2 (by omega)⟩
    have hm := days_impl (q / 12) (q % 12) (by omega)
    rw [show 12 * (q / 12) + q % 12 = q by omega] at hm
    apply ev_succ
    simp only [impl_NearDay_L8, show ((q % 12 : Nat) : Int) + 1 ≤ 12 by omega, decide_true, cond_true, hm, Option.bind_some]
    by_cases hgt : (d : Int) > ((ml q : Nat) : Int)
    · simp only [hgt, decide_true, cond_true]
      exact nxt _ _ (same (by rintro rfl; omega))
    · have hto := daysTo_eq (q / 12) (q % 12 + 1) (d : Int) (by omega) (by omega) (by omega)
      rw [show 12 * (q / 12) + (q % 12 + 1 - 1) = q by omega, show ((q % 12 + 1 : Nat) : Int) = ((q % 12 : Nat) : Int) + 1 by omega] at hto
      have hb := Sm_bound (i := q) (by omega)
      have eC : IntKind.i64.wrap (IntKind.i64.wrap (IntKind.i64.wrap ((((Sm q : Nat) : Int) + (d : Int) - 1) * 1440) + IntKind.i64.wrap ((h : Int) * 60)) + (i : Int)) = C d h i q := by
        unfold C
        generalize Sm q = s at *
        rw [w64 (n := ((s : Int) + (d : Int) - 1) * 1440) (by omega) (by omega), w64 (n := (h : Int) * 60) (by omega) (by omega), w64 (n := ((s : Int) + (d : Int) - 1) * 1440 + (h : Int) * 60) (by omega) (by omega), w64 (by omega) (by omega)]
      simp only [hgt, decide_false, cond_false, hto, Option.bind_some, eC, isTime_eq]
      by_cases hok : 0 ≤ C d h i q ∧ C d h i q ≤ 52596000
      · simp only [hok.1, hok.2, decide_true, Bool.and_self, Bool.not_true, cond_false]
        by_cases hqj : q = j
        · subst hqj
          rw [hC]
          have hafter : InvN q t ref (q + 1) t true := ⟨fun h1 => by omega, fun _ => ⟨rfl, rfl⟩⟩
          rcases hI.1 (Nat.le_refl _) with ⟨hf, hb0⟩ | ⟨hf, hbr, hfar⟩
          · simp only [hf, Bool.not_false, cond_true]
            exact nxt _ _ hafter
          · have : (if IntKind.i64.wrap (ref - t) > IntKind.i64.wrap (t - ref) then IntKind.i64.wrap (ref - t) else IntKind.i64.wrap (t - ref)) < (if IntKind.i64.wrap (ref - best) > IntKind.i64.wrap (best - ref) then IntKind.i64.wrap (ref - best) else IntKind.i64.wrap (best - ref)) := by
              rw [w64 (n := ref - t) (by omega) (by omega), w64 (n := t - ref) (by omega) (by omega), w64 (n := ref - best) (by omega) (by omega), w64 (n := best - ref) (by omega) (by omega)]
              unfold far at hfar
              split <;> split <;> omega
            simp only [hf, Bool.not_true, cond_false, this, decide_true, cond_true]
            exact nxt _ _ hafter
        · have hfar := C_far (d := d) (h := h) (i := i) (ref := ref) hd31 hh hi hC hqj hr
          generalize C d h i q = c at *
          cases hf : found with
          | false =>
            simp only [Bool.not_false, cond_true]
            refine nxt _ _ ⟨fun _ => .inr ⟨rfl, hok, hfar⟩, fun h1 => ?_⟩
            have := (hI.2 (by omega)).1
            rw [hf] at this; cases this
          | true =>
            simp only [Bool.not_true, cond_false]
            by_cases hlt : (if IntKind.i64.wrap (ref - c) > IntKind.i64.wrap (c - ref) then IntKind.i64.wrap (ref - c) else IntKind.i64.wrap (c - ref)) < (if IntKind.i64.wrap (ref - best) > IntKind.i64.wrap (best - ref) then IntKind.i64.wrap (ref - best) else IntKind.i64.wrap (best - ref))
            · simp only [hlt, decide_true, cond_true]
              refine nxt _ _ ⟨fun _ => .inr ⟨rfl, hok, hfar⟩, fun h1 => ?_⟩
              exfalso
              obtain ⟨_, e⟩ := hI.2 (by omega)
              subst e
              rw [w64 (n := ref - c) (by omega) (by omega), w64 (n := c - ref) (by omega) (by omega), w64 (n := ref - best) (by omega) (by omega), w64 (n := best - ref) (by omega) (by omega)] at hlt
              unfold far at hfar
              split at hlt <;> split at hlt <;> omega
            · simp only [hlt, decide_false, cond_false]
              have := same hqj
              rw [hf] at this
              exact nxt _ _ this
      · have hno : (decide (0 ≤ C d h i q) && decide (C d h i q ≤ 52596000)) = false := by
          rw [Bool.and_eq_false_iff]
          by_cases h0 : 0 ≤ C d h i q
          · right; simp; omega
          · left; simp [h0]
        simp only [hno, Bool.not_false, cond_true]
        exact nxt _ _ (same (by rintro rfl; exact hok (by rw [hC]; exact ht)))
end
theorem near_eq {t j : Nat} {ref : Int} (ht : t ≤ 52596000) (hj : Sm j ≤ t / 1440 ∧ t / 1440 < Sm (j + 1)) (href : 0 ≤ ref ∧ ref ≤ 52596000) (hr : -18720 ≤ ref - (t : Int) ∧ ref - (t : Int) ≤ 18720) :
    impl_NearDay ((fD t j : Nat) : Int) ((t / 60 % 24 : Nat) : Int) ((t % 60 : Nat) : Int) ref = some ((t : Int), true) := by
  have hj' := month_le hj.1 (by omega)
  have hml := ml_pos j
  have h2 : Sm (j + 1) = Sm j + ml j := rfl
  have hD : 1 ≤ fD t j ∧ fD t j ≤ ml j := by
    unfold fD
    generalize Sm j = s at *
    omega
  have hC : C (fD t j) (t / 60 % 24) (t % 60) j = (t : Int) := by
    unfold C fD
    have h3 := hj.1
    clear hj h2 hD
    generalize Sm j = s at *
    omega
  have hl := near_loop (d := fD t j) (h := t / 60 % 24) (i := t % 60) (j := j) (t := (t : Int)) (ref := ref) hD (by omega) (by omega) hC (by omega) hj' href hr 1212 0 0 false (by omega) (by omega) ⟨fun _ => .inl ⟨rfl, rfl⟩, fun h => by omega⟩
  refine evF_eq ?_
  unfold impl_NearDay_F
  simp only [isTime_eq, in_eq, Option.bind_some, beqI, href.1, href.2, show (1 : Int) ≤ ((fD t j : Nat) : Int) by omega, show ((fD t j : Nat) : Int) ≤ 31 by omega, show (0 : Int) ≤ ((t / 60 % 24 : Nat) : Int) by omega, show ((t / 60 % 24 : Nat) : Int) ≤ 24 by omega, show (0 : Int) ≤ ((t % 60 : Nat) : Int) by omega, show ((t % 60 : Nat) : Int) ≤ 59 by omega, decide_true, Bool.and_self, Bool.not_true, cond_false,
    show ¬ (((t / 60 % 24 : Nat) : Int) = 24) by omega, decide_false]
  apply ev_succ
  simp only [impl_NearDay_L5, show (2000 : Int) ≤ 2100 by omega, decide_true, cond_true]
  exact hl
end Go.Proofs.YtmcmkdiefpepnaaDoor.TM
