/-
  Both time functions answer alike. Condition: each part of the date is between -1 and 9999.
-/
import Derived.Test.YtmcmkdiefpepnaaDoorPureCal2RS
namespace Go.Proofs.YtmcmkdiefpepnaaDoor.PCRS
set_option linter.unusedSimpArgs false
set_option linter.unusedVariables false
open Go Go.RowKit Go.Proofs.YtmcmkdiefpepnaaDoorW.PrintWords Go.Proofs.YtmcmkdiefpepnaaDoor.PB Go.Proofs.YtmcmkdiefpepnaaDoor.XRS Go.Proofs.YtmcmkdiefpepnaaDoor.Ext Go.Proofs.YtmcmkdiefpepnaaDoor.PNRS

def tv (Y M : Nat) (D H Mi : Int) : Int := (((Sm (12 * Y + M) : Nat) : Int) + D - 1) * 1440 + H * 60 + Mi
theorem time_l2 (Y M : Nat) (D H Mi : Int) (hY : Y < 100 ∧ M < 12 ∨ Y = 100 ∧ M = 0) (hD : 0 ≤ D ∧ D ≤ 31) (hH : 0 ≤ H ∧ H ≤ 23) (hMi : 0 ≤ Mi ∧ Mi ≤ 59) : ∀ (n k : Nat), M - k = n → k ≤ M →
    Ev (fun q => spec_TimeOf.l2 q ((Sm (12 * Y + k) : Nat) : Int) ((k : Int) + 1) (2000 + (Y : Int)) ((M : Int) + 1) D H Mi) (tv Y M D H Mi, true) := by
  intro n
  induction n with
  | zero =>
    intro k hn hk
    obtain rfl : k = M := by omega
    have hb := Sm_bound (i := 12 * Y + k) (by omega)
    refine ev_succ ?_
    simp only [spec_TimeOf.l2]
    refine ev_neg (by omega) (ev_eq (Ev.now _) ?_)
    unfold tv
    generalize Sm (12 * Y + k) = s at hb ⊢
    rw [w64 (n := (s : Int) + D) (by omega) (by omega), w64 (n := (s : Int) + D - 1) (by omega) (by omega), w64 (n := ((s : Int) + D - 1) * 24) (by omega) (by omega), w64 (n := ((s : Int) + D - 1) * 24 + H) (by omega) (by omega), w64 (n := (((s : Int) + D - 1) * 24 + H) * 60) (by omega) (by omega), w64 (by omega) (by omega)]
    congr 1
    omega
  | succ n ih =>
    intro k hn hk
    have hb := Sm_bound (i := 12 * Y + k + 1) (by omega)
    have hdays := days_spec Y k (by omega) (by omega)
    have h2 : Sm (12 * Y + k + 1) = Sm (12 * Y + k) + ml (12 * Y + k) := rfl
    refine ev_succ ?_
    simp only [spec_TimeOf.l2]
    refine ev_pos (by omega) (ev_bindc hdays ?_)
    have e1 : wrap64 (((Sm (12 * Y + k) : Nat) : Int) + ((ml (12 * Y + k) : Nat) : Int)) = ((Sm (12 * Y + (k + 1)) : Nat) : Int) := by
      rw [show 12 * Y + (k + 1) = 12 * Y + k + 1 from rfl, h2]
      rw [h2] at hb
      generalize Sm (12 * Y + k) = s at hb ⊢
      generalize ml (12 * Y + k) = m at hb ⊢
      rw [w64 (by omega) (by omega)]; omega
    have e2 : wrap64 ((k : Int) + 1 + 1) = ((k + 1 : Nat) : Int) + 1 := by rw [w64 (by omega) (by omega)]; omega
    rw [e1, e2]
    clear e1 e2 hb h2 hdays
    exact ih (k + 1) (by omega) (by omega)
theorem time_l1 (y : Nat) (hy : y < 100) (A B C D E : Int) (r : Int × Bool) (h : Ev (fun q => spec_TimeOf.l0 q ((Sm (12 * (y + 1)) : Nat) : Int) (2000 + ((y + 1 : Nat) : Int)) A B C D E) r) : ∀ (n k : Nat), 12 - k = n → k ≤ 12 →
    Ev (fun q => spec_TimeOf.l1 q ((Sm (12 * y + k) : Nat) : Int) (2000 + (y : Int)) ((k : Int) + 1) A B C D E) r := by
  intro n
  induction n with
  | zero =>
    intro k hn hk
    obtain rfl : k = 12 := by omega
    refine ev_succ ?_
    simp only [spec_TimeOf.l1]
    have e2 : wrap64 (2000 + (y : Int) + 1) = 2000 + ((y + 1 : Nat) : Int) := by rw [w64 (by omega) (by omega)]; omega
    refine ev_neg (by omega) ?_
    rw [e2]; exact h
  | succ n ih =>
    intro k hn hk
    have hb := Sm_bound (i := 12 * y + k + 1) (by omega)
    have hdays := days_spec y k (by omega) (by omega)
    have h2 : Sm (12 * y + k + 1) = Sm (12 * y + k) + ml (12 * y + k) := rfl
    refine ev_succ ?_
    simp only [spec_TimeOf.l1]
    refine ev_pos (by omega) (ev_bindc hdays ?_)
    have e1 : wrap64 (((Sm (12 * y + k) : Nat) : Int) + ((ml (12 * y + k) : Nat) : Int)) = ((Sm (12 * y + (k + 1)) : Nat) : Int) := by
      rw [show 12 * y + (k + 1) = 12 * y + k + 1 from rfl, h2]
      rw [h2] at hb
      generalize Sm (12 * y + k) = s at hb ⊢
      generalize ml (12 * y + k) = m at hb ⊢
      rw [w64 (by omega) (by omega)]; omega
    have e2 : wrap64 ((k : Int) + 1 + 1) = ((k + 1 : Nat) : Int) + 1 := by rw [w64 (by omega) (by omega)]; omega
    rw [e1, e2]
    clear e1 e2 hb h2 hdays
    exact ih (k + 1) (by omega) (by omega)
theorem time_l0 (Y M : Nat) (D H Mi : Int) (hY : Y < 100 ∧ M < 12 ∨ Y = 100 ∧ M = 0) (hD : 0 ≤ D ∧ D ≤ 31) (hH : 0 ≤ H ∧ H ≤ 23) (hMi : 0 ≤ Mi ∧ Mi ≤ 59) : ∀ (n y : Nat), Y - y = n → y ≤ Y →
    Ev (fun q => spec_TimeOf.l0 q ((Sm (12 * y) : Nat) : Int) (2000 + (y : Int)) (2000 + (Y : Int)) ((M : Int) + 1) D H Mi) (tv Y M D H Mi, true) := by
  intro n
  induction n with
  | zero =>
    intro y hn hy
    obtain rfl : y = Y := by omega
    refine ev_succ ?_
    simp only [spec_TimeOf.l0]
    exact ev_neg (by omega) (time_l2 y M D H Mi hY hD hH hMi M 0 (by omega) (by omega))
  | succ n ih =>
    intro y hn hy
    refine ev_succ ?_
    simp only [spec_TimeOf.l0]
    exact ev_pos (by omega) (time_l1 y (by omega) _ _ _ _ _ _ (ih (y + 1) (by omega) (by omega)) 12 0 (by omega) (by omega))
def inB (a lo hi : Int) : Bool := decide (lo ≤ a ∧ a ≤ hi)
theorem l2In_eq (a b c : Int) : spec_l2In.f a b c = some (inB a b c) := by
  unfold spec_l2In.f inB; split <;> simp <;> omega
theorem in_eq (a b c : Int) : impl_in.f a b c = some (inB a b c) := by
  unfold impl_in.f inB; split <;> simp <;> omega
theorem time_both (a b c d e : Int) : ∃ v : Int × Bool, Ev (fun q => spec_TimeOf.f q a b c d e) v ∧ Ev (fun q => impl_TimeOf.f q a b c d e) v ∧ (v.2 = true → 0 ≤ v.1 ∧ v.1 ≤ 52596000) := by
  unfold spec_TimeOf.f impl_TimeOf.f spec_l2Right.f
  simp only [l2In_eq, in_eq, Option.bind_some]
  by_cases hs : (a == 2100 && (b == 1 && (c == 1 && (d == 0 && (e == 0))))) = true
  · refine ⟨(52596000, true), ?_, ev_pos hs (Ev.now _), fun _ => ⟨by omega, by omega⟩⟩
    rw [if_pos hs]
    simp only [Bool.and_eq_true, beq_iff_eq] at hs
    obtain ⟨rfl, rfl, rfl, rfl, rfl⟩ := hs
    refine ev_bindc rfl (ev_pos rfl ?_)
    have := time_l0 100 0 1 0 0 (by omega) (by omega) (by omega) (by omega) 100 0 rfl (by omega)
    refine ev_eq this ?_
    unfold tv
    rw [show 12 * 100 + 0 = 1200 from rfl, Sm_1200]; rfl
  · rw [if_neg hs]
    have bad : ∀ {f : Nat → Option (Int × Bool)}, Ev f ((0 : Int), false) → ∃ v : Int × Bool, Ev (fun q => (some false).bind fun t151 => (if t151 = true then (spec_TimeOf.l0 q 0 2000 a b c d e) else (some (0, false)))) v ∧ Ev f v ∧ (v.2 = true → 0 ≤ v.1 ∧ v.1 ≤ 52596000) :=
      fun h => ⟨(0, false), ev_bindc rfl (ev_neg (by simp) (Ev.now _)), h, fun h => by cases h⟩
    by_cases h1 : inB a 2000 2099 = true
    · by_cases h2 : inB b 1 12 = true
      · have r1 : 2000 ≤ a ∧ a ≤ 2099 := of_decide_eq_true h1
        have r2 : 1 ≤ b ∧ b ≤ 12 := of_decide_eq_true h2
        obtain ⟨Y, rfl⟩ : ∃ Y : Nat, a = 2000 + (Y : Int) := ⟨(a - 2000).toNat, by omega⟩
        obtain ⟨M, rfl⟩ : ∃ M : Nat, b = (M : Int) + 1 := ⟨(b - 1).toNat, by omega⟩
        have hsd := days_spec Y M (by omega) (by omega)
        have hid := days_impl Y M (by omega)
        have hml := ml_pos (12 * Y + M)
        simp only [hsd, hid, Option.bind_some]
        simp only [if_pos h1, if_pos h2]
        by_cases h3 : inB c 1 ((ml (12 * Y + M) : Nat) : Int) = true
        · simp only [if_pos h3]
          by_cases h4 : inB d 0 23 = true
          · simp only [if_pos h4]
            by_cases h5 : inB e 0 59 = true
            · have r3 : 1 ≤ c ∧ c ≤ ((ml (12 * Y + M) : Nat) : Int) := of_decide_eq_true h3
              have r4 : 0 ≤ d ∧ d ≤ 23 := of_decide_eq_true h4
              have r5 : 0 ≤ e ∧ e ≤ 59 := of_decide_eq_true h5
              have hb := Sm_bound (i := 12 * Y + M + 1) (by omega)
              have hb2 : Sm (12 * Y + M + 1) ≤ 36525 := by
                rw [← Sm_1200]; exact Sm_mono (by omega)
              have h6 : Sm (12 * Y + M + 1) = Sm (12 * Y + M) + ml (12 * Y + M) := rfl
              refine ⟨(tv Y M c d e, true), ?_, ?_, fun _ => ?_⟩
              · rw [h5]
                exact ev_bindc rfl (ev_pos rfl (time_l0 Y M c d e (by omega) (by omega) r4 r5 Y 0 rfl (by omega)))
              · refine ev_neg hs (ev_pos h5 (Ev.bind (daysTo_ev Y (M + 1) c (by omega) (by omega) (by omega)) (ev_eq (Ev.now _) ?_)))
                unfold tv
                rw [show 12 * Y + (M + 1 - 1) = 12 * Y + M from rfl]
                rw [h6] at hb2
                generalize Sm (12 * Y + M) = s at hb2 ⊢
                generalize ml (12 * Y + M) = m at hb2 hml r3 ⊢
                rw [w64 (n := ((s : Int) + c - 1) * 1440) (by omega) (by omega), w64 (n := d * 60) (by omega) (by omega), w64 (n := ((s : Int) + c - 1) * 1440 + d * 60) (by omega) (by omega), w64 (by omega) (by omega)]
              · unfold tv
                rw [h6] at hb2
                generalize Sm (12 * Y + M) = s at hb2 ⊢
                generalize ml (12 * Y + M) = m at hb2 hml r3 ⊢
                show 0 ≤ ((s : Int) + c - 1) * 1440 + d * 60 + e ∧ ((s : Int) + c - 1) * 1440 + d * 60 + e ≤ 52596000
                omega
            · rw [Bool.eq_false_iff.mpr h5]
              exact bad (ev_neg hs (ev_neg (by simp) (Ev.now _)))
          · simp only [if_neg h4]
            exact bad (ev_neg hs (Ev.now _))
        · simp only [if_neg h3]
          exact bad (ev_neg hs (Ev.now _))
      · simp only [if_pos h1, if_neg h2]
        exact bad (ev_neg hs (Ev.now _))
    · simp only [if_neg h1]
      exact bad (ev_neg hs (Ev.now _))
end Go.Proofs.YtmcmkdiefpepnaaDoor.PCRS
