/-
  What both date functions and both time functions come to. No condition but the ranges that the functions themselves ask.
-/
import Derived.Test.YtmcmkdiefpepnaaDoorPureCalRS
namespace Go.Proofs.YtmcmkdiefpepnaaDoor.PCRS
set_option linter.unusedSimpArgs false
set_option linter.unusedVariables false
open Go Go.RowKit Go.Proofs.YtmcmkdiefpepnaaDoorW.PrintWords Go.Proofs.YtmcmkdiefpepnaaDoor.PB Go.Proofs.YtmcmkdiefpepnaaDoor.XRS Go.Proofs.YtmcmkdiefpepnaaDoor.Ext Go.Proofs.YtmcmkdiefpepnaaDoor.PNRS

theorem daysTo_l0 (y m : Nat) (d : Int) (hy : y ≤ 101) (hm : 1 ≤ m ∧ m ≤ 12) (hd : -100000 ≤ d ∧ d ≤ 100000) : ∀ (n k : Nat), m - k = n → 1 ≤ k → k ≤ m →
    Ev (fun q => impl_daysTo.l0 q (2000 + (y : Int)) (m : Int) d ((Sm (12 * y + (k - 1)) : Nat) : Int) (k : Int)) (((Sm (12 * y + (m - 1)) : Nat) : Int) + d - 1) := by
  intro n
  induction n with
  | zero =>
    intro k hn h1 hk
    obtain rfl : k = m := by omega
    have hb := Sm_bound (i := 12 * y + (k - 1)) (by omega)
    refine ev_round (fun _ => rfl) (ev_neg (by omega) (ev_eq (Ev.now _) ?_))
    rw [w64 (n := ((Sm (12 * y + (k - 1)) : Nat) : Int) + d) (by omega) (by omega), w64 (by omega) (by omega)]
  | succ n ih =>
    intro k hn h1 hk
    have hb := Sm_bound (i := 12 * y + (k - 1) + 1) (by omega)
    have hdays := days_impl y (k - 1) (by omega)
    rw [show (((k - 1 : Nat) : Int) + 1) = (k : Int) by omega] at hdays
    refine ev_round (fun _ => rfl) (ev_pos (by omega) (ev_bindc hdays ?_))
    have e1 : wrap64 (((Sm (12 * y + (k - 1)) : Nat) : Int) + ((ml (12 * y + (k - 1)) : Nat) : Int)) = ((Sm (12 * y + (k + 1 - 1)) : Nat) : Int) := by
      have : Sm (12 * y + (k + 1 - 1)) = Sm (12 * y + (k - 1)) + ml (12 * y + (k - 1)) := by
        rw [show 12 * y + (k + 1 - 1) = 12 * y + (k - 1) + 1 by omega]; rfl
      have h2 : Sm (12 * y + (k - 1) + 1) = Sm (12 * y + (k - 1)) + ml (12 * y + (k - 1)) := rfl
      rw [w64 (by omega) (by omega), this]; omega
    have e2 : wrap64 ((k : Int) + 1) = ((k + 1 : Nat) : Int) := by rw [w64 (by omega) (by omega)]; omega
    rw [e1, e2]
    exact ih (k + 1) (by omega) (by omega) (by omega)
theorem daysTo_ev (y m : Nat) (d : Int) (hy : y ≤ 101) (hm : 1 ≤ m ∧ m ≤ 12) (hd : -100000 ≤ d ∧ d ≤ 100000) :
    Ev (fun q => impl_daysTo.f q (2000 + (y : Int)) (m : Int) d) (((Sm (12 * y + (m - 1)) : Nat) : Int) + d - 1) := by
  unfold impl_daysTo.f
  have e : wrap64 ((wrap64 ((wrap64 (2000 + (y : Int) - 2000)) * 365)) + (wrap64 (Int.tdiv (wrap64 ((wrap64 (2000 + (y : Int) - 2000)) + 3)) 4))) = ((Sm (12 * y + (1 - 1)) : Nat) : Int) := by
    rw [show (2000 + (y : Int) - 2000) = (y : Int) by omega, w64 (n := (y : Int)) (by omega) (by omega), w64 (n := (y : Int) * 365) (by omega) (by omega), w64 (n := (y : Int) + 3) (by omega) (by omega), Int.tdiv_eq_ediv_of_nonneg (by omega), w64 (n := ((y : Int) + 3) / 4) (by omega) (by omega), w64 (by omega) (by omega), show 12 * y + (1 - 1) = 12 * y from rfl, Sm_year]
    omega
  rw [e]
  exact daysTo_l0 y m d hy hm hd (m - 1) 1 rfl (Nat.le_refl _) hm.1

/-- The date of minute t, its month being j. -/
def dateV (t j : Nat) : Int × Int × Int × Int × Int × Bool := (2000 + ((j / 12 : Nat) : Int), ((j % 12 : Nat) : Int) + 1, ((t / 1440 - Sm j : Nat) : Int) + 1, ((t / 60 % 24 : Nat) : Int), ((t % 60 : Nat) : Int), true)
theorem date_l0 (t j : Nat) (hj : Sm j ≤ t / 1440 ∧ t / 1440 < Sm (j + 1)) (hj' : j ≤ 1200) : ∀ (n i : Nat), j - i = n → i ≤ j →
    Ev (fun q => spec_DateOf.l0 q ((t / 1440 - Sm i : Nat) : Int) (2000 + ((i / 12 : Nat) : Int)) (((i % 12 : Nat) : Int) + 1) 1 ((t / 60 % 24 : Nat) : Int) ((t % 60 : Nat) : Int)) (dateV t j) := by
  intro n
  have hb1 := Sm_bound (i := j + 1) (by omega)
  induction n with
  | zero =>
    intro i hn hi
    obtain rfl : i = j := by omega
    have hdays := days_spec (i / 12) (i % 12) (by omega) (by omega)
    rw [show 12 * (i / 12) + i % 12 = i by omega] at hdays
    have h2 : Sm (i + 1) = Sm i + ml i := rfl
    refine ev_round (fun _ => rfl) (ev_bindc hdays (ev_neg (by omega) (ev_eq (Ev.now _) ?_)))
    rw [w64 (by omega) (by omega)]; rfl
  | succ n ih =>
    intro i hn hi
    have hdays := days_spec (i / 12) (i % 12) (by omega) (by omega)
    rw [show 12 * (i / 12) + i % 12 = i by omega] at hdays
    have h2 : Sm (i + 1) = Sm i + ml i := rfl
    have h3 := Sm_mono (show i + 1 ≤ j by omega)
    have hm := ml_pos i
    have := ih (i + 1) (by omega) (by omega)
    have e1 : wrap64 (((t / 1440 - Sm i : Nat) : Int) - ((ml i : Nat) : Int)) = ((t / 1440 - Sm (i + 1) : Nat) : Int) := by rw [w64 (by omega) (by omega)]; omega
    refine ev_round (fun _ => rfl) (ev_bindc hdays (ev_pos (by omega) (ev_bindc hdays ?_)))
    rw [e1]
    by_cases h11 : i % 12 = 11
    · refine ev_pos (by rw [w64 (by omega) (by omega)]; omega) ?_
      have e2 : wrap64 (2000 + ((i / 12 : Nat) : Int) + 1) = 2000 + (((i + 1) / 12 : Nat) : Int) := by rw [w64 (by omega) (by omega)]; omega
      have e3 : (((i + 1) % 12 : Nat) : Int) + 1 = 1 := by omega
      rw [e3] at this; rw [e2]; exact this
    · refine ev_neg (by rw [w64 (by omega) (by omega)]; omega) ?_
      have e2 : (i + 1) / 12 = i / 12 := by omega
      have e3 : wrap64 (((i % 12 : Nat) : Int) + 1 + 1) = (((i + 1) % 12 : Nat) : Int) + 1 := by rw [w64 (by omega) (by omega)]; omega
      rw [e2] at this; rw [e3]; exact this
theorem hour_eq (t : Nat) (ht : t ≤ 52596000) : Int.tmod (wrap64 (Int.tdiv (t : Int) 60)) 24 = ((t / 60 % 24 : Nat) : Int) ∧ Int.tmod (t : Int) 60 = ((t % 60 : Nat) : Int) ∧ wrap64 (Int.tdiv (t : Int) 1440) = ((t / 1440 : Nat) : Int) := by
  rw [Int.tdiv_eq_ediv_of_nonneg (by omega), Int.tdiv_eq_ediv_of_nonneg (by omega), w64 (by omega) (by omega), w64 (by omega) (by omega), Int.tmod_eq_emod_of_nonneg (by omega), Int.tmod_eq_emod_of_nonneg (by omega)]
  omega
theorem date_spec (t j : Nat) (ht : t ≤ 52596000) (hj : Sm j ≤ t / 1440 ∧ t / 1440 < Sm (j + 1)) : Ev (fun q => spec_DateOf.f q (t : Int)) (dateV t j) := by
  have hj' := month_le hj.1 (by omega)
  obtain ⟨e1, e2, e3⟩ := hour_eq t ht
  unfold spec_DateOf.f spec_l2Time.f
  rw [e1, e2, e3, if_pos (by omega)]
  refine ev_bindc rfl (ev_pos (decide_eq_true (by omega)) ?_)
  have := date_l0 t j hj hj' j 0 (by omega) (by omega)
  exact this
theorem date_last (t j m : Nat) (ht : t ≤ 52596000) (hj : Sm j ≤ t / 1440) (hj' : j ≤ 1200) (hm : m = j % 12 + 1) :
    Ev (fun q => (impl_daysTo.f q (2000 + ((j / 12 : Nat) : Int)) (m : Int) 1).bind fun t108 => (some (2000 + ((j / 12 : Nat) : Int), (m : Int), wrap64 ((wrap64 (((t / 1440 : Nat) : Int) - t108)) + 1), Int.tmod (wrap64 (Int.tdiv (t : Int) 60)) 24, Int.tmod (t : Int) 60, true))) (dateV t j) := by
  have hd : t / 1440 ≤ 36525 := by clear hj hm hj'; omega
  have hq : j / 12 ≤ 101 ∧ 1 ≤ m ∧ m ≤ 12 := by clear hj hd ht; omega
  have e0 : 12 * (j / 12) + (m - 1) = j := by clear hj hd ht; omega
  have e5 : (m : Int) = ((j % 12 : Nat) : Int) + 1 := by clear hj hd ht; omega
  have e6 : wrap64 (wrap64 (((t / 1440 : Nat) : Int) - (((Sm j : Nat) : Int) + 1 - 1)) + 1) = ((t / 1440 - Sm j : Nat) : Int) + 1 := by
    generalize t / 1440 = day at hj hd ⊢
    generalize Sm j = s at hj ⊢
    clear e0 e5 hq hm ht
    rw [w64 (n := (day : Int) - _) (by omega) (by omega), w64 (by omega) (by omega)]; omega
  obtain ⟨e1, e2, _⟩ := hour_eq t ht
  refine Ev.bind (daysTo_ev (j / 12) m 1 hq.1 hq.2 ⟨by decide, by decide⟩) (ev_eq (Ev.now _) ?_)
  rw [e0, e1, e2, e6, e5]
  rfl
theorem date_l1 (t j : Nat) (ht : t ≤ 52596000) (hj : Sm j ≤ t / 1440 ∧ t / 1440 < Sm (j + 1)) (hj' : j ≤ 1200) : ∀ (n m : Nat), j % 12 + 1 - m = n → 1 ≤ m → m ≤ j % 12 + 1 →
    Ev (fun q => impl_DateOf.l1 q (t : Int) ((t / 1440 : Nat) : Int) (2000 + ((j / 12 : Nat) : Int)) (m : Int)) (dateV t j) := by
  have last : ∀ m : Nat, m = j % 12 + 1 → Ev (fun q => (impl_daysTo.f q (2000 + ((j / 12 : Nat) : Int)) (m : Int) 1).bind fun t108 => (some (2000 + ((j / 12 : Nat) : Int), (m : Int), wrap64 ((wrap64 (((t / 1440 : Nat) : Int) - t108)) + 1), Int.tmod (wrap64 (Int.tdiv (t : Int) 60)) 24, Int.tmod (t : Int) 60, true))) (dateV t j) := fun m hm => date_last t j m ht hj.1 hj' hm
  intro n
  induction n with
  | zero =>
    intro m hn h1 hm
    obtain rfl : m = j % 12 + 1 := by omega
    refine ev_succ ?_
    simp only [impl_DateOf.l1]
    by_cases h12 : ((j % 12 + 1 : Nat) : Int) < 12
    · refine ev_pos h12 ?_
      have e4 : wrap64 (((j % 12 + 1 : Nat) : Int) + 1) = ((j % 12 + 2 : Nat) : Int) := by rw [w64 (by omega) (by omega)]; omega
      rw [e4]
      refine Ev.bind (daysTo_ev (j / 12) (j % 12 + 2) 1 (by omega) (by omega) (by omega)) ?_
      rw [show 12 * (j / 12) + (j % 12 + 2 - 1) = j + 1 by omega]
      exact ev_neg (by omega) (last _ rfl)
    · exact ev_neg h12 (last _ rfl)
  | succ n ih =>
    intro m hn h1 hm
    refine ev_succ ?_
    simp only [impl_DateOf.l1]
    have e4 : wrap64 ((m : Int) + 1) = ((m + 1 : Nat) : Int) := by rw [w64 (by omega) (by omega)]; omega
    rw [e4]
    refine ev_pos (by omega) (Ev.bind (daysTo_ev (j / 12) (m + 1) 1 (by omega) (by omega) (by omega)) ?_)
    have h3 := Sm_mono (show 12 * (j / 12) + (m + 1 - 1) ≤ j by omega)
    exact ev_pos (by omega) (ih (m + 1) (by omega) (by omega) (by omega))
theorem date_l0i (t j : Nat) (ht : t ≤ 52596000) (hj : Sm j ≤ t / 1440 ∧ t / 1440 < Sm (j + 1)) (hj' : j ≤ 1200) : ∀ (n y : Nat), j / 12 - y = n → y ≤ j / 12 →
    Ev (fun q => impl_DateOf.l0 q (t : Int) ((t / 1440 : Nat) : Int) (2000 + (y : Int))) (dateV t j) := by
  intro n
  induction n with
  | zero =>
    intro y hn hy
    obtain rfl : y = j / 12 := by omega
    refine ev_succ ?_
    simp only [impl_DateOf.l0]
    have e4 : wrap64 (2000 + ((j / 12 : Nat) : Int) + 1) = 2000 + ((j / 12 + 1 : Nat) : Int) := by rw [w64 (by omega) (by omega)]; omega
    rw [e4]
    refine Ev.bind (daysTo_ev (j / 12 + 1) 1 1 (by omega) (by omega) (by omega)) ?_
    have h3 := Sm_mono (show j + 1 ≤ 12 * (j / 12 + 1) + (1 - 1) by omega)
    exact ev_neg (by omega) (date_l1 t j ht hj hj' (j % 12 + 1 - 1) 1 rfl (by omega) (by omega))
  | succ n ih =>
    intro y hn hy
    refine ev_succ ?_
    simp only [impl_DateOf.l0]
    have e4 : wrap64 (2000 + (y : Int) + 1) = 2000 + ((y + 1 : Nat) : Int) := by rw [w64 (by omega) (by omega)]; omega
    rw [e4]
    refine Ev.bind (daysTo_ev (y + 1) 1 1 (by omega) (by omega) (by omega)) ?_
    have h3 := Sm_mono (show 12 * (y + 1) + (1 - 1) ≤ j by omega)
    exact ev_pos (by omega) (ih (y + 1) (by omega) (by omega))
theorem date_impl (t j : Nat) (ht : t ≤ 52596000) (hj : Sm j ≤ t / 1440 ∧ t / 1440 < Sm (j + 1)) : Ev (fun q => impl_DateOf.f q (t : Int)) (dateV t j) := by
  have hj' := month_le hj.1 (by omega)
  obtain ⟨e1, e2, e3⟩ := hour_eq t ht
  unfold impl_DateOf.f impl_isTime.f impl_in.f
  rw [e3, if_pos (by omega)]
  refine ev_bindc rfl (ev_pos (decide_eq_true (by omega)) ?_)
  have e4 : wrap64 (2000 + (wrap64 (Int.tdiv ((t / 1440 : Nat) : Int) 366))) = 2000 + ((t / 1440 / 366 : Nat) : Int) := by
    rw [Int.tdiv_eq_ediv_of_nonneg (by omega), w64 (n := _ / _) (by omega) (by omega), w64 (by omega) (by omega)]; omega
  rw [e4]
  have hle : t / 1440 / 366 ≤ j / 12 := by
    apply Nat.le_of_not_lt
    intro hlt
    have h3 := Sm_mono (show j + 1 ≤ 12 * (t / 1440 / 366) by omega)
    rw [Sm_year] at h3
    omega
  exact date_l0i t j ht hj hj' (j / 12 - t / 1440 / 366) (t / 1440 / 366) rfl hle
end Go.Proofs.YtmcmkdiefpepnaaDoor.PCRS
