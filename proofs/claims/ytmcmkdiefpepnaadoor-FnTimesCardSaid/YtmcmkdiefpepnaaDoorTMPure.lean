/-
  Part of a proof by the engine: texts that a program of ours printed, or plain lemmas on them. No condition but what each theorem says.
-/
import Derived.Test.YtmcmkdiefpepnaaDoorTMP5
set_option linter.unusedVariables false
set_option linter.unusedSimpArgs false
namespace Go.Proofs.YtmcmkdiefpepnaaDoor.TM
open Go Go.Eng Go.Proofs.YtmcmkdiefpepnaaDoor.DT Go.Proofs.YtmcmkdiefpepnaaDoor.EX
theorem dateOf_no {t : Int} (h : ¬ (0 ≤ t ∧ t ≤ 52596000)) : (∃ r, spec_DateOf t = some r ∧ r.2.2.2.2.2 = false) ∧ (∃ r, impl_DateOf t = some r ∧ r.2.2.2.2.2 = false) := by
  have hno : (decide (0 ≤ t) && decide (t ≤ 52596000)) = false := by
    rw [Bool.and_eq_false_iff]
    by_cases h0 : 0 ≤ t
    · right; simp; omega
    · left; simp [h0]
  refine ⟨⟨(0, 0, 0, 0, 0, false), evF_eq ?_, rfl⟩, ⟨(0, 0, 0, 0, 0, false), evF_eq ?_, rfl⟩⟩
  · simp only [spec_DateOf_F, l2Time_eq, hno, Option.bind_some, Bool.not_false, cond_true]
    exact ev_now _
  · simp only [impl_DateOf_F, isTime_eq, hno, Option.bind_some, Bool.not_false, cond_true]
    exact ev_now _
theorem abs_eq {x : Int} (h0 : -1000000000 ≤ x) (h1 : x ≤ 1000000000) : laws_abs x = some (if x < 0 then -x else x) := by
  unfold laws_abs
  by_cases h : x < 0
  · simp only [h, decide_true, cond_true, if_true, w64 (n := 0 - x) (by omega) (by omega)]
    congr 1; omega
  · simp only [h, decide_false, cond_false, if_false]
theorem law (a b : List Int) (ha : ∀ x ∈ a, 0 ≤ x ∧ x ≤ 255) (hb : ∀ x ∈ b, 0 ≤ x ∧ x ≤ 255) : laws_FnTimes a b = some true := by
  unfold laws_FnTimes laws_big
  simp only [Option.bind_some]
  by_cases h1 : (a.length : Int) > 1048576
  · simp only [h1, decide_true, cond_true]
  by_cases h2 : (b.length : Int) > 1048576
  · simp only [h1, h2, decide_true, decide_false, cond_true, cond_false]
  obtain ⟨t, et⟩ := draw_ok (xs := a) ⟨by omega, ha⟩
  obtain ⟨u, eu⟩ := draw_ok (xs := b) ⟨by omega, hb⟩
  simp only [h1, h2, decide_false, cond_false, et, eu, Option.bind_some]
  by_cases ht : 0 ≤ t ∧ t ≤ 52596000
  · obtain ⟨n, rfl⟩ : ∃ n : Nat, t = (n : Int) := ⟨t.toNat, by omega⟩
    obtain ⟨j, hj⟩ := month_of (n / 1440)
    have hn : n ≤ 52596000 := by omega
    have e1 := date_spec n j hn hj
    have e2 := date_impl n j hn hj
    have e3 := timeOf_eq n j hn hj
    have e4 := stamp_eq hn hj
    have e5 := readStamp_eq hn hj
    rw [show (2000 + ((j / 12 : Nat) : Int)) = ((fY j : Nat) : Int) by unfold fY; omega, show (((j % 12 : Nat) : Int) + 1) = ((fM j : Nat) : Int) by unfold fM; omega, show (((n / 1440 - Sm j : Nat) : Int) + 1) = ((fD n j : Nat) : Int) by unfold fD; omega] at e3
    rw [fields] at e1 e2
    simp only [e1, e2, e3, e4, e5, Option.bind_some, Bool.not_true, cond_false, beq_self_eq_true, Bool.and_self, bne_self_eq_false]
    by_cases hu : 0 ≤ u ∧ u ≤ 52596000
    · obtain ⟨m, rfl⟩ : ∃ m : Nat, u = (m : Int) := ⟨u.toNat, by omega⟩
      obtain ⟨k, hk⟩ := month_of (m / 1440)
      have hm : m ≤ 52596000 := by omega
      have f1 := date_spec m k hm hk
      have f4 := stamp_eq hm hk
      rw [fields] at f1
      have hord := order hn hj hm hk
      have hlt : decide ((n : Int) < (m : Int)) = decide (n < m) := by rw [decide_eq_decide]; omega
      have hmod : Int.tmod (m : Int) 37441 = ((m % 37441 : Nat) : Int) := by rw [Int.tmod_eq_emod_of_nonneg (by omega)]; omega
      have hw1 : IntKind.i64.wrap ((n : Int) - 18720) = (n : Int) - 18720 := w64 (by omega) (by omega)
      have hw2 : IntKind.i64.wrap ((n : Int) - 18720 + ((m % 37441 : Nat) : Int)) = (n : Int) - 18720 + ((m % 37441 : Nat) : Int) := w64 (by omega) (by omega)
      have hbs : ∀ l, (bs l).toList = l := toList_bs
      simp only [f1, f4, Option.bind_some, Bool.not_true, cond_false, hbs, hord, hlt, hmod, hw1, hw2]
      have hself : (!decide (n < m) == decide (n < m)) = false := by cases decide (n < m) <;> rfl
      simp only [hself, cond_false]
      generalize hre : (if (n : Int) - 18720 + ((m % 37441 : Nat) : Int) > 0 then (n : Int) - 18720 + ((m % 37441 : Nat) : Int) else 0) = ref
      have href : 0 ≤ ref ∧ ref ≤ 53000000 := by
        rw [← hre]; split <;> omega
      by_cases h5 : ref > 52596000
      · simp only [h5, decide_true, cond_true]
      · have hab := abs_eq (x := IntKind.i64.wrap (ref - (n : Int))) (by rw [w64 (by omega) (by omega)]; omega) (by rw [w64 (by omega) (by omega)]; omega)
        rw [w64 (n := ref - (n : Int)) (by omega) (by omega)] at hab ⊢
        simp only [h5, decide_false, cond_false, hab, Option.bind_some]
        by_cases h6 : (if ref - (n : Int) < 0 then -(ref - (n : Int)) else ref - (n : Int)) > 18720
        · simp only [h6, decide_true, cond_true]
        · have hr : -18720 ≤ ref - (n : Int) ∧ ref - (n : Int) ≤ 18720 := by
            split at h6 <;> omega
          have hnear := near_eq hn hj (ref := ref) ⟨href.1, by omega⟩ hr
          simp only [h6, decide_false, cond_false, hnear, Option.bind_some, cond_true, beq_self_eq_true]
    · obtain ⟨⟨r, g1, g2⟩, _⟩ := dateOf_no hu
      simp only [g1, g2, Option.bind_some, Bool.not_false, cond_true]
  · obtain ⟨⟨r, g1, g2⟩, ⟨r', g3, g4⟩⟩ := dateOf_no ht
    have hs : impl_Stamp t = some (bs []) := by
      unfold impl_Stamp
      simp only [g3, g4, Option.bind_some, Bool.not_false, cond_true]
    simp only [g1, g2, g3, g4, hs, Option.bind_some, Bool.not_false, cond_true, beq_self_eq_true]
theorem pure (z0 : denKs [.sl (.int .u8)]) (z1 : denKs [.sl (.int .u8)]) (h0 : wfKs [.sl (.int .u8)] z0) (h1 : wfKs [.sl (.int .u8)] z1) :
    g_laws_FnTimes.fn ((z0.1, z1.1, ()), ()) = some true := by
  obtain ⟨w0, _⟩ := h0
  obtain ⟨w1, _⟩ := h1
  exact law z0.1 z1.1 (fun x hx => wf_u8.1 ((wf_sl.1 w0).2 x hx)) (fun x hx => wf_u8.1 ((wf_sl.1 w1).2 x hx))
end Go.Proofs.YtmcmkdiefpepnaaDoor.TM
