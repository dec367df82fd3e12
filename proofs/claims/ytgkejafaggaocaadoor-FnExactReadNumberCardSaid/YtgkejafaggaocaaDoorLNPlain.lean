/-
  Part of a proof by the engine: texts that a program of ours printed, or plain lemmas on them. No condition but what each theorem says.
-/
import Derived.Test.YtgkejafaggaocaaDoorLN
import Derived.Test.YtgkejafaggaocaaDoorRUPlain
set_option linter.unusedVariables false
set_option linter.unusedSimpArgs false
namespace Go.Proofs.YtgkejafaggaocaaDoor.LN
open Go Go.Eng Go.FT Go.Proofs.YtgkejafaggaocaaDoor.DT Go.Proofs.YtgkejafaggaocaaDoor.EX Go.Proofs.YtgkejafaggaocaaDoor.NR Go.Proofs.YtgkejafaggaocaaDoor.TD Go.Proofs.YtgkejafaggaocaaDoor.RU
open Go.Proofs.YtgkejafaggaocaaDoor.RN (bs_app not_text read_ntxt)
open Go.Proofs.YtgkejafaggaocaaDoor.SR (plainT plain_eq spec_no spec_yes spec_ReadNumber spec_ReadNumber_F spec_l1None)
theorem impl_yes {n : Int} {p : Nat} (hn : n.natAbs ≤ 1000000000000000) (hp : p ≤ 6) : impl_ReadNumber (ntxt n p) = some (fdiv (fofi n) (tenB p), true) := by
  unfold impl_ReadNumber
  rw [read_ntxt hn hp]
theorem impl_no {t : ByteArray} (h : plainT t) (hs : t.size ≤ 1048576) (hno : ∀ n p, n.natAbs ≤ 1000000000000000 → p ≤ 6 → ntxt n p ≠ t) : impl_ReadNumber t = some (0, false) := by
  unfold impl_ReadNumber
  rw [rn_pre h, rb_pre h]
  rcases pre_cases hs with hk | ⟨sg, pt, R, W, P, hL, hP, hP', w0, wd, pd, head, h17, h6, hx, hk⟩
  · rw [hk]
  · rw [hk, hk]
    unfold kN kB
    simp only [bs_app]
    rcases par_any (l := W ++ P) (by simp [w0]) (by rw [List.length_append]; omega) (by rw [List.all_append, wd, pd]; rfl) with e | ⟨e, v, e'⟩
    · rw [e, Option.bind_some]
      by_cases hb : spl 0 (W ++ P) > 1000000000000000
      · rw [decide_eq_true (show ((spl 0 (W ++ P) : Nat) : Int) > 1000000000000000 by omega)]; rfl
      · by_cases hz : sg = true → spl 0 (W ++ P) ≠ 0
        · exact absurd (ntxt_of hL hP hP' w0 wd pd head hz) (hno _ _ (by split <;> omega) h6)
        · have hz' : sg = true ∧ spl 0 (W ++ P) = 0 := by
            cases sg with
            | true => exact ⟨rfl, by
                by_cases h0 : spl 0 (W ++ P) = 0
                · exact h0
                · exact absurd (fun _ => h0) hz⟩
            | false => exact absurd (fun h => by cases h) hz
          rw [hz'.2, hx, hz'.1]; rfl
    · rw [e, e']; rfl
theorem same_self (x : Nat) : laws_sameFloat x x = some true := by
  unfold laws_sameFloat
  cases h : feq x x with
  | false => rfl
  | true =>
    cases h0 : feq x 0 with
    | false => rfl
    | true =>
      simp only [Bool.not_true, cond_false, cond_true]
      simp
/-- Both answer, and alike. -/
theorem both (t : ByteArray) (hs : t.size ≤ 1048576) : ∃ y, spec_ReadNumber t = some y ∧ impl_ReadNumber t = some y := by
  by_cases e1 : t = bs [47]
  · subst e1
    refine ⟨(9221120237041090560, true), evF_eq ?_, ?_⟩
    · have e : spec_l1None = some 9221120237041090560 := by
        have : fdiv 0 0 = 9221120237041090560 := by decide +kernel
        unfold spec_l1None; rw [this]
      unfold spec_ReadNumber_F
      rw [beq_self_bytes, e]
      exact ev_now _
    · have e : RN.impl_nan = some 9221120237041090560 := by
        have : canonF (9221120237041090561 : Int).toNat = 9221120237041090560 := by decide +kernel
        unfold RN.impl_nan RN.math_NaN dFf
        rw [this]; rfl
      unfold impl_ReadNumber RN.impl_ReadNumber
      rw [beq_self_bytes, cond_true, e]; rfl
  · have f1 : (t.toList == (bs [47]).toList) = false := by rw [beq_bytes, decide_eq_false e1]
    by_cases e2 : t = bs [104, 105, 103, 104]
    · subst e2
      refine ⟨(9218868437227405312, true), evF_eq ?_, ?_⟩
      · have e : fmul 9214871658872686752 4621819117588971520 = 9218868437227405312 := by decide +kernel
        unfold spec_ReadNumber_F
        rw [f1, beq_self_bytes, e]
        exact ev_now _
      · have e : RN.math_Inf 1 = some 9218868437227405312 := by
          have : canonF (9218868437227405312 : Int).toNat = 9218868437227405312 := by decide +kernel
          unfold RN.math_Inf dFf
          rw [this]; rfl
        unfold impl_ReadNumber RN.impl_ReadNumber
        rw [f1, cond_false, beq_self_bytes, cond_true, e]; rfl
    · have f2 : (t.toList == (bs [104, 105, 103, 104]).toList) = false := by rw [beq_bytes, decide_eq_false e2]
      by_cases e3 : t = bs [108, 111, 119]
      · subst e3
        refine ⟨(18442240474082181120, true), evF_eq ?_, ?_⟩
        · have e : fmul (fneg 9214871658872686752) 4621819117588971520 = 18442240474082181120 := by decide +kernel
          unfold spec_ReadNumber_F
          rw [f1, f2, beq_self_bytes, e]
          exact ev_now _
        · have e : RN.math_Inf (-1) = some 18442240474082181120 := by
            have : canonF (18442240474082181120 : Int).toNat = 18442240474082181120 := by decide +kernel
            unfold RN.math_Inf dFf
            rw [this]; rfl
          unfold impl_ReadNumber RN.impl_ReadNumber
          rw [f1, cond_false, f2, cond_false, beq_self_bytes, cond_true, e]; rfl
      · have hp : plainT t := ⟨e1, e2, e3⟩
        by_cases hn : ∃ n p, n.natAbs ≤ 1000000000000000 ∧ p ≤ 6 ∧ ntxt n p = t
        · obtain ⟨n, p, h1, h2, rfl⟩ := hn
          exact ⟨_, spec_yes h1 h2, impl_yes h1 h2⟩
        · have hno : ∀ n p, n.natAbs ≤ 1000000000000000 → p ≤ 6 → ntxt n p ≠ t := fun n p h1 h2 h => hn ⟨n, p, h1, h2, h⟩
          exact ⟨_, spec_no hp hno, impl_no hp hs hno⟩
theorem law (t : ByteArray) : laws_FnExactReadNumber t = some true := by
  unfold laws_FnExactReadNumber
  by_cases hs : (t.size : Int) > 1048576
  · rw [decide_eq_true hs]; rfl
  · rw [decide_eq_false hs, cond_false]
    obtain ⟨y, h1, h2⟩ := both t (by omega)
    rw [h1, h2, Option.bind_some, Option.bind_some, same_self, Option.bind_some]
    simp
theorem pure (z0 : denKs [.str]) (h0 : wfKs [.str] z0) : g_laws_FnExactReadNumber.fn ((z0.1, ()), ()) = some true := law z0.1
end Go.Proofs.YtgkejafaggaocaaDoor.LN
