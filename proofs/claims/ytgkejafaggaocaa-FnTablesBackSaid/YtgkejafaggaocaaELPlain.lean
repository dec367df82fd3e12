/-
  Part of a proof by the engine: texts that a program of ours printed, or plain lemmas on them. No condition but what each theorem says.
-/
import Derived.Test.YtgkejafaggaocaaEU
import Derived.Test.YtgkejafaggaocaaESPlain
set_option linter.unusedVariables false
set_option linter.unusedSimpArgs false
namespace Go.Proofs.Ytgkejafaggaocaa.EU
open Go Go.Eng Go.TB Go.FT Go.Proofs.Ytgkejafaggaocaa.EX Go.Proofs.Ytgkejafaggaocaa.PO
open Go.Proofs.Ytgkejafaggaocaa.EN (Q encDev Words EI enc_keeps bne_err good0)
/-- What is encoded: the code, the bytes. -/
noncomputable def encV (t : LE) (plan : List Int) (vs : List Nat) : Int × List Int :=
  bif planV t plan then (match thr (encDev vs) t plan.length plan (0, 0, 0, (0, [])) with
    | .error e => (e, [])
    | .ok s => bif decide (s.2.2.2.1 < vs.length) then (6, []) else (0, bytesB s.2.2.2.2)) else (1, [])
theorem impl_enc (t : LE) (plan : List Int) {vs : List Nat} (W : Words vs) (hl : vs.length ≤ 2000000) : impl_Encode t plan vs = some (encV t plan vs) := by
  unfold impl_Encode encV EN.impl_Encode EN.impl_encode EB.impl_Encode EB.impl_encode
  rw [impl_planV]
  cases h : planV t plan with
  | false =>
    simp only [Option.bind_some, Bool.not_false, cond_true, Option.bind_none, cond_false]
    rfl
  | true =>
    have h' := h
    simp only [planV, Bool.and_eq_true, decide_eq_true_eq] at h'
    obtain ⟨y, y1, y2⟩ := EN.through_eq (tblV_ok h'.1) W hl h'.2.1 h'.2.2
    simp only [Option.bind_some, Bool.not_true, cond_false, cond_true, y1]
    cases hq : thr (encDev vs) t plan.length plan (0, 0, 0, (0, [])) with
    | error e =>
      rw [hq] at y2
      obtain ⟨a, b⟩ : y.1 = e ∧ e ≠ 0 := y2
      have b0 : (e == 0) = false := by rw [beqI]; exact decide_eq_false b
      simp only [a, b0, cond_false, Option.bind_some, bne_err rfl b, cond_true]
    | ok s =>
      rw [hq] at y2
      obtain ⟨nu, el, _, _, rfl⟩ := y2
      have hg := thr_keeps (enc_keeps vs) t _ _ _ s (good0 vs) hq
      simp only [beq_self_eq_true, cond_true]
      by_cases c : s.2.2.2.1 < vs.length
      · have e1 : ((6 : Int) != 0) = true := rfl
        simp only [c, show (s.2.2.2.1 : Int) < (vs.length : Int) by omega, decide_true, cond_true, Option.bind_some, e1]
      · simp only [c, show ¬ (s.2.2.2.1 : Int) < (vs.length : Int) by omega, decide_false, cond_false, Option.bind_some, bneI, decide_true, Bool.not_true]
theorem spec_enc (t : LE) (plan : List Int) {vs : List Nat} (W : Words vs) (hl : vs.length ≤ 2000000) : ES.spec_Encode t plan vs = some (encV t plan vs) := by
  unfold ES.spec_Encode encV
  rw [spec_planV, Option.bind_some]
  cases h : planV t plan with
  | false => rfl
  | true =>
    have h' := h
    simp only [planV, Bool.and_eq_true, decide_eq_true_eq] at h'
    obtain ⟨y, y1, y2⟩ := ES.run_eq (tblV_ok h'.1) W hl h'.2.1 h'.2.2
    simp only [Option.bind_some, Bool.not_true, cond_false, cond_true, y1]
    cases hq : thr (encDev vs) t plan.length plan (0, 0, 0, (0, [])) with
    | error e =>
      rw [hq] at y2
      obtain ⟨a, b⟩ : y.2.2.2.2.2.2.2.1 = e ∧ e ≠ 0 := y2
      have b0 : (e == 0) = false := by rw [beqI]; exact decide_eq_false b
      simp only [a, b0, cond_false, bne_err rfl b, cond_true]
    | ok s =>
      rw [hq] at y2
      obtain ⟨sp, _, rfl⟩ := y2
      have hg := thr_keeps (enc_keeps vs) t _ _ _ s (good0 vs) hq
      have hb := spec_bytes (b := s.2.2.2.2) hg.2.2.2.2.2 (by have := hg.1; have := hg.2.2.2.2.1; omega)
      simp only [beq_self_eq_true, cond_true]
      by_cases c : s.2.2.2.1 < vs.length
      · simp only [c, show (s.2.2.2.1 : Int) < (vs.length : Int) by omega, decide_true, cond_true]
      · simp only [c, show ¬ (s.2.2.2.1 : Int) < (vs.length : Int) by omega, decide_false, cond_false, Option.bind_some, bneI, decide_true, Bool.not_true, hb]
theorem encV_bytes (t : LE) (plan : List Int) (vs : List Nat) : (encV t plan vs).2.length ≤ 20000 ∧ ∀ x ∈ (encV t plan vs).2, 0 ≤ x ∧ x ≤ 255 := by
  unfold encV
  cases h : planV t plan with
  | false => simp
  | true =>
    simp only [cond_true]
    cases hq : thr (encDev vs) t plan.length plan (0, 0, 0, (0, [])) with
    | error e => simp
    | ok s =>
      have hg := thr_keeps (enc_keeps vs) t _ _ _ s (good0 vs) hq
      have h1 := hg.1
      have h2 := hg.2.2.2.2.1
      have h3 := hg.2.2.2.2.2
      simp only
      cases decide (s.2.2.2.1 < vs.length) with
      | true => simp
      | false =>
        simp only [cond_false, bytesB_length]
        refine ⟨by omega, fun x hx => ?_⟩
        obtain ⟨k, hk, rfl⟩ := List.mem_map.1 hx
        exact byteAt_range h3 k
end Go.Proofs.Ytgkejafaggaocaa.EU
