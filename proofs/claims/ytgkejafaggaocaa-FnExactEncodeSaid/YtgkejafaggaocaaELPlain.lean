/-
  Part of a proof by the engine: texts that a program of ours printed, or plain lemmas on them. No condition but what each theorem says.
-/
import Derived.Test.YtgkejafaggaocaaEU
import Derived.Test.YtgkejafaggaocaaESPlain
import Derived.Test.YtgkejafaggaocaaEL
import Derived.Test.YtgkejafaggaocaaLHPlain
set_option linter.unusedVariables false
set_option linter.unusedSimpArgs false
namespace Go.Proofs.Ytgkejafaggaocaa.EU
open Go Go.Eng Go.TB Go.FT Go.Proofs.Ytgkejafaggaocaa.EX Go.Proofs.Ytgkejafaggaocaa.PO
open Go.Proofs.Ytgkejafaggaocaa.EN (Q encDev Words EI enc_keeps bne_err good0)
/-- What is encoded: the code, the bytes. -/
noncomputable def encV (t : LE) (plan : List Int) (vs : List Nat) : Int × List Int :=
  bif planV t plan then (match thr (encDev vs) t plan.length plan (0, 0, 0, (0, [])) with
    | .error e => (e, [])
    | .ok s => bif decide (s.2.2.2.1 < vs.length) then (6, []) else (0, bytesB s.2.2.2.2)) else (1, [])
theorem impl_enc (t : LE) (plan : List Int) {vs : List Nat} (W : Words vs) (hl : vs.length ≤ 2000000) : impl_Encode t plan vs = some (encV t plan vs) := by
  unfold impl_Encode encV EN.impl_Encode EN.impl_encode EB.impl_Encode EB.impl_encode
  rw [impl_planV]
  cases h : planV t plan with
  | false =>
    simp only [Option.bind_some, Bool.not_false, cond_true, Option.bind_none, cond_false]
    rfl
  | true =>
    have h' := h
    simp only [planV, Bool.and_eq_true, decide_eq_true_eq] at h'
    obtain ⟨y, y1, y2⟩ := EN.through_eq (tblV_ok h'.1) W hl h'.2.1 h'.2.2
    simp only [Option.bind_some, Bool.not_true, cond_false, cond_true, y1]
    cases hq : thr (encDev vs) t plan.length plan (0, 0, 0, (0, [])) with
    | error e =>
      rw [hq] at y2
      obtain ⟨a, b⟩ : y.1 = e ∧ e ≠ 0 := y2
      have b0 : (e == 0) = false := by rw [beqI]; exact decide_eq_false b
      simp only [a, b0, cond_false, Option.bind_some, bne_err rfl b, cond_true]
    | ok s =>
      rw [hq] at y2
      obtain ⟨nu, el, _, _, rfl⟩ := y2
      have hg := thr_keeps (enc_keeps vs) t _ _ _ s (good0 vs) hq
      simp only [beq_self_eq_true, cond_true]
      by_cases c : s.2.2.2.1 < vs.length
      · have e1 : ((6 : Int) != 0) = true := rfl
        simp only [c, show (s.2.2.2.1 : Int) < (vs.length : Int) by omega, decide_true, cond_true, Option.bind_some, e1]
      · simp only [c, show ¬ (s.2.2.2.1 : Int) < (vs.length : Int) by omega, decide_false, cond_false, Option.bind_some, bneI, decide_true, Bool.not_true]
theorem spec_enc (t : LE) (plan : List Int) {vs : List Nat} (W : Words vs) (hl : vs.length ≤ 2000000) : ES.spec_Encode t plan vs = some (encV t plan vs) := by
  unfold ES.spec_Encode encV
  rw [spec_planV, Option.bind_some]
  cases h : planV t plan with
  | false => rfl
  | true =>
    have h' := h
    simp only [planV, Bool.and_eq_true, decide_eq_true_eq] at h'
    obtain ⟨y, y1, y2⟩ := ES.run_eq (tblV_ok h'.1) W hl h'.2.1 h'.2.2
    simp only [Option.bind_some, Bool.not_true, cond_false, cond_true, y1]
    cases hq : thr (encDev vs) t plan.length plan (0, 0, 0, (0, [])) with
    | error e =>
      rw [hq] at y2
      obtain ⟨a, b⟩ : y.2.2.2.2.2.2.2.1 = e ∧ e ≠ 0 := y2
      have b0 : (e == 0) = false := by rw [beqI]; exact decide_eq_false b
      simp only [a, b0, cond_false, bne_err rfl b, cond_true]
    | ok s =>
      rw [hq] at y2
      obtain ⟨sp, _, rfl⟩ := y2
      have hg := thr_keeps (enc_keeps vs) t _ _ _ s (good0 vs) hq
      have hb := spec_bytes (b := s.2.2.2.2) hg.2.2.2.2.2 (by have := hg.1; have := hg.2.2.2.2.1; omega)
      simp only [beq_self_eq_true, cond_true]
      by_cases c : s.2.2.2.1 < vs.length
      · simp only [c, show (s.2.2.2.1 : Int) < (vs.length : Int) by omega, decide_true, cond_true]
      · simp only [c, show ¬ (s.2.2.2.1 : Int) < (vs.length : Int) by omega, decide_false, cond_false, Option.bind_some, bneI, decide_true, Bool.not_true, hb]
theorem encV_bytes (t : LE) (plan : List Int) (vs : List Nat) : (encV t plan vs).2.length ≤ 20000 ∧ ∀ x ∈ (encV t plan vs).2, 0 ≤ x ∧ x ≤ 255 := by
  unfold encV
  cases h : planV t plan with
  | false => simp
  | true =>
    simp only [cond_true]
    cases hq : thr (encDev vs) t plan.length plan (0, 0, 0, (0, [])) with
    | error e => simp
    | ok s =>
      have hg := thr_keeps (enc_keeps vs) t _ _ _ s (good0 vs) hq
      have h1 := hg.1
      have h2 := hg.2.2.2.2.1
      have h3 := hg.2.2.2.2.2
      simp only
      cases decide (s.2.2.2.1 < vs.length) with
      | true => simp
      | false =>
        simp only [cond_false, bytesB_length]
        refine ⟨by omega, fun x hx => ?_⟩
        obtain ⟨k, hk, rfl⟩ := List.mem_map.1 hx
        exact byteAt_range h3 k
end Go.Proofs.Ytgkejafaggaocaa.EU

namespace Go.Proofs.Ytgkejafaggaocaa.EL
open Go Go.Eng Go.TB Go.FT Go.Proofs.Ytgkejafaggaocaa.EX Go.Proofs.Ytgkejafaggaocaa.PO Go.Proofs.Ytgkejafaggaocaa.ES Go.Proofs.Ytgkejafaggaocaa.EU Go.Proofs.Ytgkejafaggaocaa.LH
open Go.Proofs.Ytgkejafaggaocaa.EN (Words)
theorem law (t : LE) (plan : List Int) (vs : List Nat) (W : Words vs) (ht : t.length ≤ 9223372036854775807) : laws_FnExactEncode t plan vs = some true := by
  unfold laws_FnExactEncode laws_szElemS
  by_cases h1 : (plan.length : Int) > 1048576
  · simp only [h1, decide_true, cond_true]
  by_cases h2 : (vs.length : Int) > 1048576
  · simp only [h1, h2, decide_true, decide_false, cond_true, cond_false]
  rw [w64 (n := 1048576 - (t.length : Int)) (by omega) (by omega)]
  by_cases hn : 1048576 - (t.length : Int) < 0
  · simp only [h1, h2, hn, decide_true, decide_false, cond_true, cond_false, Option.bind_some, show (-1 : Int) < 0 by omega]
  have hl : t.length ≤ 1048576 := by omega
  have hv := (encV_bytes t plan vs).1
  obtain ⟨ys, hm⟩ := markElemS_some t hl 1 (by omega)
  simp only [h1, h2, hn, decide_false, cond_false, Option.bind_some, toElemS_eq t hl, toInt64S_eq plan (by omega), toFloat64S_eq vs (by omega), spec_enc t plan W (by omega), impl_enc t plan W (by omega), eqByteS_self _ (show (encV t plan vs).2.length ≤ 1048576 by omega), bne_self_eq_false, Bool.not_true,
    eqElemS_self t hl, eqInt64S_self plan (by omega), eqFloat64S_self vs (by omega), hm, markInt64S_eq plan (by omega) (1 + 4 * (t.length : Int)) (by omega), markFloat64S_eq vs (by omega) (1 + 4 * (t.length : Int) + (plan.length : Int)) (by omega),
    show ¬ (1 + 4 * (t.length : Int) + (plan.length : Int) + (vs.length : Int) < 0) by omega, markByteS_eq _ (show (encV t plan vs).2.length ≤ 1048576 by omega) 1 (by omega), heldByteS_eq (encV t plan vs).2.length (by omega) 1 (by omega),
    show ¬ (1 + ((encV t plan vs).2.length : Int) < 0) by omega]
theorem pure (z0 : denKs [.sl (.pair (.int .i64) (.pair (.int .i64) (.pair (.int .i64) (.int .i64))))]) (z1 : denKs [.sl (.int .i64)]) (z2 : denKs [.sl .flt]) (h0 : wfKs [.sl (.pair (.int .i64) (.pair (.int .i64) (.pair (.int .i64) (.int .i64))))] z0) (h1 : wfKs [.sl (.int .i64)] z1) (h2 : wfKs [.sl .flt] z2) :
    g_laws_FnExactEncode.fn ((z0.1, z1.1, z2.1, ()), ()) = some true := by
  obtain ⟨w0, _⟩ := h0
  obtain ⟨w2, _⟩ := h2
  exact law z0.1 z1.1 z2.1 (fun x hx => ((wf_sl.1 w2).2 x hx).2) (wf_sl.1 w0).1
end Go.Proofs.Ytgkejafaggaocaa.EL
