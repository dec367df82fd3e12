/-
  Part of a proof by the engine: texts that a program of ours printed, or plain lemmas on them. No condition but what each theorem says.
-/
import Derived.Test.YtgkejafaggaocaaDL
import Derived.Test.YtgkejafaggaocaaDEPlain
import Derived.Test.YtgkejafaggaocaaLHPlain
set_option linter.unusedVariables false
set_option linter.unusedSimpArgs false
namespace Go.Proofs.Ytgkejafaggaocaa.DL
open Go Go.Eng Go.TB Go.FT Go.Proofs.Ytgkejafaggaocaa.EX Go.Proofs.Ytgkejafaggaocaa.PO Go.Proofs.Ytgkejafaggaocaa.DE Go.Proofs.Ytgkejafaggaocaa.LH
theorem decV_len (t : LE) (plan : List Int) {data : List Int} (D : DataOk data) : (decV t plan data).1.length ≤ 5000 := by
  unfold decV
  cases h : planV t plan with
  | false => simp
  | true =>
    simp only [cond_true]
    cases hq : thr (dev data) t plan.length plan (0, 0, 0, (0, [])) with
    | error e => simp
    | ok s =>
      have hg := thr_keeps (dec_keeps (bitAt_bit data) (NN data)) t _ _ _ s good0 hq
      have h1 := hg.1
      have h2 := hg.2.2.2.2
      cases h3 : restV (bitAt data) s.2.2.2.1 (NN data) with
      | false => simp [h3]
      | true => simp only [h3, cond_true]; omega
theorem law (t : LE) (plan data : List Int) (hd : ∀ x ∈ data, 0 ≤ x ∧ x ≤ 255) (ht : t.length ≤ 9223372036854775807) : laws_FnExactDecode t plan data = some true := by
  unfold laws_FnExactDecode laws_szElemS
  by_cases h1 : (plan.length : Int) > 1048576
  · simp only [h1, decide_true, cond_true]
  by_cases h2 : (data.length : Int) > 1048576
  · simp only [h1, h2, decide_true, decide_false, cond_true, cond_false]
  rw [w64 (n := 1048576 - (t.length : Int)) (by omega) (by omega)]
  by_cases hn : 1048576 - (t.length : Int) < 0
  · simp only [h1, h2, hn, decide_true, decide_false, cond_true, cond_false, Option.bind_some, show (-1 : Int) < 0 by omega]
  have hl : t.length ≤ 1048576 := by omega
  have D : DataOk data := ⟨by omega, hd⟩
  have hv := decV_len t plan D
  obtain ⟨ys, hm⟩ := markElemS_some t hl 1 (by omega)
  simp only [h1, h2, hn, decide_false, cond_false, Option.bind_some, toElemS_eq t hl, toInt64S_eq plan (by omega), toByteS_eq data (by omega), spec_dec t plan D, impl_dec t plan D, eqFloat64S_self _ (show (decV t plan data).1.length ≤ 1048576 by omega), bne_self_eq_false, Bool.not_true,
    eqElemS_self t hl, eqInt64S_self plan (by omega), eqByteS_self data (by omega), hm, markInt64S_eq plan (by omega) (1 + 4 * (t.length : Int)) (by omega), markByteS_eq data (by omega) (1 + 4 * (t.length : Int) + (plan.length : Int)) (by omega),
    show ¬ (1 + 4 * (t.length : Int) + (plan.length : Int) + (data.length : Int) < 0) by omega, markFloat64S_eq _ (show (decV t plan data).1.length ≤ 1048576 by omega) 1 (by omega), heldFloat64S_eq (decV t plan data).1.length (by omega) 1 (by omega),
    show ¬ (1 + ((decV t plan data).1.length : Int) < 0) by omega]
theorem pure (z0 : denKs [.sl (.pair (.int .i64) (.pair (.int .i64) (.pair (.int .i64) (.int .i64))))]) (z1 : denKs [.sl (.int .i64)]) (z2 : denKs [.sl (.int .u8)]) (h0 : wfKs [.sl (.pair (.int .i64) (.pair (.int .i64) (.pair (.int .i64) (.int .i64))))] z0) (h1 : wfKs [.sl (.int .i64)] z1) (h2 : wfKs [.sl (.int .u8)] z2) :
    g_laws_FnExactDecode.fn ((z0.1, z1.1, z2.1, ()), ()) = some true := by
  obtain ⟨w0, _⟩ := h0
  obtain ⟨w2, _⟩ := h2
  exact law z0.1 z1.1 z2.1 (fun x hx => wf_u8.1 ((wf_sl.1 w2).2 x hx)) (wf_sl.1 w0).1
end Go.Proofs.Ytgkejafaggaocaa.DL
