/-
  Part of a proof by the engine: texts that a program of ours printed, or plain lemmas on them. No condition but what each theorem says.
-/
import Derived.Test.YtmcmkdiefpepnaaDoorTTP4
set_option linter.unusedVariables false
set_option linter.unusedSimpArgs false
namespace Go.Proofs.YtmcmkdiefpepnaaDoor.TT
open Go Go.Eng Go.Proofs.YtmcmkdiefpepnaaDoor.SA Go.Proofs.YtmcmkdiefpepnaaDoor.EX
theorem law (a0 : ByteArray) (a1 a2 a3 a4 a5 a6 : Int) (a7 a8 : ByteArray) (a9 : Int) (xs : List Ch) (h0 : a0.size ≤ 9223372036854775807) (h7 : a7.size ≤ 9223372036854775807) (h8 : a8.size ≤ 9223372036854775807)
    (hx : xs.length ≤ 9223372036854775807) (hw : ∀ c ∈ xs, wfCh c) : laws_FnExactTafText a0 a1 a2 a3 a4 a5 a6 a7 a8 a9 xs = some true := by
  obtain ⟨v, hv, hv2⟩ := szTaf_eq a0 a1 a2 a3 a4 a5 a6 a7 a8 a9 xs h0 h7 h8 hx hw
  unfold laws_FnExactTafText
  rw [hv, Option.bind_some]
  by_cases hneg : v < 0
  · simp only [hneg, decide_true, cond_true]
  have hxl := hv2 (by omega)
  simp only [hneg, decide_false, cond_false, toTaf_eq a0 a1 a2 a3 a4 a5 a6 a7 a8 a9 xs hxl, Option.bind_some, spec_TafText_eq, impl_TafText_eq, eqTaf_self a0 a1 a2 a3 a4 a5 a6 a7 a8 a9 xs hxl, Bool.not_true, beq_self_eq_true]
theorem pure (z0 : denKs [.str, .int .i64, .int .i64, .int .i64, .int .i64, .int .i64, .int .i64, .str, .str, .int .i64, .sl K9_0]) (h0 : wfKs [.str, .int .i64, .int .i64, .int .i64, .int .i64, .int .i64, .int .i64, .str, .str, .int .i64, .sl K9_0] z0) :
    g_laws_FnExactTafText.fn ((z0, ()), ()) = some true := by
  obtain ⟨w0, _, _, _, _, _, _, w7, w8, _, w10, _⟩ := h0
  refine law z0.1 z0.2.1 z0.2.2.1 z0.2.2.2.1 z0.2.2.2.2.1 z0.2.2.2.2.2.1 z0.2.2.2.2.2.2.1 z0.2.2.2.2.2.2.2.1 z0.2.2.2.2.2.2.2.2.1 z0.2.2.2.2.2.2.2.2.2.1 z0.2.2.2.2.2.2.2.2.2.2.1 (wf_str.1 w0) (wf_str.1 w7) (wf_str.1 w8) (wf_sl.1 w10).1 fun c hc => ?_
  obtain ⟨_, _, _, _, _, _, e6, e7, _⟩ := (wf_sl.1 w10).2 c hc
  exact ⟨wf_str.1 e6, wf_str.1 e7⟩
end Go.Proofs.YtmcmkdiefpepnaaDoor.TT
