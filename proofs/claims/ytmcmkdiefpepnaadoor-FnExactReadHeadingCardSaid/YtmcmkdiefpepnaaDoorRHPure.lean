/-
  Part of a proof by the engine: texts that a program of ours printed, or plain lemmas on them. No condition but what each theorem says.
-/
import Derived.Test.YtmcmkdiefpepnaaDoorRHP9
set_option linter.unusedVariables false
set_option linter.unusedSimpArgs false
namespace Go.Proofs.YtmcmkdiefpepnaaDoor.RH
open Go Go.Eng Go.Proofs.YtmcmkdiefpepnaaDoor.DT Go.Proofs.YtmcmkdiefpepnaaDoor.EX
theorem eqHeading_self (a b : ByteArray) (n : Int) (c : ByteArray) (d h m : Int) (k : ByteArray) : laws_eqHeading a b n c d h m k a b n c d h m k = some true := by
  unfold laws_eqHeading
  simp only [beq_bytes, bneI, decide_true, Bool.not_true, cond_false]
theorem law (s : ByteArray) : laws_FnExactReadHeading s = some true := by
  unfold laws_FnExactReadHeading
  by_cases h1 : (s.size : Int) > 1048576
  · simp only [h1, decide_true, cond_true]
  · simp only [h1, decide_false, cond_false, spec_ReadHeading_eq (s := s) (by omega), impl_ReadHeading_eq (s := s) (by omega), Option.bind_some, eqHeading_self, Bool.not_true, bneI, decide_true]
theorem pure (z0 : denKs [.str]) (h0 : wfKs [.str] z0) : g_laws_FnExactReadHeading.fn ((z0.1, ()), ()) = some true := law z0.1
end Go.Proofs.YtmcmkdiefpepnaaDoor.RH
