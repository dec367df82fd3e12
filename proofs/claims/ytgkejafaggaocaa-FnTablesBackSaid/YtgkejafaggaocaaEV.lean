/-
  Part of a proof by the engine: texts that a program of ours printed, or plain lemmas on them. No condition but what each theorem says.
-/
import Derived.Test.YtgkejafaggaocaaES
import Derived.Test.YtgkejafaggaocaaEU
set_option linter.unusedVariables false
set_option linter.unusedSimpArgs false
namespace Go.Proofs.Ytgkejafaggaocaa.EV
open Go Go.Eng Go.Proofs
noncomputable def gl : Nat → Option (List Cell) := glOf []
theorem gl_ES : ∀ g cs, Go.Proofs.Ytgkejafaggaocaa.ES.gl g = some cs → gl g = some cs := fun g cs h => by simp [ES.gl, glOf] at h
theorem gl_EU : ∀ g cs, Go.Proofs.Ytgkejafaggaocaa.EU.gl g = some cs → gl g = some cs := fun g cs h => by simp [EU.gl, glOf] at h
noncomputable abbrev spec_Encode := Go.Proofs.Ytgkejafaggaocaa.ES.spec_Encode
noncomputable abbrev g_spec_Encode : Sg := Go.Proofs.Ytgkejafaggaocaa.ES.g_spec_Encode
theorem e_spec_Encode : Sound Try.prog gl 36 g_spec_Encode := Sound.mono gl_ES (by rfl) Go.Proofs.Ytgkejafaggaocaa.ES.e_spec_Encode
noncomputable abbrev impl_Encode := Go.Proofs.Ytgkejafaggaocaa.EU.impl_Encode
noncomputable abbrev g_impl_Encode : Sg := Go.Proofs.Ytgkejafaggaocaa.EU.g_impl_Encode
theorem e_impl_Encode : Sound Try.prog gl 38 g_impl_Encode := Sound.mono gl_EU (by rfl) Go.Proofs.Ytgkejafaggaocaa.EU.e_impl_Encode
end Go.Proofs.Ytgkejafaggaocaa.EV
