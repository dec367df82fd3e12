/-
  Part of a proof by the engine: texts that a program of ours printed, or plain lemmas on them. No condition but what each theorem says.
-/
import Derived.Test.YtgkejafaggaocaaEN
import Derived.Test.YtgkejafaggaocaaEB
set_option linter.unusedVariables false
set_option linter.unusedSimpArgs false
namespace Go.Proofs.Ytgkejafaggaocaa.EU
open Go Go.Eng Go.Proofs
noncomputable def gl : Nat → Option (List Cell) := glOf []
theorem gl_EN : ∀ g cs, Go.Proofs.Ytgkejafaggaocaa.EN.gl g = some cs → gl g = some cs := fun g cs h => by simp [EN.gl, glOf] at h
theorem gl_EB : ∀ g cs, Go.Proofs.Ytgkejafaggaocaa.EB.gl g = some cs → gl g = some cs := fun g cs h => by simp [EB.gl, glOf] at h
noncomputable def i_impl_Encode : Shape := Go.Proofs.Ytgkejafaggaocaa.EN.i_impl_Encode
noncomputable def o_impl_Encode : Shape := Go.Proofs.Ytgkejafaggaocaa.EN.o_impl_Encode
noncomputable def impl_Encode (a0 : List (Int × Int × Int × Int)) (a1 : List Int) (a2 : List Nat) : Option (Int × (List Int)) :=
  match Go.Proofs.Ytgkejafaggaocaa.EN.impl_Encode a0 a1 a2 with
  | some y => some y
  | none => Go.Proofs.Ytgkejafaggaocaa.EB.impl_Encode a0 a1 a2
noncomputable def g_impl_Encode : Sg := ⟨i_impl_Encode, o_impl_Encode, Int × (List Int), fun y => (((((), ()), (y.1, ()), ()), ()), (y.2, ())), fun x => impl_Encode x.1.1 x.1.2.1 x.1.2.2.1⟩
theorem e_impl_Encode : Sound Try.prog gl 38 g_impl_Encode := fun w S vals x y hI hr h => by
  have h' : impl_Encode x.1.1 x.1.2.1 x.1.2.2.1 = some y := h
  unfold impl_Encode at h'
  cases hA : Go.Proofs.Ytgkejafaggaocaa.EN.impl_Encode x.1.1 x.1.2.1 x.1.2.2.1 with
  | some z =>
    rw [hA] at h'
    have hz : z = y := Option.some.inj h'
    rw [hz] at hA
    exact Sound.mono gl_EN (g := Go.Proofs.Ytgkejafaggaocaa.EN.g_impl_Encode) (by rfl) Go.Proofs.Ytgkejafaggaocaa.EN.e_impl_Encode w S vals x y hI hr hA
  | none =>
    rw [hA] at h'
    exact Sound.mono gl_EB (g := Go.Proofs.Ytgkejafaggaocaa.EB.g_impl_Encode) (by rfl) Go.Proofs.Ytgkejafaggaocaa.EB.e_impl_Encode w S vals x y hI hr h'
end Go.Proofs.Ytgkejafaggaocaa.EU
