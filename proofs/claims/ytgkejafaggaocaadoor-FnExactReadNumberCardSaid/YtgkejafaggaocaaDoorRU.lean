/-
  Part of a proof by the engine: texts that a program of ours printed, or plain lemmas on them. No condition but what each theorem says.
-/
import Derived.Test.YtgkejafaggaocaaDoorRN
import Derived.Test.YtgkejafaggaocaaDoorRB
set_option linter.unusedVariables false
set_option linter.unusedSimpArgs false
namespace Go.Proofs.YtgkejafaggaocaaDoor.RU
open Go Go.Eng Go.Proofs
noncomputable def gl : Nat → Option (List Cell) := glOf [(3, [.opq (.iface 0 (.pointer none))]), (4, DT.L_strconv_uint64pow10.map (Cell.int .u64))]
theorem gl_RN : ∀ g cs, RN.gl g = some cs → gl g = some cs := glOf_mono (by intro p hp; simp only [List.mem_cons, List.not_mem_nil, or_false] at hp; subst hp <;> rfl)
theorem gl_RB : ∀ g cs, RB.gl g = some cs → gl g = some cs := fun g cs h => h
noncomputable def i_impl_ReadNumber : Shape := RN.i_impl_ReadNumber
noncomputable def o_impl_ReadNumber : Shape := RN.o_impl_ReadNumber
noncomputable def impl_ReadNumber (a0 : ByteArray) : Option (Nat × Bool) :=
  match RN.impl_ReadNumber a0 with
  | some y => some y
  | none => RB.impl_ReadNumber a0
noncomputable def g_impl_ReadNumber : Sg := ⟨i_impl_ReadNumber, o_impl_ReadNumber, Nat × Bool, fun y => ((((y.1, ()), (y.2, ()), ()), ()), ()), fun x => impl_ReadNumber x.1.1⟩
theorem e_impl_ReadNumber : Sound Tryd.prog gl 22 g_impl_ReadNumber := fun w S vals x y hI hr h => by
  have h' : impl_ReadNumber x.1.1 = some y := h
  unfold impl_ReadNumber at h'
  cases hA : RN.impl_ReadNumber x.1.1 with
  | some z =>
    rw [hA] at h'
    have hz : z = y := Option.some.inj h'
    rw [hz] at hA
    exact Sound.mono gl_RN (g := RN.g_impl_ReadNumber) (by rfl) RN.e_impl_ReadNumber w S vals x y hI hr hA
  | none =>
    rw [hA] at h'
    exact Sound.mono gl_RB (g := RB.g_impl_ReadNumber) (by rfl) RB.e_impl_ReadNumber w S vals x y hI hr h'
end Go.Proofs.YtgkejafaggaocaaDoor.RU
