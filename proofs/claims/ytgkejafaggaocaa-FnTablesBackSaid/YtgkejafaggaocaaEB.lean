/-
  Part of a proof by the engine: texts that a program of ours printed, or plain lemmas on them. No condition but what each theorem says.
-/
import Derived.Test.YtgkejafaggaocaaPO
import Derived.Test.YtgkejafaggaocaaEng5
import Derived.Test.YtgkejafaggaocaaProg
import Derived.KernelRfl
import Derived.Test.YtgkejafaggaocaaDoorsF
set_option linter.unusedVariables false
set_option linter.unusedSimpArgs false
set_option maxRecDepth 100000
namespace Go.Proofs.Ytgkejafaggaocaa.EB
open Go Go.Eng Go.Proofs
open Go.Proofs.Ytgkejafaggaocaa.EX
open Go.Proofs.Ytgkejafaggaocaa.PO hiding gl
noncomputable def gl : Nat → Option (List Cell) := glOf []
theorem gl_PO : ∀ g cs, Go.Proofs.Ytgkejafaggaocaa.PO.gl g = some cs → gl g = some cs := glOf_mono (by intro p hp; cases hp)
-- loop.example/g00051/impl.encode
noncomputable def i_impl_encode : Shape := ⟨[(0, .c (.sl (.pair (.int .i64) (.pair (.int .i64) (.pair (.int .i64) (.int .i64)))))), (1, .c (.sl (.int .i64))), (2, .c (.sl .flt))], []⟩
noncomputable def o_impl_encode : Shape := ⟨[(0, .tup [(false, [.nilP]), (false, [.sl (.int .u64)]), (false, [.sl (.pair (.int .i64) (.pair (.int .i64) (.pair (.int .i64) (.int .i64))))]), (false, [.int .i64])])], []⟩
noncomputable def impl_encode (a0 : List (Int × Int × Int × Int)) (a1 : List Int) (a2 : List Nat) : Option ((List Int) × (List (Int × Int × Int × Int)) × Int) :=
  (impl_PlanOk a0 a1).bind fun val => bif !val then some ([], [], 1) else none
noncomputable def g_impl_encode : Sg := ⟨i_impl_encode, o_impl_encode, (List Int) × (List (Int × Int × Int × Int)) × Int, fun y => (((((), ()), (y.1, ()), (y.2.1, ()), (y.2.2, ()), ()), ()), ()), fun x => impl_encode x.1.1 x.1.2.1 x.1.2.2.1⟩
noncomputable def C_impl_encode : Ctx := ⟨50, tiOf Try.prog, gl, sgOf [(64, g_impl_PlanOk)], []⟩
noncomputable def r_impl_encode : AExit → Env → Option ((List Int) × (List (Int × Int × Int × Int)) × Int) := retK C_impl_encode 0 o_impl_encode (fun y => (y.1.1.2.1.1, y.1.1.2.2.1.1, y.1.1.2.2.2.1.1)) Try.f74.results.toList
theorem e_impl_encode : Sound Try.prog gl 74 g_impl_encode :=
  sound_plain (C := C_impl_encode) ⟨fun _ _ h => h, by kernel_rfl⟩ (sgOf_all' ⟨.inl ⟨by kernel_rfl, (Sound.mono gl_PO (by rfl) e_impl_PlanOk)⟩, trivial⟩) 74 Try.f74 g_impl_encode (fun y => (y.1.1.2.1.1, y.1.1.2.2.1.1, y.1.1.2.2.2.1.1)) (by kernel_rfl) (by kernel_rfl) (by kernel_rfl) (by kernel_rfl) (by kernel_rfl) (by kernel_rfl) (fun _ => rfl) (fun x => by kernel_rfl)
-- loop.example/g00051/impl.Encode
noncomputable def i_impl_Encode : Shape := ⟨[(0, .c (.sl (.pair (.int .i64) (.pair (.int .i64) (.pair (.int .i64) (.int .i64)))))), (1, .c (.sl (.int .i64))), (2, .c (.sl .flt))], []⟩
noncomputable def o_impl_Encode : Shape := ⟨[(0, .tup [(false, [.ref 0]), (false, [.int .i64])])], [.lst 5 (.int .u8)]⟩
noncomputable def impl_Encode (a0 : List (Int × Int × Int × Int)) (a1 : List Int) (a2 : List Nat) : Option (Int × (List Int)) :=
  (impl_encode a0 a1 a2).bind fun val => bif val.snd.snd != 0 then some (val.snd.snd, []) else none
noncomputable def g_impl_Encode : Sg := ⟨i_impl_Encode, o_impl_Encode, Int × (List Int), fun y => (((((), ()), (y.1, ()), ()), ()), (y.2, ())), fun x => impl_Encode x.1.1 x.1.2.1 x.1.2.2.1⟩
noncomputable def C_impl_Encode : Ctx := ⟨28, tiOf Try.prog, gl, sgOf [(74, g_impl_encode)], []⟩
noncomputable def r_impl_Encode : AExit → Env → Option (Int × (List Int)) := retK C_impl_Encode 0 o_impl_Encode (fun y => (y.1.1.2.1.1, y.2.1)) Try.f38.results.toList
theorem e_impl_Encode : Sound Try.prog gl 38 g_impl_Encode :=
  sound_plain (C := C_impl_Encode) ⟨fun _ _ h => h, by kernel_rfl⟩ (sgOf_all' ⟨.inl ⟨by kernel_rfl, e_impl_encode⟩, trivial⟩) 38 Try.f38 g_impl_Encode (fun y => (y.1.1.2.1.1, y.2.1)) (by kernel_rfl) (by kernel_rfl) (by kernel_rfl) (by kernel_rfl) (by kernel_rfl) (by kernel_rfl) (fun _ => rfl) (fun x => by kernel_rfl)
end Go.Proofs.Ytgkejafaggaocaa.EB
