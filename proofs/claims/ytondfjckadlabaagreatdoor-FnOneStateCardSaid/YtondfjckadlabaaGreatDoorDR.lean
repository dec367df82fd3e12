/-
  Part of a proof by the engine: texts that a program of ours printed, or plain lemmas on them. No condition but what each theorem says.
-/
import Derived.Test.YtondfjckadlabaaGreatDoorEng5
import Derived.Test.YtondfjckadlabaaGreatDoorProg
import Derived.KernelRfl
set_option linter.unusedVariables false
set_option linter.unusedSimpArgs false
set_option maxRecDepth 100000
namespace Go.Proofs.YtondfjckadlabaaGreatDoor.DR
open Go Go.Eng Go.Proofs
noncomputable def gl : Nat → Option (List Cell) := glOf []
-- loop.example/g00051/spec.l1Open
noncomputable def i_spec_l1Open : Shape := ⟨[(0, .c (.sl (.int .u8)))], []⟩
noncomputable def o_spec_l1Open : Shape := ⟨[(0, .c (.ptr 0 0))], [.box 164 [.sl (.int .u8), .int .i64]]⟩
noncomputable def spec_l1Open (a0 : List Int) : Option ((List Int) × Int) :=
  some (a0, 0)
noncomputable def g_spec_l1Open : Sg := ⟨i_spec_l1Open, o_spec_l1Open, (List Int) × Int, fun y => (((), ()), ((y.1, y.2, ()), ())), fun x => spec_l1Open x.1.1⟩
noncomputable def C_spec_l1Open : Ctx := ⟨6, tiOf Tryz.prog, gl, sgOf [], []⟩
theorem e_spec_l1Open : Sound Tryz.prog gl 69 g_spec_l1Open :=
  sound_plain (C := C_spec_l1Open) ⟨fun _ _ h => h, by kernel_rfl⟩ (sgOf_all' trivial) 69 Tryz.f69 g_spec_l1Open (fun y => (y.2.1.1, y.2.1.2.1)) (by kernel_rfl) (by kernel_rfl) (by kernel_rfl) (by kernel_rfl) (by kernel_rfl) (by kernel_rfl) (fun _ => rfl) (fun x => by kernel_rfl)
-- (*loop.example/g00051/spec.l1Rd).next
noncomputable def i_spec_l1Rd_next : Shape := ⟨[(0, .c (.ptr 0 0))], [.box 164 [.sl (.int .u8), .int .i64]]⟩
noncomputable def o_spec_l1Rd_next : Shape := ⟨[(0, .c (.int .i64))], [.box 164 [.sl (.int .u8), .int .i64]]⟩
noncomputable def spec_l1Rd_next (a0 : List Int) (a1 : Int) : Option (Int × (List Int) × Int) :=
  bif decide (a1 ≥ (↑a0.length : Int)) then some (0, a0, a1) else bif decide (0 ≤ IntKind.i64.wrap (IntKind.i64.wrap (a1 + 1) - 1)) then bif decide (IntKind.i64.wrap (IntKind.i64.wrap (a1 + 1) - 1) < (↑a0.length : Int)) then some (IntKind.i64.wrap (rd (Kind.int IntKind.u8) a0 (IntKind.i64.wrap (IntKind.i64.wrap (a1 + 1) - 1))), a0, IntKind.i64.wrap (a1 + 1)) else none else none
noncomputable def g_spec_l1Rd_next : Sg := ⟨i_spec_l1Rd_next, o_spec_l1Rd_next, Int × (List Int) × Int, fun y => ((y.1, ()), ((y.2.1, y.2.2, ()), ())), fun x => spec_l1Rd_next x.2.1.1 x.2.1.2.1⟩
noncomputable def C_spec_l1Rd_next : Ctx := ⟨32, tiOf Tryz.prog, gl, sgOf [], []⟩
theorem e_spec_l1Rd_next : Sound Tryz.prog gl 180 g_spec_l1Rd_next :=
  sound_plain (C := C_spec_l1Rd_next) ⟨fun _ _ h => h, by kernel_rfl⟩ (sgOf_all' trivial) 180 Tryz.f180 g_spec_l1Rd_next (fun y => (y.1.1, y.2.1.1, y.2.1.2.1)) (by kernel_rfl) (by kernel_rfl) (by kernel_rfl) (by kernel_rfl) (by kernel_rfl) (by kernel_rfl) (fun _ => rfl) (fun x => by kernel_rfl)
-- (*loop.example/g00051/spec.l1Rd).below
noncomputable def i_spec_l1Rd_below : Shape := ⟨[(0, .c (.ptr 0 0)), (1, .c (.int .i64))], [.box 164 [.sl (.int .u8), .int .i64]]⟩
noncomputable def o_spec_l1Rd_below : Shape := ⟨[(0, .c (.int .i64))], [.box 164 [.sl (.int .u8), .int .i64]]⟩
noncomputable def spec_l1Rd_below (a0 : Int) (a1 : List Int) (a2 : Int) : Option (Int × (List Int) × Int) :=
  bif decide (a0 ≤ 1) then some (0, a1, a2) else bif decide (a0 ≤ 256) then (spec_l1Rd_next a1 a2).bind fun val => bif !decide (a0 = 0) then some (val.fst.tmod a0, val.snd.fst, val.snd.snd) else none else (spec_l1Rd_next a1 a2).bind fun val => (spec_l1Rd_next val.snd.fst val.snd.snd).bind fun val_1 => bif !decide (a0 = 0) then some ((IntKind.i64.wrap (IntKind.i64.wrap (val.fst * 256) + val_1.fst)).tmod a0, val_1.snd.fst, val_1.snd.snd) else none
noncomputable def g_spec_l1Rd_below : Sg := ⟨i_spec_l1Rd_below, o_spec_l1Rd_below, Int × (List Int) × Int, fun y => ((y.1, ()), ((y.2.1, y.2.2, ()), ())), fun x => spec_l1Rd_below x.1.2.1 x.2.1.1 x.2.1.2.1⟩
noncomputable def C_spec_l1Rd_below : Ctx := ⟨24, tiOf Tryz.prog, gl, sgOf [(180, g_spec_l1Rd_next)], []⟩
theorem e_spec_l1Rd_below : Sound Tryz.prog gl 89 g_spec_l1Rd_below :=
  sound_plain (C := C_spec_l1Rd_below) ⟨fun _ _ h => h, by kernel_rfl⟩ (sgOf_all' ⟨.inl ⟨by kernel_rfl, e_spec_l1Rd_next⟩, trivial⟩) 89 Tryz.f89 g_spec_l1Rd_below (fun y => (y.1.1, y.2.1.1, y.2.1.2.1)) (by kernel_rfl) (by kernel_rfl) (by kernel_rfl) (by kernel_rfl) (by kernel_rfl) (by kernel_rfl) (fun _ => rfl) (fun x => by kernel_rfl)
-- (*loop.example/g00051/spec.l1Rd).once
noncomputable def i_spec_l1Rd_once : Shape := ⟨[(0, .c (.ptr 0 0)), (1, .c (.int .i64))], [.box 164 [.sl (.int .u8), .int .i64]]⟩
noncomputable def o_spec_l1Rd_once : Shape := ⟨[(0, .c (.bool))], [.box 164 [.sl (.int .u8), .int .i64]]⟩
noncomputable def spec_l1Rd_once (a0 : Int) (a1 : List Int) (a2 : Int) : Option (Bool × (List Int) × Int) :=
  (spec_l1Rd_below a0 a1 a2).bind fun val => some (val.fst == IntKind.i64.wrap (a0 - 1), val.snd.fst, val.snd.snd)
noncomputable def g_spec_l1Rd_once : Sg := ⟨i_spec_l1Rd_once, o_spec_l1Rd_once, Bool × (List Int) × Int, fun y => ((y.1, ()), ((y.2.1, y.2.2, ()), ())), fun x => spec_l1Rd_once x.1.2.1 x.2.1.1 x.2.1.2.1⟩
noncomputable def C_spec_l1Rd_once : Ctx := ⟨11, tiOf Tryz.prog, gl, sgOf [(89, g_spec_l1Rd_below)], []⟩
theorem e_spec_l1Rd_once : Sound Tryz.prog gl 90 g_spec_l1Rd_once :=
  sound_plain (C := C_spec_l1Rd_once) ⟨fun _ _ h => h, by kernel_rfl⟩ (sgOf_all' ⟨.inl ⟨by kernel_rfl, e_spec_l1Rd_below⟩, trivial⟩) 90 Tryz.f90 g_spec_l1Rd_once (fun y => (y.1.1, y.2.1.1, y.2.1.2.1)) (by kernel_rfl) (by kernel_rfl) (by kernel_rfl) (by kernel_rfl) (by kernel_rfl) (by kernel_rfl) (fun _ => rfl) (fun x => by kernel_rfl)
end Go.Proofs.YtondfjckadlabaaGreatDoor.DR
