/-
  Part of a proof by the engine: texts that a program of ours printed, or plain lemmas on them. No condition but what each theorem says.
-/
import Derived.Test.YtondfjckadlabaaGreatDoorDT
import Derived.Test.YtondfjckadlabaaGreatDoorEng5
import Derived.Test.YtondfjckadlabaaGreatDoorProg
import Derived.KernelRfl
import Derived.Test.YtondfjckadlabaaGreatDoorDoors1
import Derived.Test.YtondfjckadlabaaGreatDoorDoors2
import Derived.Test.YtondfjckadlabaaGreatDoorDoors5
import Derived.Test.YtondfjckadlabaaGreatDoorDoors6
set_option linter.unusedVariables false
set_option linter.unusedSimpArgs false
set_option maxRecDepth 100000
namespace Go.Proofs.YtondfjckadlabaaGreatDoor.NU
open Go Go.Eng Go.Proofs
open Go.Proofs.YtondfjckadlabaaGreatDoor.EX
open Go.Proofs.YtondfjckadlabaaGreatDoor.DT hiding gl
noncomputable def gl : Nat → Option (List Cell) := glOf [(5, L_strconv_uint64pow10.map (Cell.int .u64))]
theorem gl_DT : ∀ g cs, Go.Proofs.YtondfjckadlabaaGreatDoor.DT.gl g = some cs → gl g = some cs := glOf_mono (by intro p hp; simp only [List.mem_cons, List.not_mem_nil, or_false] at hp; subst hp <;> rfl)
-- loop.example/g00051/spec.l1Digit
noncomputable def i_spec_l1Digit : Shape := ⟨[(0, .c (.int .u8))], []⟩
noncomputable def o_spec_l1Digit : Shape := ⟨[(0, .c (.bool))], []⟩
noncomputable def spec_l1Digit (a0 : Int) : Option (Bool) :=
  bif decide (a0 ≥ 48) then some (decide (a0 ≤ 57)) else some false
noncomputable def g_spec_l1Digit : Sg := ⟨i_spec_l1Digit, o_spec_l1Digit, Bool, fun y => ((y, ()), ()), fun x => spec_l1Digit x.1.1⟩
noncomputable def C_spec_l1Digit : Ctx := ⟨9, tiOf Tryz.prog, gl, sgOf [], []⟩
noncomputable def r_spec_l1Digit : AExit → Env → Option (Bool) := retK C_spec_l1Digit 0 o_spec_l1Digit (fun y => y.1.1) Tryz.f174.results.toList
theorem e_spec_l1Digit : Sound Tryz.prog gl 174 g_spec_l1Digit :=
  sound_plain (C := C_spec_l1Digit) ⟨fun _ _ h => h, by kernel_rfl⟩ (sgOf_all' trivial) 174 Tryz.f174 g_spec_l1Digit (fun y => y.1.1) (by kernel_rfl) (by kernel_rfl) (by kernel_rfl) (by kernel_rfl) (by kernel_rfl) (by kernel_rfl) (fun _ => rfl) (fun x => by kernel_rfl)
-- loop.example/g00051/spec.l2Number
noncomputable def i_spec_l2Number : Shape := ⟨[(0, .c (.str))], []⟩
noncomputable def o_spec_l2Number : Shape := ⟨[(0, .c (.int .i64))], []⟩
noncomputable def s_spec_l2Number_5 : Shape := ⟨[(0, .c (.str)), (3, .c (.int .i64)), (4, .c (.int .i64))], []⟩
noncomputable def spec_l2Number_L5 : Nat → ByteArray → Int → Int → Option (Int)
  | 0, _, _, _ => none
  | k + 1, a0, a1, a2 =>
  bif decide (a2 < (↑a0.size : Int)) then bif decide (0 ≤ a2) then bif decide (a2 < (↑a0.size : Int)) then (spec_l1Digit (bt a0 a2)).bind fun val => bif !val then some (-1) else bif decide (0 ≤ a2) then bif decide (a2 < (↑a0.size : Int)) then spec_l2Number_L5 k a0 (IntKind.i64.wrap (IntKind.i64.wrap (a1 * 10) + IntKind.i64.wrap (IntKind.u8.wrap (bt a0 a2 - 48)))) (IntKind.i64.wrap (a2 + 1)) else none else none else none else none else some a1
noncomputable def j_spec_l2Number : List (Nat × (Nat → Cut (Int))) := [(5, fun k => ⟨s_spec_l2Number_5, fun x => spec_l2Number_L5 k x.1.1 x.1.2.1 x.1.2.2.1⟩)]
noncomputable def spec_l2Number_F (k : Nat) (a0 : ByteArray) : Option (Int) :=
  bif (↑a0.size : Int) == 0 then some (-1) else bif decide ((↑a0.size : Int) > 15) then some (-1) else spec_l2Number_L5 k a0 0 0
noncomputable def spec_l2Number (a0 : ByteArray) : Option (Int) := evF fun k => spec_l2Number_F k a0
noncomputable def g_spec_l2Number : Sg := ⟨i_spec_l2Number, o_spec_l2Number, Int, fun y => ((y, ()), ()), fun x => spec_l2Number x.1.1⟩
noncomputable def C_spec_l2Number : Ctx := ⟨33, tiOf Tryz.prog, gl, sgOf [(174, g_spec_l1Digit)], []⟩
noncomputable def r_spec_l2Number : AExit → Env → Option (Int) := retK C_spec_l2Number 0 o_spec_l2Number (fun y => y.1.1) Tryz.f125.results.toList
theorem e_spec_l2Number : Sound Tryz.prog gl 125 g_spec_l2Number :=
  sound_cuts (C := C_spec_l2Number) ⟨fun _ _ h => h, by kernel_rfl⟩ (sgOf_all' ⟨.inl ⟨by kernel_rfl, e_spec_l1Digit⟩, trivial⟩) 125 Tryz.f125 g_spec_l2Number (fun y => y.1.1) j_spec_l2Number 1 (by kernel_rfl) (by kernel_rfl) (by kernel_rfl) (by kernel_rfl) (by kernel_rfl) (by kernel_rfl) (fun _ => rfl) (by kernel_rfl) (by kernel_rfl)
    ⟨trivial, s_spec_l2Number_5, fun k x => spec_l2Number_L5 k x.1.1 x.1.2.1 x.1.2.2.1, ⟨fun k => by kernel_rfl, fun k y => by kernel_rfl, fun y => by kernel_rfl⟩⟩
    (fun k x => spec_l2Number_F k x.1.1) (fun x => rfl) (fun k x => by kernel_rfl)
-- loop.example/g00051/spec.l4Pieces
noncomputable def i_spec_l4Pieces : Shape := ⟨[(0, .c (.str))], []⟩
noncomputable def o_spec_l4Pieces : Shape := ⟨[(0, .c (.ref 0))], [.lst 9 .str]⟩
noncomputable def s_spec_l4Pieces_4 : Shape := ⟨[(0, .c (.str)), (3, .c (.ref 0)), (4, .c (.int .i64)), (5, .c (.int .i64))], [.lst 9 .str]⟩
noncomputable def spec_l4Pieces_L4 : Nat → ByteArray → Int → Int → (List ByteArray) → Option ((List ByteArray))
  | 0, _, _, _, _ => none
  | k + 1, a0, a1, a2, a3 =>
  bif decide (a2 ≤ (↑a0.size : Int)) then bif a2 == (↑a0.size : Int) then bif decide (0 ≤ a2) && decide (a2 ≤ (↑a0.size : Int)) then bif decide (0 ≤ a1) && decide (a1 ≤ a2) then bif decide (a3.length + [a0.extract a1.toNat a2.toNat].length ≤ maxBytes / 16) then spec_l4Pieces_L4 k a0 (IntKind.i64.wrap (a2 + 1)) (IntKind.i64.wrap (a2 + 1)) (a3 ++ [a0.extract a1.toNat a2.toNat]) else none else none else none else bif decide (0 ≤ a2) then bif decide (a2 < (↑a0.size : Int)) then bif bt a0 a2 == 32 then bif decide (0 ≤ a2) && decide (a2 ≤ (↑a0.size : Int)) then bif decide (0 ≤ a1) && decide (a1 ≤ a2) then bif decide (a3.length + [a0.extract a1.toNat a2.toNat].length ≤ maxBytes / 16) then spec_l4Pieces_L4 k a0 (IntKind.i64.wrap (a2 + 1)) (IntKind.i64.wrap (a2 + 1)) (a3 ++ [a0.extract a1.toNat a2.toNat]) else none else none else none else spec_l4Pieces_L4 k a0 a1 (IntKind.i64.wrap (a2 + 1)) a3 else none else none else some a3
noncomputable def j_spec_l4Pieces : List (Nat × (Nat → Cut ((List ByteArray)))) := [(4, fun k => ⟨s_spec_l4Pieces_4, fun x => spec_l4Pieces_L4 k x.1.1 x.1.2.2.1 x.1.2.2.2.1 x.2.1⟩)]
noncomputable def spec_l4Pieces_F (k : Nat) (a0 : ByteArray) : Option ((List ByteArray)) :=
  spec_l4Pieces_L4 k a0 0 0 []
noncomputable def spec_l4Pieces (a0 : ByteArray) : Option ((List ByteArray)) := evF fun k => spec_l4Pieces_F k a0
noncomputable def g_spec_l4Pieces : Sg := ⟨i_spec_l4Pieces, o_spec_l4Pieces, (List ByteArray), fun y => (((), ()), (y, ())), fun x => spec_l4Pieces x.1.1⟩
noncomputable def C_spec_l4Pieces : Ctx := ⟨33, tiOf Tryz.prog, gl, sgOf [], []⟩
noncomputable def r_spec_l4Pieces : AExit → Env → Option ((List ByteArray)) := retK C_spec_l4Pieces 0 o_spec_l4Pieces (fun y => y.2.1) Tryz.f50.results.toList
theorem e_spec_l4Pieces : Sound Tryz.prog gl 50 g_spec_l4Pieces :=
  sound_cuts (C := C_spec_l4Pieces) ⟨fun _ _ h => h, by kernel_rfl⟩ (sgOf_all' trivial) 50 Tryz.f50 g_spec_l4Pieces (fun y => y.2.1) j_spec_l4Pieces 1 (by kernel_rfl) (by kernel_rfl) (by kernel_rfl) (by kernel_rfl) (by kernel_rfl) (by kernel_rfl) (fun _ => rfl) (by kernel_rfl) (by kernel_rfl)
    ⟨trivial, s_spec_l4Pieces_4, fun k x => spec_l4Pieces_L4 k x.1.1 x.1.2.2.1 x.1.2.2.2.1 x.2.1, ⟨fun k => by kernel_rfl, fun k y => by kernel_rfl, fun y => by kernel_rfl⟩⟩
    (fun k x => spec_l4Pieces_F k x.1.1) (fun x => rfl) (fun k x => by kernel_rfl)
-- loop.example/g00051/impl.whole
noncomputable def i_impl_whole : Shape := ⟨[(0, .c (.str))], []⟩
noncomputable def o_impl_whole : Shape := ⟨[(0, .c (.int .i64))], []⟩
noncomputable def impl_whole (a0 : ByteArray) : Option (Int) :=
  (dPar a0 10 64).bind fun val => some val
noncomputable def g_impl_whole : Sg := ⟨i_impl_whole, o_impl_whole, Int, fun y => ((y, ()), ()), fun x => impl_whole x.1.1⟩
noncomputable def C_impl_whole : Ctx := ⟨11, tiOf Tryz.prog, gl, sgOf [(194, gPar)], []⟩
noncomputable def r_impl_whole : AExit → Env → Option (Int) := retK C_impl_whole 0 o_impl_whole (fun y => y.1.1) Tryz.f132.results.toList
theorem e_impl_whole : Sound Tryz.prog gl 132 g_impl_whole :=
  sound_plain (C := C_impl_whole) ⟨fun _ _ h => h, by kernel_rfl⟩ (sgOf_all' ⟨.inl ⟨by kernel_rfl, ePar⟩, trivial⟩) 132 Tryz.f132 g_impl_whole (fun y => y.1.1) (by kernel_rfl) (by kernel_rfl) (by kernel_rfl) (by kernel_rfl) (by kernel_rfl) (by kernel_rfl) (fun _ => rfl) (fun x => by kernel_rfl)
-- loop.example/g00051/spec.l2Right
noncomputable def i_spec_l2Right : Shape := ⟨[(0, .agg [.int .i64, .int .i64, .int .i64, .int .i64, .int .i64])], []⟩
noncomputable def o_spec_l2Right : Shape := ⟨[(0, .c (.bool))], []⟩
noncomputable def spec_l2Right (a0 : Int) (a1 : Int) (a2 : Int) (a3 : Int) (a4 : Int) : Option (Bool) :=
  bif a0 == 2100 && (a1 == 1 && (a2 == 1 && (a3 == 0 && a4 == 0))) then some true else (spec_l2In a0 2000 2099).bind fun val => bif val then (spec_l2In a1 1 12).bind fun val => bif val then (spec_l2Days a0 a1).bind fun val => (spec_l2In a2 1 val).bind fun val => bif val then (spec_l2In a3 0 23).bind fun val => bif val then (spec_l2In a4 0 59).bind fun val => some val else some false else some false else some false else some false
noncomputable def g_spec_l2Right : Sg := ⟨i_spec_l2Right, o_spec_l2Right, Bool, fun y => ((y, ()), ()), fun x => spec_l2Right x.1.1.1 x.1.1.2.1 x.1.1.2.2.1 x.1.1.2.2.2.1 x.1.1.2.2.2.2.1⟩
noncomputable def C_spec_l2Right : Ctx := ⟨34, tiOf Tryz.prog, gl, sgOf [(77, g_spec_l2In), (223, g_spec_l2Days)], []⟩
noncomputable def r_spec_l2Right : AExit → Env → Option (Bool) := retK C_spec_l2Right 0 o_spec_l2Right (fun y => y.1.1) Tryz.f249.results.toList
theorem e_spec_l2Right : Sound Tryz.prog gl 249 g_spec_l2Right :=
  sound_plain (C := C_spec_l2Right) ⟨fun _ _ h => h, by kernel_rfl⟩ (sgOf_all' ⟨.inl ⟨by kernel_rfl, (Sound.mono gl_DT (by rfl) e_spec_l2In)⟩, .inl ⟨by kernel_rfl, (Sound.mono gl_DT (by rfl) e_spec_l2Days)⟩, trivial⟩) 249 Tryz.f249 g_spec_l2Right (fun y => y.1.1) (by kernel_rfl) (by kernel_rfl) (by kernel_rfl) (by kernel_rfl) (by kernel_rfl) (by kernel_rfl) (fun _ => rfl) (fun x => by kernel_rfl)
-- loop.example/g00051/spec.TimeOf
noncomputable def i_spec_TimeOf : Shape := ⟨[(0, .agg [.int .i64, .int .i64, .int .i64, .int .i64, .int .i64])], []⟩
noncomputable def o_spec_TimeOf : Shape := ⟨[(0, .tup [(false, [.int .i64]), (false, [.bool])])], []⟩
noncomputable def s_spec_TimeOf_5 : Shape := ⟨[(1, .c (.ptr 0 0)), (4, .c (.int .i64)), (5, .c (.int .i64))], [.box 166 [.int .i64, .int .i64, .int .i64, .int .i64, .int .i64]]⟩
noncomputable def s_spec_TimeOf_8 : Shape := ⟨[(1, .c (.ptr 0 0)), (4, .c (.int .i64)), (5, .c (.int .i64)), (6, .c (.int .i64))], [.box 166 [.int .i64, .int .i64, .int .i64, .int .i64, .int .i64]]⟩
noncomputable def s_spec_TimeOf_12 : Shape := ⟨[(1, .c (.ptr 0 0)), (4, .c (.int .i64)), (7, .c (.int .i64))], [.box 166 [.int .i64, .int .i64, .int .i64, .int .i64, .int .i64]]⟩
mutual
noncomputable def spec_TimeOf_L5 : Nat → Int → Int → Int → Int → Int → Int → Int → Option (Int × Bool)
  | 0, _, _, _, _, _, _, _ => none
  | k + 1, a0, a1, a2, a3, a4, a5, a6 =>
  bif decide (a1 < a2) then spec_TimeOf_L8 k a0 a1 1 a2 a3 a4 a5 a6 else spec_TimeOf_L12 k a0 1 a2 a3 a4 a5 a6
noncomputable def spec_TimeOf_L8 : Nat → Int → Int → Int → Int → Int → Int → Int → Int → Option (Int × Bool)
  | 0, _, _, _, _, _, _, _, _ => none
  | k + 1, a0, a1, a2, a3, a4, a5, a6, a7 =>
  bif decide (a2 ≤ 12) then (spec_l2Days a1 a2).bind fun val => spec_TimeOf_L8 k (IntKind.i64.wrap (a0 + val)) a1 (IntKind.i64.wrap (a2 + 1)) a3 a4 a5 a6 a7 else spec_TimeOf_L5 k a0 (IntKind.i64.wrap (a1 + 1)) a3 a4 a5 a6 a7
noncomputable def spec_TimeOf_L12 : Nat → Int → Int → Int → Int → Int → Int → Int → Option (Int × Bool)
  | 0, _, _, _, _, _, _, _ => none
  | k + 1, a0, a1, a2, a3, a4, a5, a6 =>
  bif decide (a1 < a3) then (spec_l2Days a2 a1).bind fun val => spec_TimeOf_L12 k (IntKind.i64.wrap (a0 + val)) (IntKind.i64.wrap (a1 + 1)) a2 a3 a4 a5 a6 else some (IntKind.i64.wrap (IntKind.i64.wrap (IntKind.i64.wrap (IntKind.i64.wrap (IntKind.i64.wrap (IntKind.i64.wrap (a0 + a4) - 1) * 24) + a5) * 60) + a6), true)
end
noncomputable def j_spec_TimeOf : List (Nat × (Nat → Cut (Int × Bool))) := [(5, fun k => ⟨s_spec_TimeOf_5, fun x => spec_TimeOf_L5 k x.1.2.1 x.1.2.2.1 x.2.1.1 x.2.1.2.1 x.2.1.2.2.1 x.2.1.2.2.2.1 x.2.1.2.2.2.2.1⟩), (8, fun k => ⟨s_spec_TimeOf_8, fun x => spec_TimeOf_L8 k x.1.2.1 x.1.2.2.1 x.1.2.2.2.1 x.2.1.1 x.2.1.2.1 x.2.1.2.2.1 x.2.1.2.2.2.1 x.2.1.2.2.2.2.1⟩), (12, fun k => ⟨s_spec_TimeOf_12, fun x => spec_TimeOf_L12 k x.1.2.1 x.1.2.2.1 x.2.1.1 x.2.1.2.1 x.2.1.2.2.1 x.2.1.2.2.2.1 x.2.1.2.2.2.2.1⟩)]
noncomputable def spec_TimeOf_F (k : Nat) (a0 : Int) (a1 : Int) (a2 : Int) (a3 : Int) (a4 : Int) : Option (Int × Bool) :=
  (spec_l2Right a0 a1 a2 a3 a4).bind fun val => bif !val then some (0, false) else spec_TimeOf_L5 k 0 2000 a0 a1 a2 a3 a4
noncomputable def spec_TimeOf (a0 : Int) (a1 : Int) (a2 : Int) (a3 : Int) (a4 : Int) : Option (Int × Bool) := evF fun k => spec_TimeOf_F k a0 a1 a2 a3 a4
noncomputable def g_spec_TimeOf : Sg := ⟨i_spec_TimeOf, o_spec_TimeOf, Int × Bool, fun y => ((((y.1, ()), (y.2, ()), ()), ()), ()), fun x => spec_TimeOf x.1.1.1 x.1.1.2.1 x.1.1.2.2.1 x.1.1.2.2.2.1 x.1.1.2.2.2.2.1⟩
noncomputable def C_spec_TimeOf : Ctx := ⟨51, tiOf Tryz.prog, gl, sgOf [(249, g_spec_l2Right), (223, g_spec_l2Days)], []⟩
noncomputable def r_spec_TimeOf : AExit → Env → Option (Int × Bool) := retK C_spec_TimeOf 0 o_spec_TimeOf (fun y => (y.1.1.1.1, y.1.1.2.1.1)) Tryz.f214.results.toList
theorem e_spec_TimeOf : Sound Tryz.prog gl 214 g_spec_TimeOf :=
  sound_cuts (C := C_spec_TimeOf) ⟨fun _ _ h => h, by kernel_rfl⟩ (sgOf_all' ⟨.inl ⟨by kernel_rfl, e_spec_l2Right⟩, .inl ⟨by kernel_rfl, (Sound.mono gl_DT (by rfl) e_spec_l2Days)⟩, trivial⟩) 214 Tryz.f214 g_spec_TimeOf (fun y => (y.1.1.1.1, y.1.1.2.1.1)) j_spec_TimeOf 3 (by kernel_rfl) (by kernel_rfl) (by kernel_rfl) (by kernel_rfl) (by kernel_rfl) (by kernel_rfl) (fun _ => rfl) (by kernel_rfl) (by kernel_rfl)
    ⟨⟨⟨trivial, s_spec_TimeOf_5, fun k x => spec_TimeOf_L5 k x.1.2.1 x.1.2.2.1 x.2.1.1 x.2.1.2.1 x.2.1.2.2.1 x.2.1.2.2.2.1 x.2.1.2.2.2.2.1, ⟨fun k => by kernel_rfl, fun k y => by kernel_rfl, fun y => by kernel_rfl⟩⟩, s_spec_TimeOf_8, fun k x => spec_TimeOf_L8 k x.1.2.1 x.1.2.2.1 x.1.2.2.2.1 x.2.1.1 x.2.1.2.1 x.2.1.2.2.1 x.2.1.2.2.2.1 x.2.1.2.2.2.2.1, ⟨fun k => by kernel_rfl, fun k y => by kernel_rfl, fun y => by kernel_rfl⟩⟩, s_spec_TimeOf_12, fun k x => spec_TimeOf_L12 k x.1.2.1 x.1.2.2.1 x.2.1.1 x.2.1.2.1 x.2.1.2.2.1 x.2.1.2.2.2.1 x.2.1.2.2.2.2.1, ⟨fun k => by kernel_rfl, fun k y => by kernel_rfl, fun y => by kernel_rfl⟩⟩
    (fun k x => spec_TimeOf_F k x.1.1.1 x.1.1.2.1 x.1.1.2.2.1 x.1.1.2.2.2.1 x.1.1.2.2.2.2.1) (fun x => rfl) (fun k x => by kernel_rfl)
-- loop.example/g00051/spec.NearDay
noncomputable def i_spec_NearDay : Shape := ⟨[(0, .c (.int .i64)), (1, .c (.int .i64)), (2, .c (.int .i64)), (3, .c (.int .i64))], []⟩
noncomputable def o_spec_NearDay : Shape := ⟨[(0, .tup [(false, [.int .i64]), (false, [.bool])])], []⟩
noncomputable def s_spec_NearDay_6 : Shape := ⟨[(0, .c (.int .i64)), (1, .c (.int .i64)), (2, .c (.int .i64)), (3, .c (.int .i64)), (10, .c (.int .i64)), (11, .c (.ptr 0 0)), (13, .c (.int .i64))], [.box 166 [.int .i64, .int .i64, .int .i64, .int .i64, .int .i64]]⟩
noncomputable def s_spec_NearDay_9 : Shape := ⟨[(0, .c (.int .i64)), (1, .c (.int .i64)), (2, .c (.int .i64)), (3, .c (.int .i64)), (10, .c (.int .i64)), (11, .c (.ptr 0 0)), (13, .c (.int .i64)), (14, .c (.int .i64))], [.box 166 [.int .i64, .int .i64, .int .i64, .int .i64, .int .i64]]⟩
mutual
noncomputable def spec_NearDay_L6 : Nat → Int → Int → Int → Int → Int → Int → Int → Int → Int → Int → Int → Option (Int × Bool)
  | 0, _, _, _, _, _, _, _, _, _, _, _ => none
  | k + 1, a0, a1, a2, a3, a4, a5, a6, a7, a8, a9, a10 =>
  bif decide (a5 ≤ IntKind.i64.wrap (a6 + 1)) then spec_NearDay_L9 k a0 a1 a2 a3 a4 a5 1 a6 a7 a8 a9 a10 else bif decide (a4 < 0) then some (0, false) else some (a4, true)
noncomputable def spec_NearDay_L9 : Nat → Int → Int → Int → Int → Int → Int → Int → Int → Int → Int → Int → Int → Option (Int × Bool)
  | 0, _, _, _, _, _, _, _, _, _, _, _, _ => none
  | k + 1, a0, a1, a2, a3, a4, a5, a6, a7, a8, a9, a10, a11 =>
  bif decide (a6 ≤ 12) then
   (spec_TimeOf a5 a6 a0 (a1.tmod 24) a2).bind fun val =>
    bif !val.snd then spec_NearDay_L9 k a0 a1 a2 a3 a4 a5 (IntKind.i64.wrap (a6 + 1)) a7 a8 a9 a10 a11
    else
     bif a1 == 24 then (spec_l2Time (IntKind.i64.wrap (val.fst + 1440))).bind fun val_1 => bif val_1 then bif decide (a4 < 0) then spec_NearDay_L9 k a0 a1 a2 a3 (IntKind.i64.wrap (val.fst + 1440)) a5 (IntKind.i64.wrap (a6 + 1)) a7 a8 a9 a10 a11 else bif decide ((if IntKind.i64.wrap (a3 - IntKind.i64.wrap (val.fst + 1440)) > IntKind.i64.wrap (IntKind.i64.wrap (val.fst + 1440) - a3) then IntKind.i64.wrap (a3 - IntKind.i64.wrap (val.fst + 1440)) else IntKind.i64.wrap (IntKind.i64.wrap (val.fst + 1440) - a3)) < if IntKind.i64.wrap (a3 - a4) > IntKind.i64.wrap (a4 - a3) then IntKind.i64.wrap (a3 - a4) else IntKind.i64.wrap (a4 - a3)) then spec_NearDay_L9 k a0 a1 a2 a3 (IntKind.i64.wrap (val.fst + 1440)) a5 (IntKind.i64.wrap (a6 + 1)) a7 a8 a9 a10 a11 else spec_NearDay_L9 k a0 a1 a2 a3 a4 a5 (IntKind.i64.wrap (a6 + 1)) a7 a8 a9 a10 a11 else spec_NearDay_L9 k a0 a1 a2 a3 a4 a5 (IntKind.i64.wrap (a6 + 1)) a7 a8 a9 a10 a11
     else (spec_l2Time val.fst).bind fun val_1 => bif val_1 then bif decide (a4 < 0) then spec_NearDay_L9 k a0 a1 a2 a3 val.fst a5 (IntKind.i64.wrap (a6 + 1)) a7 a8 a9 a10 a11 else bif decide ((if IntKind.i64.wrap (a3 - val.fst) > IntKind.i64.wrap (val.fst - a3) then IntKind.i64.wrap (a3 - val.fst) else IntKind.i64.wrap (val.fst - a3)) < if IntKind.i64.wrap (a3 - a4) > IntKind.i64.wrap (a4 - a3) then IntKind.i64.wrap (a3 - a4) else IntKind.i64.wrap (a4 - a3)) then spec_NearDay_L9 k a0 a1 a2 a3 val.fst a5 (IntKind.i64.wrap (a6 + 1)) a7 a8 a9 a10 a11 else spec_NearDay_L9 k a0 a1 a2 a3 a4 a5 (IntKind.i64.wrap (a6 + 1)) a7 a8 a9 a10 a11 else spec_NearDay_L9 k a0 a1 a2 a3 a4 a5 (IntKind.i64.wrap (a6 + 1)) a7 a8 a9 a10 a11
  else spec_NearDay_L6 k a0 a1 a2 a3 a4 (IntKind.i64.wrap (a5 + 1)) a7 a8 a9 a10 a11
end
noncomputable def j_spec_NearDay : List (Nat × (Nat → Cut (Int × Bool))) := [(6, fun k => ⟨s_spec_NearDay_6, fun x => spec_NearDay_L6 k x.1.1 x.1.2.1 x.1.2.2.1 x.1.2.2.2.1 x.1.2.2.2.2.1 x.1.2.2.2.2.2.2.1 x.2.1.1 x.2.1.2.1 x.2.1.2.2.1 x.2.1.2.2.2.1 x.2.1.2.2.2.2.1⟩), (9, fun k => ⟨s_spec_NearDay_9, fun x => spec_NearDay_L9 k x.1.1 x.1.2.1 x.1.2.2.1 x.1.2.2.2.1 x.1.2.2.2.2.1 x.1.2.2.2.2.2.2.1 x.1.2.2.2.2.2.2.2.1 x.2.1.1 x.2.1.2.1 x.2.1.2.2.1 x.2.1.2.2.2.1 x.2.1.2.2.2.2.1⟩)]
noncomputable def spec_NearDay_F (k : Nat) (a0 : Int) (a1 : Int) (a2 : Int) (a3 : Int) : Option (Int × Bool) :=
  (spec_l2Time a3).bind fun val => bif !val then some (0, false) else (spec_l2In a0 1 31).bind fun val => bif !val then some (0, false) else (spec_l2In a1 0 24).bind fun val => bif !val then some (0, false) else (spec_l2In a2 0 59).bind fun val => bif !val then some (0, false) else bif a1 == 24 then bif a2 != 0 then some (0, false) else (spec_DateOf a3).bind fun val => spec_NearDay_L6 k a0 a1 a2 a3 (-1) (IntKind.i64.wrap (val.fst - 1)) val.fst val.snd.fst val.snd.snd.fst val.snd.snd.snd.fst val.snd.snd.snd.snd.fst else (spec_DateOf a3).bind fun val => spec_NearDay_L6 k a0 a1 a2 a3 (-1) (IntKind.i64.wrap (val.fst - 1)) val.fst val.snd.fst val.snd.snd.fst val.snd.snd.snd.fst val.snd.snd.snd.snd.fst
noncomputable def spec_NearDay (a0 : Int) (a1 : Int) (a2 : Int) (a3 : Int) : Option (Int × Bool) := evF fun k => spec_NearDay_F k a0 a1 a2 a3
noncomputable def g_spec_NearDay : Sg := ⟨i_spec_NearDay, o_spec_NearDay, Int × Bool, fun y => ((((y.1, ()), (y.2, ()), ()), ()), ()), fun x => spec_NearDay x.1.1 x.1.2.1 x.1.2.2.1 x.1.2.2.2.1⟩
noncomputable def C_spec_NearDay : Ctx := ⟨106, tiOf Tryz.prog, gl, sgOf [(75, g_spec_l2Time), (77, g_spec_l2In), (187, g_spec_DateOf), (214, g_spec_TimeOf)], []⟩
noncomputable def r_spec_NearDay : AExit → Env → Option (Int × Bool) := retK C_spec_NearDay 0 o_spec_NearDay (fun y => (y.1.1.1.1, y.1.1.2.1.1)) Tryz.f155.results.toList
theorem e_spec_NearDay : Sound Tryz.prog gl 155 g_spec_NearDay :=
  sound_cuts (C := C_spec_NearDay) ⟨fun _ _ h => h, by kernel_rfl⟩ (sgOf_all' ⟨.inl ⟨by kernel_rfl, (Sound.mono gl_DT (by rfl) e_spec_l2Time)⟩, .inl ⟨by kernel_rfl, (Sound.mono gl_DT (by rfl) e_spec_l2In)⟩, .inl ⟨by kernel_rfl, (Sound.mono gl_DT (by rfl) e_spec_DateOf)⟩, .inl ⟨by kernel_rfl, e_spec_TimeOf⟩, trivial⟩) 155 Tryz.f155 g_spec_NearDay (fun y => (y.1.1.1.1, y.1.1.2.1.1)) j_spec_NearDay 2 (by kernel_rfl) (by kernel_rfl) (by kernel_rfl) (by kernel_rfl) (by kernel_rfl) (by kernel_rfl) (fun _ => rfl) (by kernel_rfl) (by kernel_rfl)
    ⟨⟨trivial, s_spec_NearDay_6, fun k x => spec_NearDay_L6 k x.1.1 x.1.2.1 x.1.2.2.1 x.1.2.2.2.1 x.1.2.2.2.2.1 x.1.2.2.2.2.2.2.1 x.2.1.1 x.2.1.2.1 x.2.1.2.2.1 x.2.1.2.2.2.1 x.2.1.2.2.2.2.1, ⟨fun k => by kernel_rfl, fun k y => by kernel_rfl, fun y => by kernel_rfl⟩⟩, s_spec_NearDay_9, fun k x => spec_NearDay_L9 k x.1.1 x.1.2.1 x.1.2.2.1 x.1.2.2.2.1 x.1.2.2.2.2.1 x.1.2.2.2.2.2.2.1 x.1.2.2.2.2.2.2.2.1 x.2.1.1 x.2.1.2.1 x.2.1.2.2.1 x.2.1.2.2.2.1 x.2.1.2.2.2.2.1, ⟨fun k => by kernel_rfl, fun k y => by kernel_rfl, fun y => by kernel_rfl⟩⟩
    (fun k x => spec_NearDay_F k x.1.1 x.1.2.1 x.1.2.2.1 x.1.2.2.2.1) (fun x => rfl) (fun k x => by kernel_rfl)
-- loop.example/g00051/impl.NearDay
noncomputable def i_impl_NearDay : Shape := ⟨[(0, .c (.int .i64)), (1, .c (.int .i64)), (2, .c (.int .i64)), (3, .c (.int .i64))], []⟩
noncomputable def o_impl_NearDay : Shape := ⟨[(0, .tup [(false, [.int .i64]), (false, [.bool])])], []⟩
noncomputable def s_impl_NearDay_5 : Shape := ⟨[(0, .c (.int .i64)), (1, .c (.int .i64)), (2, .c (.int .i64)), (3, .c (.int .i64)), (10, .c (.int .i64)), (11, .c (.bool)), (12, .c (.int .i64))], []⟩
noncomputable def s_impl_NearDay_8 : Shape := ⟨[(0, .c (.int .i64)), (1, .c (.int .i64)), (2, .c (.int .i64)), (3, .c (.int .i64)), (10, .c (.int .i64)), (11, .c (.bool)), (12, .c (.int .i64)), (13, .c (.int .i64))], []⟩
mutual
noncomputable def impl_NearDay_L5 : Nat → Int → Int → Int → Int → Int → Bool → Int → Option (Int × Bool)
  | 0, _, _, _, _, _, _, _ => none
  | k + 1, a0, a1, a2, a3, a4, a5, a6 =>
  bif decide (a6 ≤ 2100) then impl_NearDay_L8 k a0 a1 a2 a3 a4 a5 a6 1 else some (a4, a5)
noncomputable def impl_NearDay_L8 : Nat → Int → Int → Int → Int → Int → Bool → Int → Int → Option (Int × Bool)
  | 0, _, _, _, _, _, _, _, _ => none
  | k + 1, a0, a1, a2, a3, a4, a5, a6, a7 =>
  bif decide (a7 ≤ 12) then
   (impl_monthDays a6 a7).bind fun val => bif decide (a0 > val) then impl_NearDay_L8 k a0 a1 a2 a3 a4 a5 a6 (IntKind.i64.wrap (a7 + 1)) else (impl_daysTo a6 a7 a0).bind fun val => (impl_isTime (IntKind.i64.wrap (IntKind.i64.wrap (IntKind.i64.wrap (val * 1440) + IntKind.i64.wrap (a1 * 60)) + a2))).bind fun val_1 => bif !val_1 then impl_NearDay_L8 k a0 a1 a2 a3 a4 a5 a6 (IntKind.i64.wrap (a7 + 1)) else bif !a5 then impl_NearDay_L8 k a0 a1 a2 a3 (IntKind.i64.wrap (IntKind.i64.wrap (IntKind.i64.wrap (val * 1440) + IntKind.i64.wrap (a1 * 60)) + a2)) true a6 (IntKind.i64.wrap (a7 + 1)) else bif decide ((if IntKind.i64.wrap (a3 - IntKind.i64.wrap (IntKind.i64.wrap (IntKind.i64.wrap (val * 1440) + IntKind.i64.wrap (a1 * 60)) + a2)) > IntKind.i64.wrap (IntKind.i64.wrap (IntKind.i64.wrap (IntKind.i64.wrap (val * 1440) + IntKind.i64.wrap (a1 * 60)) + a2) - a3) then IntKind.i64.wrap (a3 - IntKind.i64.wrap (IntKind.i64.wrap (IntKind.i64.wrap (val * 1440) + IntKind.i64.wrap (a1 * 60)) + a2)) else IntKind.i64.wrap (IntKind.i64.wrap (IntKind.i64.wrap (IntKind.i64.wrap (val * 1440) + IntKind.i64.wrap (a1 * 60)) + a2) - a3)) < if IntKind.i64.wrap (a3 - a4) > IntKind.i64.wrap (a4 - a3) then IntKind.i64.wrap (a3 - a4) else IntKind.i64.wrap (a4 - a3)) then impl_NearDay_L8 k a0 a1 a2 a3 (IntKind.i64.wrap (IntKind.i64.wrap (IntKind.i64.wrap (val * 1440) + IntKind.i64.wrap (a1 * 60)) + a2)) true a6 (IntKind.i64.wrap (a7 + 1)) else impl_NearDay_L8 k a0 a1 a2 a3 a4 a5 a6 (IntKind.i64.wrap (a7 + 1))
  else impl_NearDay_L5 k a0 a1 a2 a3 a4 a5 (IntKind.i64.wrap (a6 + 1))
end
noncomputable def j_impl_NearDay : List (Nat × (Nat → Cut (Int × Bool))) := [(5, fun k => ⟨s_impl_NearDay_5, fun x => impl_NearDay_L5 k x.1.1 x.1.2.1 x.1.2.2.1 x.1.2.2.2.1 x.1.2.2.2.2.1 x.1.2.2.2.2.2.1 x.1.2.2.2.2.2.2.1⟩), (8, fun k => ⟨s_impl_NearDay_8, fun x => impl_NearDay_L8 k x.1.1 x.1.2.1 x.1.2.2.1 x.1.2.2.2.1 x.1.2.2.2.2.1 x.1.2.2.2.2.2.1 x.1.2.2.2.2.2.2.1 x.1.2.2.2.2.2.2.2.1⟩)]
noncomputable def impl_NearDay_F (k : Nat) (a0 : Int) (a1 : Int) (a2 : Int) (a3 : Int) : Option (Int × Bool) :=
  (impl_isTime a3).bind fun val => bif !val then some (0, false) else (impl_in a0 1 31).bind fun val => bif !val then some (0, false) else (impl_in a1 0 24).bind fun val => bif !val then some (0, false) else (impl_in a2 0 59).bind fun val => bif !val then some (0, false) else bif a1 == 24 then bif a2 != 0 then some (0, false) else impl_NearDay_L5 k a0 a1 a2 a3 0 false 2000 else impl_NearDay_L5 k a0 a1 a2 a3 0 false 2000
noncomputable def impl_NearDay (a0 : Int) (a1 : Int) (a2 : Int) (a3 : Int) : Option (Int × Bool) := evF fun k => impl_NearDay_F k a0 a1 a2 a3
noncomputable def g_impl_NearDay : Sg := ⟨i_impl_NearDay, o_impl_NearDay, Int × Bool, fun y => ((((y.1, ()), (y.2, ()), ()), ()), ()), fun x => impl_NearDay x.1.1 x.1.2.1 x.1.2.2.1 x.1.2.2.2.1⟩
noncomputable def C_impl_NearDay : Ctx := ⟨89, tiOf Tryz.prog, gl, sgOf [(81, g_impl_isTime), (83, g_impl_in), (218, g_impl_monthDays), (219, g_impl_daysTo)], []⟩
noncomputable def r_impl_NearDay : AExit → Env → Option (Int × Bool) := retK C_impl_NearDay 0 o_impl_NearDay (fun y => (y.1.1.1.1, y.1.1.2.1.1)) Tryz.f163.results.toList
theorem e_impl_NearDay : Sound Tryz.prog gl 163 g_impl_NearDay :=
  sound_cuts (C := C_impl_NearDay) ⟨fun _ _ h => h, by kernel_rfl⟩ (sgOf_all' ⟨.inl ⟨by kernel_rfl, (Sound.mono gl_DT (by rfl) e_impl_isTime)⟩, .inl ⟨by kernel_rfl, (Sound.mono gl_DT (by rfl) e_impl_in)⟩, .inl ⟨by kernel_rfl, (Sound.mono gl_DT (by rfl) e_impl_monthDays)⟩, .inl ⟨by kernel_rfl, (Sound.mono gl_DT (by rfl) e_impl_daysTo)⟩, trivial⟩) 163 Tryz.f163 g_impl_NearDay (fun y => (y.1.1.1.1, y.1.1.2.1.1)) j_impl_NearDay 2 (by kernel_rfl) (by kernel_rfl) (by kernel_rfl) (by kernel_rfl) (by kernel_rfl) (by kernel_rfl) (fun _ => rfl) (by kernel_rfl) (by kernel_rfl)
    ⟨⟨trivial, s_impl_NearDay_5, fun k x => impl_NearDay_L5 k x.1.1 x.1.2.1 x.1.2.2.1 x.1.2.2.2.1 x.1.2.2.2.2.1 x.1.2.2.2.2.2.1 x.1.2.2.2.2.2.2.1, ⟨fun k => by kernel_rfl, fun k y => by kernel_rfl, fun y => by kernel_rfl⟩⟩, s_impl_NearDay_8, fun k x => impl_NearDay_L8 k x.1.1 x.1.2.1 x.1.2.2.1 x.1.2.2.2.1 x.1.2.2.2.2.1 x.1.2.2.2.2.2.1 x.1.2.2.2.2.2.2.1 x.1.2.2.2.2.2.2.2.1, ⟨fun k => by kernel_rfl, fun k y => by kernel_rfl, fun y => by kernel_rfl⟩⟩
    (fun k x => impl_NearDay_F k x.1.1 x.1.2.1 x.1.2.2.1 x.1.2.2.2.1) (fun x => rfl) (fun k x => by kernel_rfl)
end Go.Proofs.YtondfjckadlabaaGreatDoor.NU
