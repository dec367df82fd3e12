/-
  Part of a proof by the engine: texts that a program of ours printed, or plain lemmas on them. No condition but what each theorem says.
-/
import Derived.Test.YtmcmkdiefpepnaaDoorDT
import Derived.Test.YtmcmkdiefpepnaaDoorEng5
import Derived.Test.YtmcmkdiefpepnaaDoorProg
import Derived.KernelRfl
import Derived.Test.YtmcmkdiefpepnaaDoorDoors5
import Derived.Test.YtmcmkdiefpepnaaDoorDoors6
set_option linter.unusedVariables false
set_option linter.unusedSimpArgs false
set_option maxRecDepth 100000
namespace Go.Proofs.YtmcmkdiefpepnaaDoor.RH
open Go Go.Eng Go.Proofs
open Go.Proofs.YtmcmkdiefpepnaaDoor.EX
open Go.Proofs.YtmcmkdiefpepnaaDoor.DT hiding gl
noncomputable def gl : Nat → Option (List Cell) := glOf [(6, L_strconv_uint64pow10.map (Cell.int .u64))]
theorem gl_DT : ∀ g cs, Go.Proofs.YtmcmkdiefpepnaaDoor.DT.gl g = some cs → gl g = some cs := glOf_mono (by intro p hp; simp only [List.mem_cons, List.not_mem_nil, or_false] at hp; subst hp <;> rfl)
-- loop.example/g00051/spec.l4Pieces
noncomputable def i_spec_l4Pieces : Shape := ⟨[(0, .c (.str))], []⟩
noncomputable def o_spec_l4Pieces : Shape := ⟨[(0, .c (.ref 0))], [.lst 9 .str]⟩
noncomputable def s_spec_l4Pieces_4 : Shape := ⟨[(0, .c (.str)), (3, .c (.ref 0)), (4, .c (.int .i64)), (5, .c (.int .i64))], [.lst 9 .str]⟩
noncomputable def spec_l4Pieces_L4 : Nat → ByteArray → Int → Int → (List ByteArray) → Option ((List ByteArray))
  | 0, _, _, _, _ => none
  | k + 1, a0, a1, a2, a3 =>
  bif decide (a2 ≤ (↑a0.size : Int)) then bif a2 == (↑a0.size : Int) then bif decide (0 ≤ a2) && decide (a2 ≤ (↑a0.size : Int)) then bif decide (0 ≤ a1) && decide (a1 ≤ a2) then bif decide (a3.length + [a0.extract a1.toNat a2.toNat].length ≤ maxBytes / 16) then spec_l4Pieces_L4 k a0 (IntKind.i64.wrap (a2 + 1)) (IntKind.i64.wrap (a2 + 1)) (a3 ++ [a0.extract a1.toNat a2.toNat]) else none else none else none else bif decide (0 ≤ a2) then bif decide (a2 < (↑a0.size : Int)) then bif bt a0 a2 == 32 then bif decide (0 ≤ a2) && decide (a2 ≤ (↑a0.size : Int)) then bif decide (0 ≤ a1) && decide (a1 ≤ a2) then bif decide (a3.length + [a0.extract a1.toNat a2.toNat].length ≤ maxBytes / 16) then spec_l4Pieces_L4 k a0 (IntKind.i64.wrap (a2 + 1)) (IntKind.i64.wrap (a2 + 1)) (a3 ++ [a0.extract a1.toNat a2.toNat]) else none else none else none else spec_l4Pieces_L4 k a0 a1 (IntKind.i64.wrap (a2 + 1)) a3 else none else none else some a3
noncomputable def j_spec_l4Pieces : List (Nat × (Nat → Cut ((List ByteArray)))) := [(4, fun k => ⟨s_spec_l4Pieces_4, fun x => spec_l4Pieces_L4 k x.1.1 x.1.2.2.1 x.1.2.2.2.1 x.2.1⟩)]
noncomputable def spec_l4Pieces_F (k : Nat) (a0 : ByteArray) : Option ((List ByteArray)) :=
  spec_l4Pieces_L4 k a0 0 0 []
noncomputable def spec_l4Pieces (a0 : ByteArray) : Option ((List ByteArray)) := evF fun k => spec_l4Pieces_F k a0
noncomputable def g_spec_l4Pieces : Sg := ⟨i_spec_l4Pieces, o_spec_l4Pieces, (List ByteArray), fun y => (((), ()), (y, ())), fun x => spec_l4Pieces x.1.1⟩
noncomputable def C_spec_l4Pieces : Ctx := ⟨33, tiOf Tryd.prog, gl, sgOf []⟩
noncomputable def r_spec_l4Pieces : AExit → Env → Option ((List ByteArray)) := retK C_spec_l4Pieces 0 o_spec_l4Pieces (fun y => y.2.1) Tryd.f103.results.toList
theorem e_spec_l4Pieces : Sound Tryd.prog gl 103 g_spec_l4Pieces :=
  sound_cuts (C := C_spec_l4Pieces) ⟨fun _ _ h => h, by kernel_rfl⟩ (sgOf_all' trivial) 103 Tryd.f103 g_spec_l4Pieces (fun y => y.2.1) j_spec_l4Pieces 1 (by kernel_rfl) (by kernel_rfl) (by kernel_rfl) (by kernel_rfl) (by kernel_rfl) (by kernel_rfl) (fun _ => rfl) (by kernel_rfl) (by kernel_rfl)
    ⟨trivial, s_spec_l4Pieces_4, fun k x => spec_l4Pieces_L4 k x.1.1 x.1.2.2.1 x.1.2.2.2.1 x.2.1, ⟨fun k => by kernel_rfl, fun k y => by kernel_rfl, fun y => by kernel_rfl⟩⟩
    (fun k x => spec_l4Pieces_F k x.1.1) (fun x => rfl) (fun k x => by kernel_rfl)
-- loop.example/g00051/spec.l4Letters
noncomputable def i_spec_l4Letters : Shape := ⟨[(0, .c (.str))], []⟩
noncomputable def o_spec_l4Letters : Shape := ⟨[(0, .c (.bool))], []⟩
noncomputable def s_spec_l4Letters_2 : Shape := ⟨[(0, .c (.str)), (3, .c (.int .i64))], []⟩
noncomputable def spec_l4Letters_L2 : Nat → ByteArray → Int → Option (Bool)
  | 0, _, _ => none
  | k + 1, a0, a1 =>
  bif decide (a1 < (↑a0.size : Int)) then bif decide (0 ≤ a1) then bif decide (a1 < (↑a0.size : Int)) then bif decide (bt a0 a1 < 65) then some false else bif decide (0 ≤ a1) then bif decide (a1 < (↑a0.size : Int)) then bif decide (bt a0 a1 > 90) then some false else spec_l4Letters_L2 k a0 (IntKind.i64.wrap (a1 + 1)) else none else none else none else none else some true
noncomputable def j_spec_l4Letters : List (Nat × (Nat → Cut (Bool))) := [(2, fun k => ⟨s_spec_l4Letters_2, fun x => spec_l4Letters_L2 k x.1.1 x.1.2.1⟩)]
noncomputable def spec_l4Letters_F (k : Nat) (a0 : ByteArray) : Option (Bool) :=
  spec_l4Letters_L2 k a0 0
noncomputable def spec_l4Letters (a0 : ByteArray) : Option (Bool) := evF fun k => spec_l4Letters_F k a0
noncomputable def g_spec_l4Letters : Sg := ⟨i_spec_l4Letters, o_spec_l4Letters, Bool, fun y => ((y, ()), ()), fun x => spec_l4Letters x.1.1⟩
noncomputable def C_spec_l4Letters : Ctx := ⟨20, tiOf Tryd.prog, gl, sgOf []⟩
noncomputable def r_spec_l4Letters : AExit → Env → Option (Bool) := retK C_spec_l4Letters 0 o_spec_l4Letters (fun y => y.1.1) Tryd.f104.results.toList
theorem e_spec_l4Letters : Sound Tryd.prog gl 104 g_spec_l4Letters :=
  sound_cuts (C := C_spec_l4Letters) ⟨fun _ _ h => h, by kernel_rfl⟩ (sgOf_all' trivial) 104 Tryd.f104 g_spec_l4Letters (fun y => y.1.1) j_spec_l4Letters 1 (by kernel_rfl) (by kernel_rfl) (by kernel_rfl) (by kernel_rfl) (by kernel_rfl) (by kernel_rfl) (fun _ => rfl) (by kernel_rfl) (by kernel_rfl)
    ⟨trivial, s_spec_l4Letters_2, fun k x => spec_l4Letters_L2 k x.1.1 x.1.2.1, ⟨fun k => by kernel_rfl, fun k y => by kernel_rfl, fun y => by kernel_rfl⟩⟩
    (fun k x => spec_l4Letters_F k x.1.1) (fun x => rfl) (fun k x => by kernel_rfl)
-- loop.example/g00051/spec.l1Digit
noncomputable def i_spec_l1Digit : Shape := ⟨[(0, .c (.int .u8))], []⟩
noncomputable def o_spec_l1Digit : Shape := ⟨[(0, .c (.bool))], []⟩
noncomputable def spec_l1Digit (a0 : Int) : Option (Bool) :=
  bif decide (a0 ≥ 48) then some (decide (a0 ≤ 57)) else some false
noncomputable def g_spec_l1Digit : Sg := ⟨i_spec_l1Digit, o_spec_l1Digit, Bool, fun y => ((y, ()), ()), fun x => spec_l1Digit x.1.1⟩
noncomputable def C_spec_l1Digit : Ctx := ⟨9, tiOf Tryd.prog, gl, sgOf []⟩
noncomputable def r_spec_l1Digit : AExit → Env → Option (Bool) := retK C_spec_l1Digit 0 o_spec_l1Digit (fun y => y.1.1) Tryd.f147.results.toList
theorem e_spec_l1Digit : Sound Tryd.prog gl 147 g_spec_l1Digit :=
  sound_plain (C := C_spec_l1Digit) ⟨fun _ _ h => h, by kernel_rfl⟩ (sgOf_all' trivial) 147 Tryd.f147 g_spec_l1Digit (fun y => y.1.1) (by kernel_rfl) (by kernel_rfl) (by kernel_rfl) (by kernel_rfl) (by kernel_rfl) (by kernel_rfl) (fun _ => rfl) (fun x => by kernel_rfl)
-- loop.example/g00051/spec.l2Number
noncomputable def i_spec_l2Number : Shape := ⟨[(0, .c (.str))], []⟩
noncomputable def o_spec_l2Number : Shape := ⟨[(0, .c (.int .i64))], []⟩
noncomputable def s_spec_l2Number_5 : Shape := ⟨[(0, .c (.str)), (3, .c (.int .i64)), (4, .c (.int .i64))], []⟩
noncomputable def spec_l2Number_L5 : Nat → ByteArray → Int → Int → Option (Int)
  | 0, _, _, _ => none
  | k + 1, a0, a1, a2 =>
  bif decide (a2 < (↑a0.size : Int)) then bif decide (0 ≤ a2) then bif decide (a2 < (↑a0.size : Int)) then (spec_l1Digit (bt a0 a2)).bind fun val => bif !val then some (-1) else bif decide (0 ≤ a2) then bif decide (a2 < (↑a0.size : Int)) then spec_l2Number_L5 k a0 (IntKind.i64.wrap (IntKind.i64.wrap (a1 * 10) + IntKind.i64.wrap (IntKind.u8.wrap (bt a0 a2 - 48)))) (IntKind.i64.wrap (a2 + 1)) else none else none else none else none else some a1
noncomputable def j_spec_l2Number : List (Nat × (Nat → Cut (Int))) := [(5, fun k => ⟨s_spec_l2Number_5, fun x => spec_l2Number_L5 k x.1.1 x.1.2.1 x.1.2.2.1⟩)]
noncomputable def spec_l2Number_F (k : Nat) (a0 : ByteArray) : Option (Int) :=
  bif (↑a0.size : Int) == 0 then some (-1) else bif decide ((↑a0.size : Int) > 15) then some (-1) else spec_l2Number_L5 k a0 0 0
noncomputable def spec_l2Number (a0 : ByteArray) : Option (Int) := evF fun k => spec_l2Number_F k a0
noncomputable def g_spec_l2Number : Sg := ⟨i_spec_l2Number, o_spec_l2Number, Int, fun y => ((y, ()), ()), fun x => spec_l2Number x.1.1⟩
noncomputable def C_spec_l2Number : Ctx := ⟨33, tiOf Tryd.prog, gl, sgOf [(147, g_spec_l1Digit)]⟩
noncomputable def r_spec_l2Number : AExit → Env → Option (Int) := retK C_spec_l2Number 0 o_spec_l2Number (fun y => y.1.1) Tryd.f98.results.toList
theorem e_spec_l2Number : Sound Tryd.prog gl 98 g_spec_l2Number :=
  sound_cuts (C := C_spec_l2Number) ⟨fun _ _ h => h, by kernel_rfl⟩ (sgOf_all' ⟨.inl ⟨by kernel_rfl, e_spec_l1Digit⟩, trivial⟩) 98 Tryd.f98 g_spec_l2Number (fun y => y.1.1) j_spec_l2Number 1 (by kernel_rfl) (by kernel_rfl) (by kernel_rfl) (by kernel_rfl) (by kernel_rfl) (by kernel_rfl) (fun _ => rfl) (by kernel_rfl) (by kernel_rfl)
    ⟨trivial, s_spec_l2Number_5, fun k x => spec_l2Number_L5 k x.1.1 x.1.2.1 x.1.2.2.1, ⟨fun k => by kernel_rfl, fun k y => by kernel_rfl, fun y => by kernel_rfl⟩⟩
    (fun k x => spec_l2Number_F k x.1.1) (fun x => rfl) (fun k x => by kernel_rfl)
-- loop.example/g00051/spec.l4CentreOk
noncomputable def i_spec_l4CentreOk : Shape := ⟨[(0, .c (.str))], []⟩
noncomputable def o_spec_l4CentreOk : Shape := ⟨[(0, .c (.bool))], []⟩
noncomputable def s_spec_l4CentreOk_4 : Shape := ⟨[(0, .c (.str)), (3, .c (.int .i64))], []⟩
noncomputable def spec_l4CentreOk_L4 : Nat → ByteArray → Int → Option (Bool)
  | 0, _, _ => none
  | k + 1, a0, a1 =>
  bif decide (a1 < 4) then bif decide (0 ≤ a1) then bif decide (a1 < (↑a0.size : Int)) then (spec_l1Digit (bt a0 a1)).bind fun val => bif !val then bif decide (0 ≤ IntKind.i64.wrap (a1 + 1)) && decide (IntKind.i64.wrap (a1 + 1) ≤ (↑a0.size : Int)) then bif decide (0 ≤ a1) && decide (a1 ≤ IntKind.i64.wrap (a1 + 1)) then (spec_l4Letters (a0.extract a1.toNat (IntKind.i64.wrap (a1 + 1)).toNat)).bind fun val => bif !val then some false else spec_l4CentreOk_L4 k a0 (IntKind.i64.wrap (a1 + 1)) else none else none else spec_l4CentreOk_L4 k a0 (IntKind.i64.wrap (a1 + 1)) else none else none else some true
noncomputable def j_spec_l4CentreOk : List (Nat × (Nat → Cut (Bool))) := [(4, fun k => ⟨s_spec_l4CentreOk_4, fun x => spec_l4CentreOk_L4 k x.1.1 x.1.2.1⟩)]
noncomputable def spec_l4CentreOk_F (k : Nat) (a0 : ByteArray) : Option (Bool) :=
  bif (↑a0.size : Int) != 4 then some false else bif decide (0 ≤ 1) && decide (1 ≤ (↑a0.size : Int)) then (spec_l4Letters (a0.extract (Int.toNat 0) (Int.toNat 1))).bind fun val => bif !val then some false else spec_l4CentreOk_L4 k a0 1 else none
noncomputable def spec_l4CentreOk (a0 : ByteArray) : Option (Bool) := evF fun k => spec_l4CentreOk_F k a0
noncomputable def g_spec_l4CentreOk : Sg := ⟨i_spec_l4CentreOk, o_spec_l4CentreOk, Bool, fun y => ((y, ()), ()), fun x => spec_l4CentreOk x.1.1⟩
noncomputable def C_spec_l4CentreOk : Ctx := ⟨31, tiOf Tryd.prog, gl, sgOf [(104, g_spec_l4Letters), (147, g_spec_l1Digit)]⟩
noncomputable def r_spec_l4CentreOk : AExit → Env → Option (Bool) := retK C_spec_l4CentreOk 0 o_spec_l4CentreOk (fun y => y.1.1) Tryd.f105.results.toList
theorem e_spec_l4CentreOk : Sound Tryd.prog gl 105 g_spec_l4CentreOk :=
  sound_cuts (C := C_spec_l4CentreOk) ⟨fun _ _ h => h, by kernel_rfl⟩ (sgOf_all' ⟨.inl ⟨by kernel_rfl, e_spec_l4Letters⟩, .inl ⟨by kernel_rfl, e_spec_l1Digit⟩, trivial⟩) 105 Tryd.f105 g_spec_l4CentreOk (fun y => y.1.1) j_spec_l4CentreOk 1 (by kernel_rfl) (by kernel_rfl) (by kernel_rfl) (by kernel_rfl) (by kernel_rfl) (by kernel_rfl) (fun _ => rfl) (by kernel_rfl) (by kernel_rfl)
    ⟨trivial, s_spec_l4CentreOk_4, fun k x => spec_l4CentreOk_L4 k x.1.1 x.1.2.1, ⟨fun k => by kernel_rfl, fun k y => by kernel_rfl, fun y => by kernel_rfl⟩⟩
    (fun k x => spec_l4CentreOk_F k x.1.1) (fun x => rfl) (fun k x => by kernel_rfl)
-- loop.example/g00051/spec.MarkOf
noncomputable def i_spec_MarkOf : Shape := ⟨[(0, .c (.str))], []⟩
noncomputable def o_spec_MarkOf : Shape := ⟨[(0, .tup [(false, [.int .i64]), (false, [.int .i64])])], []⟩
noncomputable def spec_MarkOf (a0 : ByteArray) : Option (Int × Int) :=
  bif a0.toList == (bs []).toList then some (0, 0) else bif (↑a0.size : Int) != 3 then some (-1, 0) else (spec_l4Letters a0).bind fun val => bif !val then some (-1, 0) else bif decide (2 < (↑a0.size : Int)) then bif decide (0 < (↑a0.size : Int)) then bif bt a0 0 == 80 then bif decide (1 < (↑a0.size : Int)) then some (4, IntKind.i64.wrap (IntKind.i64.wrap (IntKind.i64.wrap (IntKind.u8.wrap (bt a0 1 - 65)) * 26) + IntKind.i64.wrap (IntKind.i64.wrap (IntKind.u8.wrap (bt a0 2 - 65)) + 1))) else none else bif decide (0 < (↑a0.size : Int)) then bif decide (1 < (↑a0.size : Int)) then bif bt a0 0 != bt a0 1 then some (-1, 0) else bif decide (IntKind.i64.wrap (IntKind.i64.wrap (IntKind.u8.wrap (bt a0 2 - 65)) + 1) > 24) then some (-1, 0) else bif decide (0 < (↑a0.size : Int)) then bif bt a0 0 == 82 then some (1, IntKind.i64.wrap (IntKind.i64.wrap (IntKind.u8.wrap (bt a0 2 - 65)) + 1)) else bif bt a0 0 == 67 then some (2, IntKind.i64.wrap (IntKind.i64.wrap (IntKind.u8.wrap (bt a0 2 - 65)) + 1)) else bif bt a0 0 == 65 then some (3, IntKind.i64.wrap (IntKind.i64.wrap (IntKind.u8.wrap (bt a0 2 - 65)) + 1)) else some (-1, 0) else none else none else none else none else none
noncomputable def g_spec_MarkOf : Sg := ⟨i_spec_MarkOf, o_spec_MarkOf, Int × Int, fun y => ((((y.1, ()), (y.2, ()), ()), ()), ()), fun x => spec_MarkOf x.1.1⟩
noncomputable def C_spec_MarkOf : Ctx := ⟨50, tiOf Tryd.prog, gl, sgOf [(104, g_spec_l4Letters)]⟩
noncomputable def r_spec_MarkOf : AExit → Env → Option (Int × Int) := retK C_spec_MarkOf 0 o_spec_MarkOf (fun y => (y.1.1.1.1, y.1.1.2.1.1)) Tryd.f135.results.toList
theorem e_spec_MarkOf : Sound Tryd.prog gl 135 g_spec_MarkOf :=
  sound_plain (C := C_spec_MarkOf) ⟨fun _ _ h => h, by kernel_rfl⟩ (sgOf_all' ⟨.inl ⟨by kernel_rfl, e_spec_l4Letters⟩, trivial⟩) 135 Tryd.f135 g_spec_MarkOf (fun y => (y.1.1.1.1, y.1.1.2.1.1)) (by kernel_rfl) (by kernel_rfl) (by kernel_rfl) (by kernel_rfl) (by kernel_rfl) (by kernel_rfl) (fun _ => rfl) (fun x => by kernel_rfl)
-- loop.example/g00051/spec.l2In
noncomputable def i_spec_l2In : Shape := ⟨[(0, .c (.int .i64)), (1, .c (.int .i64)), (2, .c (.int .i64))], []⟩
noncomputable def o_spec_l2In : Shape := ⟨[(0, .c (.bool))], []⟩
noncomputable def spec_l2In (a0 : Int) (a1 : Int) (a2 : Int) : Option (Bool) :=
  bif decide (a0 ≥ a1) then some (decide (a0 ≤ a2)) else some false
noncomputable def g_spec_l2In : Sg := ⟨i_spec_l2In, o_spec_l2In, Bool, fun y => ((y, ()), ()), fun x => spec_l2In x.1.1 x.1.2.1 x.1.2.2.1⟩
noncomputable def C_spec_l2In : Ctx := ⟨15, tiOf Tryd.prog, gl, sgOf []⟩
noncomputable def r_spec_l2In : AExit → Env → Option (Bool) := retK C_spec_l2In 0 o_spec_l2In (fun y => y.1.1) Tryd.f120.results.toList
theorem e_spec_l2In : Sound Tryd.prog gl 120 g_spec_l2In :=
  sound_plain (C := C_spec_l2In) ⟨fun _ _ h => h, by kernel_rfl⟩ (sgOf_all' trivial) 120 Tryd.f120 g_spec_l2In (fun y => y.1.1) (by kernel_rfl) (by kernel_rfl) (by kernel_rfl) (by kernel_rfl) (by kernel_rfl) (by kernel_rfl) (fun _ => rfl) (fun x => by kernel_rfl)
-- loop.example/g00051/spec.l4HeadingOk
noncomputable def i_spec_l4HeadingOk : Shape := ⟨[(0, .agg [.str, .str, .int .i64, .str, .int .i64, .int .i64, .int .i64, .str])], []⟩
noncomputable def o_spec_l4HeadingOk : Shape := ⟨[(0, .c (.bool))], []⟩
noncomputable def spec_l4HeadingOk (a0 : ByteArray) (a1 : ByteArray) (a2 : Int) (a3 : ByteArray) (a4 : Int) (a5 : Int) (a6 : Int) (a7 : ByteArray) : Option (Bool) :=
  (spec_MarkOf a7).bind fun val => bif (↑a0.size : Int) == 2 then bif (↑a1.size : Int) == 2 then bif decide (a0.size + a1.size ≤ 9223372036854775807) then (spec_l4Letters (a0 ++ a1)).bind fun val_1 => bif val_1 then (spec_l2In a2 0 99).bind fun val_2 => bif val_2 then (spec_l4CentreOk a3).bind fun val_3 => bif val_3 then (spec_l2In a4 1 31).bind fun val_4 => bif val_4 then (spec_l2In a5 0 23).bind fun val_5 => bif val_5 then (spec_l2In a6 0 59).bind fun val_6 => bif val_6 then some (decide (val.fst ≥ 0)) else some false else some false else some false else some false else some false else some false else none else some false else some false
noncomputable def g_spec_l4HeadingOk : Sg := ⟨i_spec_l4HeadingOk, o_spec_l4HeadingOk, Bool, fun y => ((y, ()), ()), fun x => spec_l4HeadingOk x.1.1.1 x.1.1.2.1 x.1.1.2.2.1 x.1.1.2.2.2.1 x.1.1.2.2.2.2.1 x.1.1.2.2.2.2.2.1 x.1.1.2.2.2.2.2.2.1 x.1.1.2.2.2.2.2.2.2.1⟩
noncomputable def C_spec_l4HeadingOk : Ctx := ⟨58, tiOf Tryd.prog, gl, sgOf [(135, g_spec_MarkOf), (104, g_spec_l4Letters), (120, g_spec_l2In), (105, g_spec_l4CentreOk)]⟩
noncomputable def r_spec_l4HeadingOk : AExit → Env → Option (Bool) := retK C_spec_l4HeadingOk 0 o_spec_l4HeadingOk (fun y => y.1.1) Tryd.f80.results.toList
theorem e_spec_l4HeadingOk : Sound Tryd.prog gl 80 g_spec_l4HeadingOk :=
  sound_plain (C := C_spec_l4HeadingOk) ⟨fun _ _ h => h, by kernel_rfl⟩ (sgOf_all' ⟨.inl ⟨by kernel_rfl, e_spec_MarkOf⟩, .inl ⟨by kernel_rfl, e_spec_l4Letters⟩, .inl ⟨by kernel_rfl, e_spec_l2In⟩, .inl ⟨by kernel_rfl, e_spec_l4CentreOk⟩, trivial⟩) 80 Tryd.f80 g_spec_l4HeadingOk (fun y => y.1.1) (by kernel_rfl) (by kernel_rfl) (by kernel_rfl) (by kernel_rfl) (by kernel_rfl) (by kernel_rfl) (fun _ => rfl) (fun x => by kernel_rfl)
-- loop.example/g00051/spec.ReadHeading
noncomputable def i_spec_ReadHeading : Shape := ⟨[(0, .c (.str))], []⟩
noncomputable def o_spec_ReadHeading : Shape := ⟨[(0, .tup [(true, [.str, .str, .int .i64, .str, .int .i64, .int .i64, .int .i64, .str]), (false, [.int .i64])])], []⟩
noncomputable def s_spec_ReadHeading_6 : Shape := ⟨[(2, .c (.ptr 0 0)), (4, .c (.ptr 1 0)), (5, .c (.ref 2)), (6, .c (.int .i64))], [.box 53 [.str, .str, .int .i64, .str, .int .i64, .int .i64, .int .i64, .str], .box 53 [.str, .str, .int .i64, .str, .int .i64, .int .i64, .int .i64, .str], .lst 9 .str]⟩
noncomputable def spec_ReadHeading_L6 : Nat → Int → ByteArray → ByteArray → Int → ByteArray → Int → Int → Int → ByteArray → ByteArray → ByteArray → Int → ByteArray → Int → Int → Int → ByteArray → (List ByteArray) → Option (ByteArray × ByteArray × Int × ByteArray × Int × Int × Int × ByteArray × Int)
  | 0, _, _, _, _, _, _, _, _, _, _, _, _, _, _, _, _, _, _ => none
  | k + 1, a0, a1, a2, a3, a4, a5, a6, a7, a8, a9, a10, a11, a12, a13, a14, a15, a16, a17 =>
  bif decide (a0 < (↑a17.length : Int)) then bif decide (0 ≤ a0) then bif decide (a0 < (↑a17.length : Int)) then bif decide (a0 < (↑a17.length : Int)) then bif ByteArray.toList (rd Kind.str a17 a0) == (bs []).toList then some (a9, a10, a11, a12, a13, a14, a15, a16, 1) else spec_ReadHeading_L6 k (IntKind.i64.wrap (a0 + 1)) a1 a2 a3 a4 a5 a6 a7 a8 a9 a10 a11 a12 a13 a14 a15 a16 a17 else none else none else none
  else
   bif decide (0 < (↑a17.length : Int)) then
    bif decide (0 < (↑a17.length : Int)) then
     bif (↑(ByteArray.size (rd Kind.str a17 0)) : Int) != 6 then some (a9, a10, a11, a12, a13, a14, a15, a16, 2)
     else
      bif decide (0 < (↑a17.length : Int)) then
       bif decide (0 < (↑a17.length : Int)) then
        bif decide (0 ≤ 4) && decide (4 ≤ (↑(ByteArray.size (rd Kind.str a17 0)) : Int)) then
         (spec_l4Letters (ByteArray.extract (rd Kind.str a17 0) (Int.toNat 0) (Int.toNat 4))).bind fun val =>
          bif !val then some (a9, a10, a11, a12, a13, a14, a15, a16, 2)
          else
           bif decide (0 < (↑a17.length : Int)) then
            bif decide (0 < (↑a17.length : Int)) then
             bif decide (0 ≤ 4) && decide (4 ≤ (↑(ByteArray.size (rd Kind.str a17 0)) : Int)) then
              (spec_l2Number (ByteArray.extract (rd Kind.str a17 0) (Int.toNat 4) (↑(ByteArray.size (rd Kind.str a17 0)) : Int).toNat)).bind fun val =>
               bif decide (val < 0) then some (a9, a10, a11, a12, a13, a14, a15, a16, 2)
               else
                bif decide (1 < (↑a17.length : Int)) then
                 bif decide (1 < (↑a17.length : Int)) then
                  (spec_l4CentreOk (rd Kind.str a17 1)).bind fun val =>
                   bif !val then some (a9, a10, a11, a12, a13, a14, a15, a16, 3)
                   else
                    bif decide (2 < (↑a17.length : Int)) then
                     bif decide (2 < (↑a17.length : Int)) then
                      bif (↑(ByteArray.size (rd Kind.str a17 2)) : Int) != 6 then some (a9, a10, a11, a12, a13, a14, a15, a16, 4)
                      else
                       bif decide (2 < (↑a17.length : Int)) then
                        bif decide (2 < (↑a17.length : Int)) then
                         (spec_l2Number (rd Kind.str a17 2)).bind fun val =>
                          bif decide (val < 0) then some (a9, a10, a11, a12, a13, a14, a15, a16, 4)
                          else
                           bif decide (0 < (↑a17.length : Int)) then
                            bif decide (0 < (↑a17.length : Int)) then
                             bif decide (0 ≤ 2) && decide (2 ≤ (↑(ByteArray.size (rd Kind.str a17 0)) : Int)) then
                              bif decide (0 < (↑a17.length : Int)) then
                               bif decide (0 < (↑a17.length : Int)) then
                                bif decide (0 ≤ 4) && decide (4 ≤ (↑(ByteArray.size (rd Kind.str a17 0)) : Int)) then
                                 bif decide (0 < (↑a17.length : Int)) then
                                  bif decide (0 < (↑a17.length : Int)) then
                                   bif decide (0 ≤ 4) && decide (4 ≤ (↑(ByteArray.size (rd Kind.str a17 0)) : Int)) then
                                    (spec_l2Number (ByteArray.extract (rd Kind.str a17 0) (Int.toNat 4) (↑(ByteArray.size (rd Kind.str a17 0)) : Int).toNat)).bind fun val =>
                                     bif decide (1 < (↑a17.length : Int)) then
                                      bif decide (1 < (↑a17.length : Int)) then
                                       bif decide (2 < (↑a17.length : Int)) then
                                        bif decide (2 < (↑a17.length : Int)) then
                                         bif decide (0 ≤ 2) && decide (2 ≤ (↑(ByteArray.size (rd Kind.str a17 2)) : Int)) then
                                          (spec_l2Number (ByteArray.extract (rd Kind.str a17 2) (Int.toNat 0) (Int.toNat 2))).bind fun val_1 =>
                                           bif decide (2 < (↑a17.length : Int)) then
                                            bif decide (2 < (↑a17.length : Int)) then
                                             bif decide (0 ≤ 4) && decide (4 ≤ (↑(ByteArray.size (rd Kind.str a17 2)) : Int)) then
                                              (spec_l2Number (ByteArray.extract (rd Kind.str a17 2) (Int.toNat 2) (Int.toNat 4))).bind fun val_2 =>
                                               bif decide (2 < (↑a17.length : Int)) then
                                                bif decide (2 < (↑a17.length : Int)) then
                                                 bif decide (0 ≤ 4) && decide (4 ≤ (↑(ByteArray.size (rd Kind.str a17 2)) : Int)) then
                                                  (spec_l2Number (ByteArray.extract (rd Kind.str a17 2) (Int.toNat 4) (↑(ByteArray.size (rd Kind.str a17 2)) : Int).toNat)).bind fun val_3 =>
                                                   (spec_l4HeadingOk (ByteArray.extract (rd Kind.str a17 0) (Int.toNat 0) (Int.toNat 2)) (ByteArray.extract (rd Kind.str a17 0) (Int.toNat 2) (Int.toNat 4)) val (rd Kind.str a17 1) val_1 val_2 val_3 (bs [])).bind fun val_4 =>
                                                    bif !val_4 then some (a9, a10, a11, a12, a13, a14, a15, a16, 4) else bif (↑a17.length : Int) == 4 then bif decide (3 < (↑a17.length : Int)) then bif decide (3 < (↑a17.length : Int)) then (spec_l4HeadingOk (ByteArray.extract (rd Kind.str a17 0) (Int.toNat 0) (Int.toNat 2)) (ByteArray.extract (rd Kind.str a17 0) (Int.toNat 2) (Int.toNat 4)) val (rd Kind.str a17 1) val_1 val_2 val_3 (rd Kind.str a17 3)).bind fun val_5 => bif !val_5 then some (a9, a10, a11, a12, a13, a14, a15, a16, 5) else some (ByteArray.extract (rd Kind.str a17 0) (Int.toNat 0) (Int.toNat 2), ByteArray.extract (rd Kind.str a17 0) (Int.toNat 2) (Int.toNat 4), val, rd Kind.str a17 1, val_1, val_2, val_3, rd Kind.str a17 3, 0) else none else none else (spec_l4HeadingOk (ByteArray.extract (rd Kind.str a17 0) (Int.toNat 0) (Int.toNat 2)) (ByteArray.extract (rd Kind.str a17 0) (Int.toNat 2) (Int.toNat 4)) val (rd Kind.str a17 1) val_1 val_2 val_3 (bs [])).bind fun val_5 => bif !val_5 then some (a9, a10, a11, a12, a13, a14, a15, a16, 5) else some (ByteArray.extract (rd Kind.str a17 0) (Int.toNat 0) (Int.toNat 2), ByteArray.extract (rd Kind.str a17 0) (Int.toNat 2) (Int.toNat 4), val, rd Kind.str a17 1, val_1, val_2, val_3, bs [], 0)
                                                 else none
                                                else none
                                               else none
                                             else none
                                            else none
                                           else none
                                         else none
                                        else none
                                       else none
                                      else none
                                     else none
                                   else none
                                  else none
                                 else none
                                else none
                               else none
                              else none
                             else none
                            else none
                           else none
                        else none
                       else none
                     else none
                    else none
                 else none
                else none
             else none
            else none
           else none
        else none
       else none
      else none
    else none
   else none
noncomputable def j_spec_ReadHeading : List (Nat × (Nat → Cut (ByteArray × ByteArray × Int × ByteArray × Int × Int × Int × ByteArray × Int))) := [(6, fun k => ⟨s_spec_ReadHeading_6, fun x => spec_ReadHeading_L6 k x.1.2.2.2.1 x.2.1.1 x.2.1.2.1 x.2.1.2.2.1 x.2.1.2.2.2.1 x.2.1.2.2.2.2.1 x.2.1.2.2.2.2.2.1 x.2.1.2.2.2.2.2.2.1 x.2.1.2.2.2.2.2.2.2.1 x.2.2.1.1 x.2.2.1.2.1 x.2.2.1.2.2.1 x.2.2.1.2.2.2.1 x.2.2.1.2.2.2.2.1 x.2.2.1.2.2.2.2.2.1 x.2.2.1.2.2.2.2.2.2.1 x.2.2.1.2.2.2.2.2.2.2.1 x.2.2.2.1⟩)]
noncomputable def spec_ReadHeading_F (k : Nat) (a0 : ByteArray) : Option (ByteArray × ByteArray × Int × ByteArray × Int × Int × Int × ByteArray × Int) :=
  (spec_l4Pieces a0).bind fun val => bif (↑(List.length val) : Int) != 3 then bif (↑(List.length val) : Int) != 4 then some (bs [], bs [], 0, bs [], 0, 0, 0, bs [], 1) else spec_ReadHeading_L6 k 0 (bs []) (bs []) 0 (bs []) 0 0 0 (bs []) (bs []) (bs []) 0 (bs []) 0 0 0 (bs []) val else spec_ReadHeading_L6 k 0 (bs []) (bs []) 0 (bs []) 0 0 0 (bs []) (bs []) (bs []) 0 (bs []) 0 0 0 (bs []) val
noncomputable def spec_ReadHeading (a0 : ByteArray) : Option (ByteArray × ByteArray × Int × ByteArray × Int × Int × Int × ByteArray × Int) := evF fun k => spec_ReadHeading_F k a0
noncomputable def g_spec_ReadHeading : Sg := ⟨i_spec_ReadHeading, o_spec_ReadHeading, ByteArray × ByteArray × Int × ByteArray × Int × Int × Int × ByteArray × Int, fun y => ((((y.1, y.2.1, y.2.2.1, y.2.2.2.1, y.2.2.2.2.1, y.2.2.2.2.2.1, y.2.2.2.2.2.2.1, y.2.2.2.2.2.2.2.1, ()), (y.2.2.2.2.2.2.2.2, ()), ()), ()), ()), fun x => spec_ReadHeading x.1.1⟩
noncomputable def C_spec_ReadHeading : Ctx := ⟨121, tiOf Tryd.prog, gl, sgOf [(103, g_spec_l4Pieces), (104, g_spec_l4Letters), (98, g_spec_l2Number), (105, g_spec_l4CentreOk), (80, g_spec_l4HeadingOk)]⟩
noncomputable def r_spec_ReadHeading : AExit → Env → Option (ByteArray × ByteArray × Int × ByteArray × Int × Int × Int × ByteArray × Int) := retK C_spec_ReadHeading 0 o_spec_ReadHeading (fun y => (y.1.1.1.1, y.1.1.1.2.1, y.1.1.1.2.2.1, y.1.1.1.2.2.2.1, y.1.1.1.2.2.2.2.1, y.1.1.1.2.2.2.2.2.1, y.1.1.1.2.2.2.2.2.2.1, y.1.1.1.2.2.2.2.2.2.2.1, y.1.1.2.1.1)) Tryd.f51.results.toList
theorem e_spec_ReadHeading : Sound Tryd.prog gl 51 g_spec_ReadHeading :=
  sound_cuts (C := C_spec_ReadHeading) ⟨fun _ _ h => h, by kernel_rfl⟩ (sgOf_all' ⟨.inl ⟨by kernel_rfl, e_spec_l4Pieces⟩, .inl ⟨by kernel_rfl, e_spec_l4Letters⟩, .inl ⟨by kernel_rfl, e_spec_l2Number⟩, .inl ⟨by kernel_rfl, e_spec_l4CentreOk⟩, .inl ⟨by kernel_rfl, e_spec_l4HeadingOk⟩, trivial⟩) 51 Tryd.f51 g_spec_ReadHeading (fun y => (y.1.1.1.1, y.1.1.1.2.1, y.1.1.1.2.2.1, y.1.1.1.2.2.2.1, y.1.1.1.2.2.2.2.1, y.1.1.1.2.2.2.2.2.1, y.1.1.1.2.2.2.2.2.2.1, y.1.1.1.2.2.2.2.2.2.2.1, y.1.1.2.1.1)) j_spec_ReadHeading 1 (by kernel_rfl) (by kernel_rfl) (by kernel_rfl) (by kernel_rfl) (by kernel_rfl) (by kernel_rfl) (fun _ => rfl) (by kernel_rfl) (by kernel_rfl)
    ⟨trivial, s_spec_ReadHeading_6, fun k x => spec_ReadHeading_L6 k x.1.2.2.2.1 x.2.1.1 x.2.1.2.1 x.2.1.2.2.1 x.2.1.2.2.2.1 x.2.1.2.2.2.2.1 x.2.1.2.2.2.2.2.1 x.2.1.2.2.2.2.2.2.1 x.2.1.2.2.2.2.2.2.2.1 x.2.2.1.1 x.2.2.1.2.1 x.2.2.1.2.2.1 x.2.2.1.2.2.2.1 x.2.2.1.2.2.2.2.1 x.2.2.1.2.2.2.2.2.1 x.2.2.1.2.2.2.2.2.2.1 x.2.2.1.2.2.2.2.2.2.2.1 x.2.2.2.1, ⟨fun k => by kernel_rfl, fun k y => by kernel_rfl, fun y => by kernel_rfl⟩⟩
    (fun k x => spec_ReadHeading_F k x.1.1) (fun x => rfl) (fun k x => by kernel_rfl)
-- loop.example/g00051/impl.capitals
noncomputable def i_impl_capitals : Shape := ⟨[(0, .c (.str)), (1, .c (.int .i64))], []⟩
noncomputable def o_impl_capitals : Shape := ⟨[(0, .c (.bool))], []⟩
noncomputable def s_impl_capitals_2 : Shape := ⟨[(0, .c (.str)), (1, .c (.int .i64)), (5, .c (.int .i64))], []⟩
noncomputable def impl_capitals_L2 : Nat → ByteArray → Int → Int → Option (Bool)
  | 0, _, _, _ => none
  | k + 1, a0, a1, a2 =>
  bif decide (a2 < (↑a0.size : Int)) then bif decide (0 ≤ a2) then bif decide (a2 < (↑a0.size : Int)) then bif decide (bt a0 a2 < 65) then some false else bif decide (0 ≤ a2) then bif decide (a2 < (↑a0.size : Int)) then bif decide (bt a0 a2 > 90) then some false else impl_capitals_L2 k a0 a1 (IntKind.i64.wrap (a2 + 1)) else none else none else none else none else some ((↑a0.size : Int) == a1)
noncomputable def j_impl_capitals : List (Nat × (Nat → Cut (Bool))) := [(2, fun k => ⟨s_impl_capitals_2, fun x => impl_capitals_L2 k x.1.1 x.1.2.1 x.1.2.2.1⟩)]
noncomputable def impl_capitals_F (k : Nat) (a0 : ByteArray) (a1 : Int) : Option (Bool) :=
  impl_capitals_L2 k a0 a1 0
noncomputable def impl_capitals (a0 : ByteArray) (a1 : Int) : Option (Bool) := evF fun k => impl_capitals_F k a0 a1
noncomputable def g_impl_capitals : Sg := ⟨i_impl_capitals, o_impl_capitals, Bool, fun y => ((y, ()), ()), fun x => impl_capitals x.1.1 x.1.2.1⟩
noncomputable def C_impl_capitals : Ctx := ⟨26, tiOf Tryd.prog, gl, sgOf []⟩
noncomputable def r_impl_capitals : AExit → Env → Option (Bool) := retK C_impl_capitals 0 o_impl_capitals (fun y => y.1.1) Tryd.f107.results.toList
theorem e_impl_capitals : Sound Tryd.prog gl 107 g_impl_capitals :=
  sound_cuts (C := C_impl_capitals) ⟨fun _ _ h => h, by kernel_rfl⟩ (sgOf_all' trivial) 107 Tryd.f107 g_impl_capitals (fun y => y.1.1) j_impl_capitals 1 (by kernel_rfl) (by kernel_rfl) (by kernel_rfl) (by kernel_rfl) (by kernel_rfl) (by kernel_rfl) (fun _ => rfl) (by kernel_rfl) (by kernel_rfl)
    ⟨trivial, s_impl_capitals_2, fun k x => impl_capitals_L2 k x.1.1 x.1.2.1 x.1.2.2.1, ⟨fun k => by kernel_rfl, fun k y => by kernel_rfl, fun y => by kernel_rfl⟩⟩
    (fun k x => impl_capitals_F k x.1.1 x.1.2.1) (fun x => rfl) (fun k x => by kernel_rfl)
-- loop.example/g00051/impl.whole
noncomputable def i_impl_whole : Shape := ⟨[(0, .c (.str))], []⟩
noncomputable def o_impl_whole : Shape := ⟨[(0, .c (.int .i64))], []⟩
noncomputable def impl_whole (a0 : ByteArray) : Option (Int) :=
  (dPar a0 10 64).bind fun val => some val
noncomputable def g_impl_whole : Sg := ⟨i_impl_whole, o_impl_whole, Int, fun y => ((y, ()), ()), fun x => impl_whole x.1.1⟩
noncomputable def C_impl_whole : Ctx := ⟨11, tiOf Tryd.prog, gl, sgOf [(97, gPar)]⟩
noncomputable def r_impl_whole : AExit → Env → Option (Int) := retK C_impl_whole 0 o_impl_whole (fun y => y.1.1) Tryd.f108.results.toList
theorem e_impl_whole : Sound Tryd.prog gl 108 g_impl_whole :=
  sound_plain (C := C_impl_whole) ⟨fun _ _ h => h, by kernel_rfl⟩ (sgOf_all' ⟨.inl ⟨by kernel_rfl, ePar⟩, trivial⟩) 108 Tryd.f108 g_impl_whole (fun y => y.1.1) (by kernel_rfl) (by kernel_rfl) (by kernel_rfl) (by kernel_rfl) (by kernel_rfl) (by kernel_rfl) (fun _ => rfl) (fun x => by kernel_rfl)
-- loop.example/g00051/impl.centreOk
noncomputable def i_impl_centreOk : Shape := ⟨[(0, .c (.str))], []⟩
noncomputable def o_impl_centreOk : Shape := ⟨[(0, .c (.bool))], []⟩
noncomputable def s_impl_centreOk_4 : Shape := ⟨[(0, .c (.str)), (3, .c (.int .i64))], []⟩
noncomputable def impl_centreOk_L4 : Nat → ByteArray → Int → Option (Bool)
  | 0, _, _ => none
  | k + 1, a0, a1 =>
  bif decide (a1 < 4) then bif decide (0 ≤ IntKind.i64.wrap (a1 + 1)) && decide (IntKind.i64.wrap (a1 + 1) ≤ (↑a0.size : Int)) then bif decide (0 ≤ a1) && decide (a1 ≤ IntKind.i64.wrap (a1 + 1)) then (impl_capitals (a0.extract a1.toNat (IntKind.i64.wrap (a1 + 1)).toNat) 1).bind fun val => bif !val then bif decide (0 ≤ IntKind.i64.wrap (a1 + 1)) && decide (IntKind.i64.wrap (a1 + 1) ≤ (↑a0.size : Int)) then bif decide (0 ≤ a1) && decide (a1 ≤ IntKind.i64.wrap (a1 + 1)) then (impl_digits (a0.extract a1.toNat (IntKind.i64.wrap (a1 + 1)).toNat)).bind fun val => bif !val then some false else impl_centreOk_L4 k a0 (IntKind.i64.wrap (a1 + 1)) else none else none else impl_centreOk_L4 k a0 (IntKind.i64.wrap (a1 + 1)) else none else none else some true
noncomputable def j_impl_centreOk : List (Nat × (Nat → Cut (Bool))) := [(4, fun k => ⟨s_impl_centreOk_4, fun x => impl_centreOk_L4 k x.1.1 x.1.2.1⟩)]
noncomputable def impl_centreOk_F (k : Nat) (a0 : ByteArray) : Option (Bool) :=
  bif (↑a0.size : Int) != 4 then some false else bif decide (0 ≤ 1) && decide (1 ≤ (↑a0.size : Int)) then (impl_capitals (a0.extract (Int.toNat 0) (Int.toNat 1)) 1).bind fun val => bif !val then some false else impl_centreOk_L4 k a0 1 else none
noncomputable def impl_centreOk (a0 : ByteArray) : Option (Bool) := evF fun k => impl_centreOk_F k a0
noncomputable def g_impl_centreOk : Sg := ⟨i_impl_centreOk, o_impl_centreOk, Bool, fun y => ((y, ()), ()), fun x => impl_centreOk x.1.1⟩
noncomputable def C_impl_centreOk : Ctx := ⟨33, tiOf Tryd.prog, gl, sgOf [(107, g_impl_capitals), (96, g_impl_digits)]⟩
noncomputable def r_impl_centreOk : AExit → Env → Option (Bool) := retK C_impl_centreOk 0 o_impl_centreOk (fun y => y.1.1) Tryd.f109.results.toList
theorem e_impl_centreOk : Sound Tryd.prog gl 109 g_impl_centreOk :=
  sound_cuts (C := C_impl_centreOk) ⟨fun _ _ h => h, by kernel_rfl⟩ (sgOf_all' ⟨.inl ⟨by kernel_rfl, e_impl_capitals⟩, .inl ⟨by kernel_rfl, (Sound.mono gl_DT (by rfl) e_impl_digits)⟩, trivial⟩) 109 Tryd.f109 g_impl_centreOk (fun y => y.1.1) j_impl_centreOk 1 (by kernel_rfl) (by kernel_rfl) (by kernel_rfl) (by kernel_rfl) (by kernel_rfl) (by kernel_rfl) (fun _ => rfl) (by kernel_rfl) (by kernel_rfl)
    ⟨trivial, s_impl_centreOk_4, fun k x => impl_centreOk_L4 k x.1.1 x.1.2.1, ⟨fun k => by kernel_rfl, fun k y => by kernel_rfl, fun y => by kernel_rfl⟩⟩
    (fun k x => impl_centreOk_F k x.1.1) (fun x => rfl) (fun k x => by kernel_rfl)
-- loop.example/g00051/impl.MarkOf
noncomputable def i_impl_MarkOf : Shape := ⟨[(0, .c (.str))], []⟩
noncomputable def o_impl_MarkOf : Shape := ⟨[(0, .tup [(false, [.int .i64]), (false, [.int .i64])])], []⟩
noncomputable def s_impl_MarkOf_8 : Shape := ⟨[(0, .c (.str)), (25, .c (.ref 0)), (26, .c (.int .i64)), (27, .c (.int .i64))], [.lst 9 .str]⟩
noncomputable def impl_MarkOf_L8 : Nat → ByteArray → Int → Int → (List ByteArray) → Option (Int × Int)
  | 0, _, _, _, _ => none
  | k + 1, a0, a1, a2, a3 =>
  bif decide (a2 < a1) then bif decide (0 ≤ a2) then bif decide (a2 < (↑a3.length : Int)) then bif decide (a2 < (↑a3.length : Int)) then bif decide (0 ≤ 2) && decide (2 ≤ (↑a0.size : Int)) then bif (a0.extract (Int.toNat 0) (Int.toNat 2)).toList == ByteArray.toList (rd Kind.str a3 a2) then bif decide (2 < (↑a0.size : Int)) then bif decide (bt a0 2 ≤ 88) then bif decide (2 < (↑a0.size : Int)) then some (IntKind.i64.wrap (a2 + 1), IntKind.i64.wrap (IntKind.i64.wrap (IntKind.u8.wrap (bt a0 2 - 65)) + 1)) else none else impl_MarkOf_L8 k a0 a1 (IntKind.i64.wrap (a2 + 1)) a3 else none else impl_MarkOf_L8 k a0 a1 (IntKind.i64.wrap (a2 + 1)) a3 else none else none else none else none else some (-1, 0)
noncomputable def j_impl_MarkOf : List (Nat × (Nat → Cut (Int × Int))) := [(8, fun k => ⟨s_impl_MarkOf_8, fun x => impl_MarkOf_L8 k x.1.1 x.1.2.2.1 x.1.2.2.2.1 x.2.1⟩)]
noncomputable def impl_MarkOf_F (k : Nat) (a0 : ByteArray) : Option (Int × Int) :=
  bif a0.toList == (bs []).toList then some (0, 0) else (impl_capitals a0 3).bind fun val => bif !val then some (-1, 0) else bif decide (0 < (↑a0.size : Int)) then bif bt a0 0 == 80 then bif decide (1 < (↑a0.size : Int)) then bif decide (2 < (↑a0.size : Int)) then some (4, IntKind.i64.wrap (IntKind.i64.wrap (IntKind.i64.wrap (IntKind.i64.wrap (IntKind.u8.wrap (bt a0 1 - 65)) * 26) + IntKind.i64.wrap (IntKind.u8.wrap (bt a0 2 - 65))) + 1)) else none else none else impl_MarkOf_L8 k a0 (↑[bs [82, 82], bs [67, 67], bs [65, 65]].length : Int) 0 [bs [82, 82], bs [67, 67], bs [65, 65]] else none
noncomputable def impl_MarkOf (a0 : ByteArray) : Option (Int × Int) := evF fun k => impl_MarkOf_F k a0
noncomputable def g_impl_MarkOf : Sg := ⟨i_impl_MarkOf, o_impl_MarkOf, Int × Int, fun y => ((((y.1, ()), (y.2, ()), ()), ()), ()), fun x => impl_MarkOf x.1.1⟩
noncomputable def C_impl_MarkOf : Ctx := ⟨49, tiOf Tryd.prog, gl, sgOf [(107, g_impl_capitals)]⟩
noncomputable def r_impl_MarkOf : AExit → Env → Option (Int × Int) := retK C_impl_MarkOf 0 o_impl_MarkOf (fun y => (y.1.1.1.1, y.1.1.2.1.1)) Tryd.f110.results.toList
theorem e_impl_MarkOf : Sound Tryd.prog gl 110 g_impl_MarkOf :=
  sound_cuts (C := C_impl_MarkOf) ⟨fun _ _ h => h, by kernel_rfl⟩ (sgOf_all' ⟨.inl ⟨by kernel_rfl, e_impl_capitals⟩, trivial⟩) 110 Tryd.f110 g_impl_MarkOf (fun y => (y.1.1.1.1, y.1.1.2.1.1)) j_impl_MarkOf 1 (by kernel_rfl) (by kernel_rfl) (by kernel_rfl) (by kernel_rfl) (by kernel_rfl) (by kernel_rfl) (fun _ => rfl) (by kernel_rfl) (by kernel_rfl)
    ⟨trivial, s_impl_MarkOf_8, fun k x => impl_MarkOf_L8 k x.1.1 x.1.2.2.1 x.1.2.2.2.1 x.2.1, ⟨fun k => by kernel_rfl, fun k y => by kernel_rfl, fun y => by kernel_rfl⟩⟩
    (fun k x => impl_MarkOf_F k x.1.1) (fun x => rfl) (fun k x => by kernel_rfl)
-- loop.example/g00051/impl.ReadHeading
noncomputable def i_impl_ReadHeading : Shape := ⟨[(0, .c (.str))], []⟩
noncomputable def o_impl_ReadHeading : Shape := ⟨[(0, .tup [(true, [.str, .str, .int .i64, .str, .int .i64, .int .i64, .int .i64, .str]), (false, [.int .i64])])], []⟩
noncomputable def s_impl_ReadHeading_5 : Shape := ⟨[(2, .c (.ptr 0 0)), (4, .c (.ref 1)), (21, .c (.ref 1)), (22, .c (.int .i64)), (23, .c (.int .i64))], [.box 53 [.str, .str, .int .i64, .str, .int .i64, .int .i64, .int .i64, .str], .lst 9 .str]⟩
noncomputable def impl_ReadHeading_L5 : Nat → Int → Int → ByteArray → ByteArray → Int → ByteArray → Int → Int → Int → ByteArray → (List ByteArray) → Option (ByteArray × ByteArray × Int × ByteArray × Int × Int × Int × ByteArray × Int)
  | 0, _, _, _, _, _, _, _, _, _, _, _ => none
  | k + 1, a0, a1, a2, a3, a4, a5, a6, a7, a8, a9, a10 =>
  bif decide (a1 < a0) then bif decide (0 ≤ a1) then bif decide (a1 < (↑a10.length : Int)) then bif decide (a1 < (↑a10.length : Int)) then bif ByteArray.toList (rd Kind.str a10 a1) == (bs []).toList then some (bs [], bs [], 0, bs [], 0, 0, 0, bs [], 1) else impl_ReadHeading_L5 k a0 (IntKind.i64.wrap (a1 + 1)) a2 a3 a4 a5 a6 a7 a8 a9 a10 else none else none else none
  else
   bif decide (0 < (↑a10.length : Int)) then
    bif decide (0 < (↑a10.length : Int)) then
     bif (↑(ByteArray.size (rd Kind.str a10 0)) : Int) != 6 then some (bs [], bs [], 0, bs [], 0, 0, 0, bs [], 2)
     else
      bif decide (0 < (↑a10.length : Int)) then
       bif decide (0 < (↑a10.length : Int)) then
        bif decide (0 ≤ 4) && decide (4 ≤ (↑(ByteArray.size (rd Kind.str a10 0)) : Int)) then
         (impl_capitals (ByteArray.extract (rd Kind.str a10 0) (Int.toNat 0) (Int.toNat 4)) 4).bind fun val =>
          bif !val then some (bs [], bs [], 0, bs [], 0, 0, 0, bs [], 2)
          else
           bif decide (0 < (↑a10.length : Int)) then
            bif decide (0 < (↑a10.length : Int)) then
             bif decide (0 ≤ 4) && decide (4 ≤ (↑(ByteArray.size (rd Kind.str a10 0)) : Int)) then
              (impl_digits (ByteArray.extract (rd Kind.str a10 0) (Int.toNat 4) (↑(ByteArray.size (rd Kind.str a10 0)) : Int).toNat)).bind fun val =>
               bif !val then some (bs [], bs [], 0, bs [], 0, 0, 0, bs [], 2)
               else
                bif decide (0 < (↑a10.length : Int)) then
                 bif decide (0 < (↑a10.length : Int)) then
                  bif decide (0 ≤ 2) && decide (2 ≤ (↑(ByteArray.size (rd Kind.str a10 0)) : Int)) then
                   bif decide (0 < (↑a10.length : Int)) then
                    bif decide (0 < (↑a10.length : Int)) then
                     bif decide (0 ≤ 4) && decide (4 ≤ (↑(ByteArray.size (rd Kind.str a10 0)) : Int)) then
                      bif decide (0 < (↑a10.length : Int)) then
                       bif decide (0 < (↑a10.length : Int)) then
                        bif decide (0 ≤ 4) && decide (4 ≤ (↑(ByteArray.size (rd Kind.str a10 0)) : Int)) then
                         (impl_whole (ByteArray.extract (rd Kind.str a10 0) (Int.toNat 4) (↑(ByteArray.size (rd Kind.str a10 0)) : Int).toNat)).bind fun val =>
                          bif decide (1 < (↑a10.length : Int)) then
                           bif decide (1 < (↑a10.length : Int)) then
                            bif decide (1 < (↑a10.length : Int)) then
                             bif decide (1 < (↑a10.length : Int)) then
                              (impl_centreOk (rd Kind.str a10 1)).bind fun val_1 =>
                               bif !val_1 then some (bs [], bs [], 0, bs [], 0, 0, 0, bs [], 3)
                               else
                                bif decide (2 < (↑a10.length : Int)) then
                                 bif decide (2 < (↑a10.length : Int)) then
                                  bif (↑(ByteArray.size (rd Kind.str a10 2)) : Int) != 6 then some (bs [], bs [], 0, bs [], 0, 0, 0, bs [], 4)
                                  else
                                   bif decide (2 < (↑a10.length : Int)) then
                                    bif decide (2 < (↑a10.length : Int)) then
                                     (impl_digits (rd Kind.str a10 2)).bind fun val_2 =>
                                      bif !val_2 then some (bs [], bs [], 0, bs [], 0, 0, 0, bs [], 4)
                                      else
                                       bif decide (2 < (↑a10.length : Int)) then
                                        bif decide (2 < (↑a10.length : Int)) then
                                         bif decide (0 ≤ 2) && decide (2 ≤ (↑(ByteArray.size (rd Kind.str a10 2)) : Int)) then
                                          (impl_whole (ByteArray.extract (rd Kind.str a10 2) (Int.toNat 0) (Int.toNat 2))).bind fun val_3 =>
                                           bif decide (2 < (↑a10.length : Int)) then
                                            bif decide (2 < (↑a10.length : Int)) then
                                             bif decide (0 ≤ 4) && decide (4 ≤ (↑(ByteArray.size (rd Kind.str a10 2)) : Int)) then
                                              (impl_whole (ByteArray.extract (rd Kind.str a10 2) (Int.toNat 2) (Int.toNat 4))).bind fun val_4 => bif decide (2 < (↑a10.length : Int)) then bif decide (2 < (↑a10.length : Int)) then bif decide (0 ≤ 4) && decide (4 ≤ (↑(ByteArray.size (rd Kind.str a10 2)) : Int)) then (impl_whole (ByteArray.extract (rd Kind.str a10 2) (Int.toNat 4) (↑(ByteArray.size (rd Kind.str a10 2)) : Int).toNat)).bind fun val_5 => (impl_in val_3 1 31).bind fun val_6 => bif !val_6 then some (bs [], bs [], 0, bs [], 0, 0, 0, bs [], 4) else bif decide (val_4 > 23) then some (bs [], bs [], 0, bs [], 0, 0, 0, bs [], 4) else bif decide (val_5 > 59) then some (bs [], bs [], 0, bs [], 0, 0, 0, bs [], 4) else bif (↑a10.length : Int) == 4 then bif decide (3 < (↑a10.length : Int)) then bif decide (3 < (↑a10.length : Int)) then (impl_MarkOf (rd Kind.str a10 3)).bind fun val_7 => bif val_7.fst == -1 then some (bs [], bs [], 0, bs [], 0, 0, 0, bs [], 5) else some (ByteArray.extract (rd Kind.str a10 0) (Int.toNat 0) (Int.toNat 2), ByteArray.extract (rd Kind.str a10 0) (Int.toNat 2) (Int.toNat 4), val, rd Kind.str a10 1, val_3, val_4, val_5, rd Kind.str a10 3, 0) else none else none else some (ByteArray.extract (rd Kind.str a10 0) (Int.toNat 0) (Int.toNat 2), ByteArray.extract (rd Kind.str a10 0) (Int.toNat 2) (Int.toNat 4), val, rd Kind.str a10 1, val_3, val_4, val_5, bs [], 0) else none else none else none
                                             else none
                                            else none
                                           else none
                                         else none
                                        else none
                                       else none
                                    else none
                                   else none
                                 else none
                                else none
                             else none
                            else none
                           else none
                          else none
                        else none
                       else none
                      else none
                     else none
                    else none
                   else none
                  else none
                 else none
                else none
             else none
            else none
           else none
        else none
       else none
      else none
    else none
   else none
noncomputable def j_impl_ReadHeading : List (Nat × (Nat → Cut (ByteArray × ByteArray × Int × ByteArray × Int × Int × Int × ByteArray × Int))) := [(5, fun k => ⟨s_impl_ReadHeading_5, fun x => impl_ReadHeading_L5 k x.1.2.2.2.1 x.1.2.2.2.2.1 x.2.1.1 x.2.1.2.1 x.2.1.2.2.1 x.2.1.2.2.2.1 x.2.1.2.2.2.2.1 x.2.1.2.2.2.2.2.1 x.2.1.2.2.2.2.2.2.1 x.2.1.2.2.2.2.2.2.2.1 x.2.2.1⟩)]
noncomputable def impl_ReadHeading_F (k : Nat) (a0 : ByteArray) : Option (ByteArray × ByteArray × Int × ByteArray × Int × Int × Int × ByteArray × Int) :=
  (dSplit a0 (bs [32])).bind fun val => bif (↑(List.length val) : Int) != 3 then bif (↑(List.length val) : Int) != 4 then some (bs [], bs [], 0, bs [], 0, 0, 0, bs [], 1) else impl_ReadHeading_L5 k (↑(List.length val) : Int) 0 (bs []) (bs []) 0 (bs []) 0 0 0 (bs []) val else impl_ReadHeading_L5 k (↑(List.length val) : Int) 0 (bs []) (bs []) 0 (bs []) 0 0 0 (bs []) val
noncomputable def impl_ReadHeading (a0 : ByteArray) : Option (ByteArray × ByteArray × Int × ByteArray × Int × Int × Int × ByteArray × Int) := evF fun k => impl_ReadHeading_F k a0
noncomputable def g_impl_ReadHeading : Sg := ⟨i_impl_ReadHeading, o_impl_ReadHeading, ByteArray × ByteArray × Int × ByteArray × Int × Int × Int × ByteArray × Int, fun y => ((((y.1, y.2.1, y.2.2.1, y.2.2.2.1, y.2.2.2.2.1, y.2.2.2.2.2.1, y.2.2.2.2.2.2.1, y.2.2.2.2.2.2.2.1, ()), (y.2.2.2.2.2.2.2.2, ()), ()), ()), ()), fun x => impl_ReadHeading x.1.1⟩
noncomputable def C_impl_ReadHeading : Ctx := ⟨139, tiOf Tryd.prog, gl, sgOf [(106, gSplit), (107, g_impl_capitals), (96, g_impl_digits), (108, g_impl_whole), (109, g_impl_centreOk), (73, g_impl_in), (110, g_impl_MarkOf)]⟩
noncomputable def r_impl_ReadHeading : AExit → Env → Option (ByteArray × ByteArray × Int × ByteArray × Int × Int × Int × ByteArray × Int) := retK C_impl_ReadHeading 0 o_impl_ReadHeading (fun y => (y.1.1.1.1, y.1.1.1.2.1, y.1.1.1.2.2.1, y.1.1.1.2.2.2.1, y.1.1.1.2.2.2.2.1, y.1.1.1.2.2.2.2.2.1, y.1.1.1.2.2.2.2.2.2.1, y.1.1.1.2.2.2.2.2.2.2.1, y.1.1.2.1.1)) Tryd.f52.results.toList
theorem e_impl_ReadHeading : Sound Tryd.prog gl 52 g_impl_ReadHeading :=
  sound_cuts (C := C_impl_ReadHeading) ⟨fun _ _ h => h, by kernel_rfl⟩ (sgOf_all' ⟨.inl ⟨by kernel_rfl, eSplit⟩, .inl ⟨by kernel_rfl, e_impl_capitals⟩, .inl ⟨by kernel_rfl, (Sound.mono gl_DT (by rfl) e_impl_digits)⟩, .inl ⟨by kernel_rfl, e_impl_whole⟩, .inl ⟨by kernel_rfl, e_impl_centreOk⟩, .inl ⟨by kernel_rfl, (Sound.mono gl_DT (by rfl) e_impl_in)⟩, .inl ⟨by kernel_rfl, e_impl_MarkOf⟩, trivial⟩) 52 Tryd.f52 g_impl_ReadHeading (fun y => (y.1.1.1.1, y.1.1.1.2.1, y.1.1.1.2.2.1, y.1.1.1.2.2.2.1, y.1.1.1.2.2.2.2.1, y.1.1.1.2.2.2.2.2.1, y.1.1.1.2.2.2.2.2.2.1, y.1.1.1.2.2.2.2.2.2.2.1, y.1.1.2.1.1)) j_impl_ReadHeading 1 (by kernel_rfl) (by kernel_rfl) (by kernel_rfl) (by kernel_rfl) (by kernel_rfl) (by kernel_rfl) (fun _ => rfl) (by kernel_rfl) (by kernel_rfl)
    ⟨trivial, s_impl_ReadHeading_5, fun k x => impl_ReadHeading_L5 k x.1.2.2.2.1 x.1.2.2.2.2.1 x.2.1.1 x.2.1.2.1 x.2.1.2.2.1 x.2.1.2.2.2.1 x.2.1.2.2.2.2.1 x.2.1.2.2.2.2.2.1 x.2.1.2.2.2.2.2.2.1 x.2.1.2.2.2.2.2.2.2.1 x.2.2.1, ⟨fun k => by kernel_rfl, fun k y => by kernel_rfl, fun y => by kernel_rfl⟩⟩
    (fun k x => impl_ReadHeading_F k x.1.1) (fun x => rfl) (fun k x => by kernel_rfl)
-- loop.example/g00051/laws.eqHeading
noncomputable def i_laws_eqHeading : Shape := ⟨[(0, .agg [.str, .str, .int .i64, .str, .int .i64, .int .i64, .int .i64, .str]), (1, .agg [.str, .str, .int .i64, .str, .int .i64, .int .i64, .int .i64, .str])], []⟩
noncomputable def o_laws_eqHeading : Shape := ⟨[(0, .c (.bool))], []⟩
noncomputable def laws_eqHeading (a0 : ByteArray) (a1 : ByteArray) (a2 : Int) (a3 : ByteArray) (a4 : Int) (a5 : Int) (a6 : Int) (a7 : ByteArray) (a8 : ByteArray) (a9 : ByteArray) (a10 : Int) (a11 : ByteArray) (a12 : Int) (a13 : Int) (a14 : Int) (a15 : ByteArray) : Option (Bool) :=
  bif !a0.toList == a8.toList then some false else bif !a1.toList == a9.toList then some false else bif a2 != a10 then some false else bif !a3.toList == a11.toList then some false else bif a4 != a12 then some false else bif a5 != a13 then some false else bif a6 != a14 then some false else bif !a7.toList == a15.toList then some false else some true
noncomputable def g_laws_eqHeading : Sg := ⟨i_laws_eqHeading, o_laws_eqHeading, Bool, fun y => ((y, ()), ()), fun x => laws_eqHeading x.1.1.1 x.1.1.2.1 x.1.1.2.2.1 x.1.1.2.2.2.1 x.1.1.2.2.2.2.1 x.1.1.2.2.2.2.2.1 x.1.1.2.2.2.2.2.2.1 x.1.1.2.2.2.2.2.2.2.1 x.1.2.1.1 x.1.2.1.2.1 x.1.2.1.2.2.1 x.1.2.1.2.2.2.1 x.1.2.1.2.2.2.2.1 x.1.2.1.2.2.2.2.2.1 x.1.2.1.2.2.2.2.2.2.1 x.1.2.1.2.2.2.2.2.2.2.1⟩
noncomputable def C_laws_eqHeading : Ctx := ⟨45, tiOf Tryd.prog, gl, sgOf []⟩
noncomputable def r_laws_eqHeading : AExit → Env → Option (Bool) := retK C_laws_eqHeading 0 o_laws_eqHeading (fun y => y.1.1) Tryd.f53.results.toList
theorem e_laws_eqHeading : Sound Tryd.prog gl 53 g_laws_eqHeading :=
  sound_plain (C := C_laws_eqHeading) ⟨fun _ _ h => h, by kernel_rfl⟩ (sgOf_all' trivial) 53 Tryd.f53 g_laws_eqHeading (fun y => y.1.1) (by kernel_rfl) (by kernel_rfl) (by kernel_rfl) (by kernel_rfl) (by kernel_rfl) (by kernel_rfl) (fun _ => rfl) (fun x => by kernel_rfl)
-- loop.example/g00051/laws.FnExactReadHeading
noncomputable def i_laws_FnExactReadHeading : Shape := ⟨[(0, .c (.str))], []⟩
noncomputable def o_laws_FnExactReadHeading : Shape := ⟨[(0, .c (.bool))], []⟩
noncomputable def laws_FnExactReadHeading (a0 : ByteArray) : Option (Bool) :=
  bif decide ((↑a0.size : Int) > 1048576) then some true else (spec_ReadHeading a0).bind fun val => (impl_ReadHeading a0).bind fun val_1 => (laws_eqHeading val_1.fst val_1.snd.fst val_1.snd.snd.fst val_1.snd.snd.snd.fst val_1.snd.snd.snd.snd.fst val_1.snd.snd.snd.snd.snd.fst val_1.snd.snd.snd.snd.snd.snd.fst val_1.snd.snd.snd.snd.snd.snd.snd.fst val.fst val.snd.fst val.snd.snd.fst val.snd.snd.snd.fst val.snd.snd.snd.snd.fst val.snd.snd.snd.snd.snd.fst val.snd.snd.snd.snd.snd.snd.fst val.snd.snd.snd.snd.snd.snd.snd.fst).bind fun val_2 => bif !val_2 then some false else bif val_1.snd.snd.snd.snd.snd.snd.snd.snd != val.snd.snd.snd.snd.snd.snd.snd.snd then some false else some true
noncomputable def g_laws_FnExactReadHeading : Sg := ⟨i_laws_FnExactReadHeading, o_laws_FnExactReadHeading, Bool, fun y => ((y, ()), ()), fun x => laws_FnExactReadHeading x.1.1⟩
noncomputable def C_laws_FnExactReadHeading : Ctx := ⟨29, tiOf Tryd.prog, gl, sgOf [(51, g_spec_ReadHeading), (52, g_impl_ReadHeading), (53, g_laws_eqHeading)]⟩
noncomputable def r_laws_FnExactReadHeading : AExit → Env → Option (Bool) := retK C_laws_FnExactReadHeading 0 o_laws_FnExactReadHeading (fun y => y.1.1) Tryd.f11.results.toList
theorem e_laws_FnExactReadHeading : Sound Tryd.prog gl 11 g_laws_FnExactReadHeading :=
  sound_plain (C := C_laws_FnExactReadHeading) ⟨fun _ _ h => h, by kernel_rfl⟩ (sgOf_all' ⟨.inl ⟨by kernel_rfl, e_spec_ReadHeading⟩, .inl ⟨by kernel_rfl, e_impl_ReadHeading⟩, .inl ⟨by kernel_rfl, e_laws_eqHeading⟩, trivial⟩) 11 Tryd.f11 g_laws_FnExactReadHeading (fun y => y.1.1) (by kernel_rfl) (by kernel_rfl) (by kernel_rfl) (by kernel_rfl) (by kernel_rfl) (by kernel_rfl) (fun _ => rfl) (fun x => by kernel_rfl)
end Go.Proofs.YtmcmkdiefpepnaaDoor.RH
