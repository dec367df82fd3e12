/-
  Part of a proof by the engine: texts that a program of ours printed, or plain lemmas on them. No condition but what each theorem says.
-/
import Derived.Test.YtgkejafaggaocaaDoorDT
import Derived.Test.YtgkejafaggaocaaDoorEng5
import Derived.Test.YtgkejafaggaocaaDoorProg
import Derived.KernelRfl
import Derived.Test.YtgkejafaggaocaaDoorDoors5
import Derived.Test.YtgkejafaggaocaaDoorDoors6
set_option linter.unusedVariables false
set_option linter.unusedSimpArgs false
set_option maxRecDepth 100000
namespace Go.Proofs.YtgkejafaggaocaaDoor.RS
open Go Go.Eng Go.Proofs
open Go.Proofs.YtgkejafaggaocaaDoor.EX
open Go.Proofs.YtgkejafaggaocaaDoor.DT hiding gl
noncomputable def gl : Nat → Option (List Cell) := glOf [(4, L_strconv_uint64pow10.map (Cell.int .u64))]
theorem gl_DT : ∀ g cs, Go.Proofs.YtgkejafaggaocaaDoor.DT.gl g = some cs → gl g = some cs := glOf_mono (by intro p hp; simp only [List.mem_cons, List.not_mem_nil, or_false] at hp; subst hp <;> rfl)
-- loop.example/g00051/spec.l4Pieces
noncomputable def i_spec_l4Pieces : Shape := ⟨[(0, .c (.str))], []⟩
noncomputable def o_spec_l4Pieces : Shape := ⟨[(0, .c (.ref 0))], [.lst 9 .str]⟩
noncomputable def s_spec_l4Pieces_4 : Shape := ⟨[(0, .c (.str)), (3, .c (.ref 0)), (4, .c (.int .i64)), (5, .c (.int .i64))], [.lst 9 .str]⟩
noncomputable def spec_l4Pieces_L4 : Nat → ByteArray → Int → Int → (List ByteArray) → Option ((List ByteArray))
  | 0, _, _, _, _ => none
  | k + 1, a0, a1, a2, a3 =>
  bif decide (a2 ≤ (↑a0.size : Int)) then bif a2 == (↑a0.size : Int) then bif decide (0 ≤ a2) && decide (a2 ≤ (↑a0.size : Int)) then bif decide (0 ≤ a1) && decide (a1 ≤ a2) then bif decide (a3.length + [a0.extract a1.toNat a2.toNat].length ≤ maxBytes / 16) then spec_l4Pieces_L4 k a0 (IntKind.i64.wrap (a2 + 1)) (IntKind.i64.wrap (a2 + 1)) (a3 ++ [a0.extract a1.toNat a2.toNat]) else none else none else none else bif decide (0 ≤ a2) then bif decide (a2 < (↑a0.size : Int)) then bif bt a0 a2 == 32 then bif decide (0 ≤ a2) && decide (a2 ≤ (↑a0.size : Int)) then bif decide (0 ≤ a1) && decide (a1 ≤ a2) then bif decide (a3.length + [a0.extract a1.toNat a2.toNat].length ≤ maxBytes / 16) then spec_l4Pieces_L4 k a0 (IntKind.i64.wrap (a2 + 1)) (IntKind.i64.wrap (a2 + 1)) (a3 ++ [a0.extract a1.toNat a2.toNat]) else none else none else none else spec_l4Pieces_L4 k a0 a1 (IntKind.i64.wrap (a2 + 1)) a3 else none else none else some a3
noncomputable def j_spec_l4Pieces : List (Nat × (Nat → Cut ((List ByteArray)))) := [(4, fun k => ⟨s_spec_l4Pieces_4, fun x => spec_l4Pieces_L4 k x.1.1 x.1.2.2.1 x.1.2.2.2.1 x.2.1⟩)]
noncomputable def spec_l4Pieces_F (k : Nat) (a0 : ByteArray) : Option ((List ByteArray)) :=
  spec_l4Pieces_L4 k a0 0 0 []
noncomputable def spec_l4Pieces (a0 : ByteArray) : Option ((List ByteArray)) := evF fun k => spec_l4Pieces_F k a0
noncomputable def g_spec_l4Pieces : Sg := ⟨i_spec_l4Pieces, o_spec_l4Pieces, (List ByteArray), fun y => (((), ()), (y, ())), fun x => spec_l4Pieces x.1.1⟩
noncomputable def C_spec_l4Pieces : Ctx := ⟨33, tiOf Tryd.prog, gl, sgOf []⟩
noncomputable def r_spec_l4Pieces : AExit → Env → Option ((List ByteArray)) := retK C_spec_l4Pieces 0 o_spec_l4Pieces (fun y => y.2.1) Tryd.f27.results.toList
theorem e_spec_l4Pieces : Sound Tryd.prog gl 27 g_spec_l4Pieces :=
  sound_cuts (C := C_spec_l4Pieces) ⟨fun _ _ h => h, by kernel_rfl⟩ (sgOf_all' trivial) 27 Tryd.f27 g_spec_l4Pieces (fun y => y.2.1) j_spec_l4Pieces 1 (by kernel_rfl) (by kernel_rfl) (by kernel_rfl) (by kernel_rfl) (by kernel_rfl) (by kernel_rfl) (fun _ => rfl) (by kernel_rfl) (by kernel_rfl)
    ⟨trivial, s_spec_l4Pieces_4, fun k x => spec_l4Pieces_L4 k x.1.1 x.1.2.2.1 x.1.2.2.2.1 x.2.1, ⟨fun k => by kernel_rfl, fun k y => by kernel_rfl, fun y => by kernel_rfl⟩⟩
    (fun k x => spec_l4Pieces_F k x.1.1) (fun x => rfl) (fun k x => by kernel_rfl)
-- loop.example/g00051/spec.l1Digit
noncomputable def i_spec_l1Digit : Shape := ⟨[(0, .c (.int .u8))], []⟩
noncomputable def o_spec_l1Digit : Shape := ⟨[(0, .c (.bool))], []⟩
noncomputable def spec_l1Digit (a0 : Int) : Option (Bool) :=
  bif decide (a0 ≥ 48) then some (decide (a0 ≤ 57)) else some false
noncomputable def g_spec_l1Digit : Sg := ⟨i_spec_l1Digit, o_spec_l1Digit, Bool, fun y => ((y, ()), ()), fun x => spec_l1Digit x.1.1⟩
noncomputable def C_spec_l1Digit : Ctx := ⟨9, tiOf Tryd.prog, gl, sgOf []⟩
noncomputable def r_spec_l1Digit : AExit → Env → Option (Bool) := retK C_spec_l1Digit 0 o_spec_l1Digit (fun y => y.1.1) Tryd.f59.results.toList
theorem e_spec_l1Digit : Sound Tryd.prog gl 59 g_spec_l1Digit :=
  sound_plain (C := C_spec_l1Digit) ⟨fun _ _ h => h, by kernel_rfl⟩ (sgOf_all' trivial) 59 Tryd.f59 g_spec_l1Digit (fun y => y.1.1) (by kernel_rfl) (by kernel_rfl) (by kernel_rfl) (by kernel_rfl) (by kernel_rfl) (by kernel_rfl) (fun _ => rfl) (fun x => by kernel_rfl)
-- loop.example/g00051/spec.l2Number
noncomputable def i_spec_l2Number : Shape := ⟨[(0, .c (.str))], []⟩
noncomputable def o_spec_l2Number : Shape := ⟨[(0, .c (.int .i64))], []⟩
noncomputable def s_spec_l2Number_5 : Shape := ⟨[(0, .c (.str)), (3, .c (.int .i64)), (4, .c (.int .i64))], []⟩
noncomputable def spec_l2Number_L5 : Nat → ByteArray → Int → Int → Option (Int)
  | 0, _, _, _ => none
  | k + 1, a0, a1, a2 =>
  bif decide (a2 < (↑a0.size : Int)) then bif decide (0 ≤ a2) then bif decide (a2 < (↑a0.size : Int)) then (spec_l1Digit (bt a0 a2)).bind fun val => bif !val then some (-1) else bif decide (0 ≤ a2) then bif decide (a2 < (↑a0.size : Int)) then spec_l2Number_L5 k a0 (IntKind.i64.wrap (IntKind.i64.wrap (a1 * 10) + IntKind.i64.wrap (IntKind.u8.wrap (bt a0 a2 - 48)))) (IntKind.i64.wrap (a2 + 1)) else none else none else none else none else some a1
noncomputable def j_spec_l2Number : List (Nat × (Nat → Cut (Int))) := [(5, fun k => ⟨s_spec_l2Number_5, fun x => spec_l2Number_L5 k x.1.1 x.1.2.1 x.1.2.2.1⟩)]
noncomputable def spec_l2Number_F (k : Nat) (a0 : ByteArray) : Option (Int) :=
  bif (↑a0.size : Int) == 0 then some (-1) else bif decide ((↑a0.size : Int) > 15) then some (-1) else spec_l2Number_L5 k a0 0 0
noncomputable def spec_l2Number (a0 : ByteArray) : Option (Int) := evF fun k => spec_l2Number_F k a0
noncomputable def g_spec_l2Number : Sg := ⟨i_spec_l2Number, o_spec_l2Number, Int, fun y => ((y, ()), ()), fun x => spec_l2Number x.1.1⟩
noncomputable def C_spec_l2Number : Ctx := ⟨33, tiOf Tryd.prog, gl, sgOf [(59, g_spec_l1Digit)]⟩
noncomputable def r_spec_l2Number : AExit → Env → Option (Int) := retK C_spec_l2Number 0 o_spec_l2Number (fun y => y.1.1) Tryd.f28.results.toList
theorem e_spec_l2Number : Sound Tryd.prog gl 28 g_spec_l2Number :=
  sound_cuts (C := C_spec_l2Number) ⟨fun _ _ h => h, by kernel_rfl⟩ (sgOf_all' ⟨.inl ⟨by kernel_rfl, e_spec_l1Digit⟩, trivial⟩) 28 Tryd.f28 g_spec_l2Number (fun y => y.1.1) j_spec_l2Number 1 (by kernel_rfl) (by kernel_rfl) (by kernel_rfl) (by kernel_rfl) (by kernel_rfl) (by kernel_rfl) (fun _ => rfl) (by kernel_rfl) (by kernel_rfl)
    ⟨trivial, s_spec_l2Number_5, fun k x => spec_l2Number_L5 k x.1.1 x.1.2.1 x.1.2.2.1, ⟨fun k => by kernel_rfl, fun k y => by kernel_rfl, fun y => by kernel_rfl⟩⟩
    (fun k x => spec_l2Number_F k x.1.1) (fun x => rfl) (fun k x => by kernel_rfl)
-- loop.example/g00051/spec.l17SoilOk
noncomputable def i_spec_l17SoilOk : Shape := ⟨[(0, .agg [.int .i64, .int .i64, .int .i64, .int .i64, .int .i64])], []⟩
noncomputable def o_spec_l17SoilOk : Shape := ⟨[(0, .c (.bool))], []⟩
noncomputable def s_spec_l17SoilOk_2 : Shape := ⟨[(1, .c (.ptr 0 0)), (15, .c (.ref 1)), (16, .c (.int .i64)), (17, .c (.int .i64))], [.box 23 [.int .i64, .int .i64, .int .i64, .int .i64, .int .i64], .lst 2 (.int .i64)]⟩
noncomputable def spec_l17SoilOk_L2 : Nat → Int → Int → Int → Int → Int → Int → Int → (List Int) → Option (Bool)
  | 0, _, _, _, _, _, _, _, _ => none
  | k + 1, a0, a1, a2, a3, a4, a5, a6, a7 =>
  bif decide (a1 < a0) then bif decide (0 ≤ a1) then bif decide (a1 < (↑a7.length : Int)) then bif decide (a1 < (↑a7.length : Int)) then (spec_l2In (rd (Kind.int IntKind.i64) a7 a1) 0 1000000000000).bind fun val => bif !val then some false else spec_l17SoilOk_L2 k a0 (IntKind.i64.wrap (a1 + 1)) a2 a3 a4 a5 a6 a7 else none else none else none else bif decide (a3 ≤ 400) then bif decide (a4 ≤ 1500) then some (a6 == IntKind.i64.wrap (IntKind.i64.wrap (IntKind.i64.wrap (a2 + a3) + a4) + a5)) else some false else some false
noncomputable def j_spec_l17SoilOk : List (Nat × (Nat → Cut (Bool))) := [(2, fun k => ⟨s_spec_l17SoilOk_2, fun x => spec_l17SoilOk_L2 k x.1.2.2.1 x.1.2.2.2.1 x.2.1.1 x.2.1.2.1 x.2.1.2.2.1 x.2.1.2.2.2.1 x.2.1.2.2.2.2.1 x.2.2.1⟩)]
noncomputable def spec_l17SoilOk_F (k : Nat) (a0 : Int) (a1 : Int) (a2 : Int) (a3 : Int) (a4 : Int) : Option (Bool) :=
  spec_l17SoilOk_L2 k (↑[a0, a1, a2, a3, a4].length : Int) 0 a0 a1 a2 a3 a4 [a0, a1, a2, a3, a4]
noncomputable def spec_l17SoilOk (a0 : Int) (a1 : Int) (a2 : Int) (a3 : Int) (a4 : Int) : Option (Bool) := evF fun k => spec_l17SoilOk_F k a0 a1 a2 a3 a4
noncomputable def g_spec_l17SoilOk : Sg := ⟨i_spec_l17SoilOk, o_spec_l17SoilOk, Bool, fun y => ((y, ()), ()), fun x => spec_l17SoilOk x.1.1.1 x.1.1.2.1 x.1.1.2.2.1 x.1.1.2.2.2.1 x.1.1.2.2.2.2.1⟩
noncomputable def C_spec_l17SoilOk : Ctx := ⟨49, tiOf Tryd.prog, gl, sgOf [(37, g_spec_l2In)]⟩
noncomputable def r_spec_l17SoilOk : AExit → Env → Option (Bool) := retK C_spec_l17SoilOk 0 o_spec_l17SoilOk (fun y => y.1.1) Tryd.f29.results.toList
theorem e_spec_l17SoilOk : Sound Tryd.prog gl 29 g_spec_l17SoilOk :=
  sound_cuts (C := C_spec_l17SoilOk) ⟨fun _ _ h => h, by kernel_rfl⟩ (sgOf_all' ⟨.inl ⟨by kernel_rfl, (Sound.mono gl_DT (by rfl) e_spec_l2In)⟩, trivial⟩) 29 Tryd.f29 g_spec_l17SoilOk (fun y => y.1.1) j_spec_l17SoilOk 1 (by kernel_rfl) (by kernel_rfl) (by kernel_rfl) (by kernel_rfl) (by kernel_rfl) (by kernel_rfl) (fun _ => rfl) (by kernel_rfl) (by kernel_rfl)
    ⟨trivial, s_spec_l17SoilOk_2, fun k x => spec_l17SoilOk_L2 k x.1.2.2.1 x.1.2.2.2.1 x.2.1.1 x.2.1.2.1 x.2.1.2.2.1 x.2.1.2.2.2.1 x.2.1.2.2.2.2.1 x.2.2.1, ⟨fun k => by kernel_rfl, fun k y => by kernel_rfl, fun y => by kernel_rfl⟩⟩
    (fun k x => spec_l17SoilOk_F k x.1.1.1 x.1.1.2.1 x.1.1.2.2.1 x.1.1.2.2.2.1 x.1.1.2.2.2.2.1) (fun x => rfl) (fun k x => by kernel_rfl)
-- loop.example/g00051/spec.SoilText
noncomputable def i_spec_SoilText : Shape := ⟨[(0, .agg [.int .i64, .int .i64, .int .i64, .int .i64, .int .i64])], []⟩
noncomputable def o_spec_SoilText : Shape := ⟨[(0, .c (.str))], []⟩
noncomputable def spec_SoilText (a0 : Int) (a1 : Int) (a2 : Int) (a3 : Int) (a4 : Int) : Option (ByteArray) :=
  (spec_l17SoilOk a0 a1 a2 a3 a4).bind fun val => bif !val then some (bs []) else (spec_l1Dec a0).bind fun val => bif decide (ByteArray.size val + (bs [32]).size ≤ 9223372036854775807) then (spec_l1Dec a1).bind fun val_1 => bif decide ((val ++ bs [32]).size + ByteArray.size val_1 ≤ 9223372036854775807) then bif decide ((val ++ bs [32] ++ val_1).size + (bs [32]).size ≤ 9223372036854775807) then (spec_l1Dec a2).bind fun val_2 => bif decide ((val ++ bs [32] ++ val_1 ++ bs [32]).size + ByteArray.size val_2 ≤ 9223372036854775807) then bif decide ((val ++ bs [32] ++ val_1 ++ bs [32] ++ val_2).size + (bs [32]).size ≤ 9223372036854775807) then (spec_l1Dec a3).bind fun val_3 => bif decide ((val ++ bs [32] ++ val_1 ++ bs [32] ++ val_2 ++ bs [32]).size + ByteArray.size val_3 ≤ 9223372036854775807) then bif decide ((val ++ bs [32] ++ val_1 ++ bs [32] ++ val_2 ++ bs [32] ++ val_3).size + (bs [32]).size ≤ 9223372036854775807) then (spec_l1Dec a4).bind fun val_4 => bif decide ((val ++ bs [32] ++ val_1 ++ bs [32] ++ val_2 ++ bs [32] ++ val_3 ++ bs [32]).size + ByteArray.size val_4 ≤ 9223372036854775807) then some (val ++ bs [32] ++ val_1 ++ bs [32] ++ val_2 ++ bs [32] ++ val_3 ++ bs [32] ++ val_4) else none else none else none else none else none else none else none else none
noncomputable def g_spec_SoilText : Sg := ⟨i_spec_SoilText, o_spec_SoilText, ByteArray, fun y => ((y, ()), ()), fun x => spec_SoilText x.1.1.1 x.1.1.2.1 x.1.1.2.2.1 x.1.1.2.2.2.1 x.1.1.2.2.2.2.1⟩
noncomputable def C_spec_SoilText : Ctx := ⟨29, tiOf Tryd.prog, gl, sgOf [(29, g_spec_l17SoilOk), (78, g_spec_l1Dec)]⟩
noncomputable def r_spec_SoilText : AExit → Env → Option (ByteArray) := retK C_spec_SoilText 0 o_spec_SoilText (fun y => y.1.1) Tryd.f30.results.toList
theorem e_spec_SoilText : Sound Tryd.prog gl 30 g_spec_SoilText :=
  sound_plain (C := C_spec_SoilText) ⟨fun _ _ h => h, by kernel_rfl⟩ (sgOf_all' ⟨.inl ⟨by kernel_rfl, e_spec_l17SoilOk⟩, .inl ⟨by kernel_rfl, (Sound.mono gl_DT (by rfl) e_spec_l1Dec)⟩, trivial⟩) 30 Tryd.f30 g_spec_SoilText (fun y => y.1.1) (by kernel_rfl) (by kernel_rfl) (by kernel_rfl) (by kernel_rfl) (by kernel_rfl) (by kernel_rfl) (fun _ => rfl) (fun x => by kernel_rfl)
-- loop.example/g00051/spec.ReadSoil
noncomputable def i_spec_ReadSoil : Shape := ⟨[(0, .c (.str))], []⟩
noncomputable def o_spec_ReadSoil : Shape := ⟨[(0, .tup [(true, [.int .i64, .int .i64, .int .i64, .int .i64, .int .i64]), (false, [.bool])])], []⟩
noncomputable def spec_ReadSoil (a0 : ByteArray) : Option (Int × Int × Int × Int × Int × Bool) :=
  bif decide ((↑a0.size : Int) > 100) then some (0, 0, 0, 0, 0, false) else (spec_l4Pieces a0).bind fun val => bif (↑(List.length val) : Int) != 5 then some (0, 0, 0, 0, 0, false) else bif decide (0 < (↑(List.length val) : Int)) then bif decide (0 < (↑(List.length val) : Int)) then (spec_l2Number (rd Kind.str val 0)).bind fun val_1 => bif decide (1 < (↑(List.length val) : Int)) then bif decide (1 < (↑(List.length val) : Int)) then (spec_l2Number (rd Kind.str val 1)).bind fun val_2 => bif decide (2 < (↑(List.length val) : Int)) then bif decide (2 < (↑(List.length val) : Int)) then (spec_l2Number (rd Kind.str val 2)).bind fun val_3 => bif decide (3 < (↑(List.length val) : Int)) then bif decide (3 < (↑(List.length val) : Int)) then (spec_l2Number (rd Kind.str val 3)).bind fun val_4 => bif decide (4 < (↑(List.length val) : Int)) then bif decide (4 < (↑(List.length val) : Int)) then (spec_l2Number (rd Kind.str val 4)).bind fun val => (spec_l17SoilOk val_1 val_2 val_3 val_4 val).bind fun val_5 => bif !val_5 then some (0, 0, 0, 0, 0, false) else (spec_SoilText val_1 val_2 val_3 val_4 val).bind fun val_6 => bif !ByteArray.toList val_6 == a0.toList then some (0, 0, 0, 0, 0, false) else some (val_1, val_2, val_3, val_4, val, true) else none else none else none else none else none else none else none else none else none else none
noncomputable def g_spec_ReadSoil : Sg := ⟨i_spec_ReadSoil, o_spec_ReadSoil, Int × Int × Int × Int × Int × Bool, fun y => ((((y.1, y.2.1, y.2.2.1, y.2.2.2.1, y.2.2.2.2.1, ()), (y.2.2.2.2.2, ()), ()), ()), ()), fun x => spec_ReadSoil x.1.1⟩
noncomputable def C_spec_ReadSoil : Ctx := ⟨48, tiOf Tryd.prog, gl, sgOf [(27, g_spec_l4Pieces), (28, g_spec_l2Number), (29, g_spec_l17SoilOk), (30, g_spec_SoilText)]⟩
noncomputable def r_spec_ReadSoil : AExit → Env → Option (Int × Int × Int × Int × Int × Bool) := retK C_spec_ReadSoil 0 o_spec_ReadSoil (fun y => (y.1.1.1.1, y.1.1.1.2.1, y.1.1.1.2.2.1, y.1.1.1.2.2.2.1, y.1.1.1.2.2.2.2.1, y.1.1.2.1.1)) Tryd.f8.results.toList
theorem e_spec_ReadSoil : Sound Tryd.prog gl 8 g_spec_ReadSoil :=
  sound_plain (C := C_spec_ReadSoil) ⟨fun _ _ h => h, by kernel_rfl⟩ (sgOf_all' ⟨.inl ⟨by kernel_rfl, e_spec_l4Pieces⟩, .inl ⟨by kernel_rfl, e_spec_l2Number⟩, .inl ⟨by kernel_rfl, e_spec_l17SoilOk⟩, .inl ⟨by kernel_rfl, e_spec_SoilText⟩, trivial⟩) 8 Tryd.f8 g_spec_ReadSoil (fun y => (y.1.1.1.1, y.1.1.1.2.1, y.1.1.1.2.2.1, y.1.1.1.2.2.2.1, y.1.1.1.2.2.2.2.1, y.1.1.2.1.1)) (by kernel_rfl) (by kernel_rfl) (by kernel_rfl) (by kernel_rfl) (by kernel_rfl) (by kernel_rfl) (fun _ => rfl) (fun x => by kernel_rfl)
-- loop.example/g00051/impl.whole
noncomputable def i_impl_whole : Shape := ⟨[(0, .c (.str))], []⟩
noncomputable def o_impl_whole : Shape := ⟨[(0, .c (.int .i64))], []⟩
noncomputable def impl_whole (a0 : ByteArray) : Option (Int) :=
  (dPar a0 10 64).bind fun val => some val
noncomputable def g_impl_whole : Sg := ⟨i_impl_whole, o_impl_whole, Int, fun y => ((y, ()), ()), fun x => impl_whole x.1.1⟩
noncomputable def C_impl_whole : Ctx := ⟨11, tiOf Tryd.prog, gl, sgOf [(67, gPar)]⟩
noncomputable def r_impl_whole : AExit → Env → Option (Int) := retK C_impl_whole 0 o_impl_whole (fun y => y.1.1) Tryd.f80.results.toList
theorem e_impl_whole : Sound Tryd.prog gl 80 g_impl_whole :=
  sound_plain (C := C_impl_whole) ⟨fun _ _ h => h, by kernel_rfl⟩ (sgOf_all' ⟨.inl ⟨by kernel_rfl, ePar⟩, trivial⟩) 80 Tryd.f80 g_impl_whole (fun y => y.1.1) (by kernel_rfl) (by kernel_rfl) (by kernel_rfl) (by kernel_rfl) (by kernel_rfl) (by kernel_rfl) (fun _ => rfl) (fun x => by kernel_rfl)
-- loop.example/g00051/impl.decimal
noncomputable def i_impl_decimal : Shape := ⟨[(0, .c (.str))], []⟩
noncomputable def o_impl_decimal : Shape := ⟨[(0, .tup [(false, [.int .i64]), (false, [.bool])])], []⟩
noncomputable def impl_decimal (a0 : ByteArray) : Option (Int × Bool) :=
  (impl_digits a0).bind fun val => bif !val then some (0, false) else bif decide ((↑a0.size : Int) > 18) then some (0, false) else bif decide ((↑a0.size : Int) > 1) then bif decide (0 < (↑a0.size : Int)) then bif bt a0 0 == 48 then some (0, false) else (impl_whole a0).bind fun val => some (val, true) else none else (impl_whole a0).bind fun val => some (val, true)
noncomputable def g_impl_decimal : Sg := ⟨i_impl_decimal, o_impl_decimal, Int × Bool, fun y => ((((y.1, ()), (y.2, ()), ()), ()), ()), fun x => impl_decimal x.1.1⟩
noncomputable def C_impl_decimal : Ctx := ⟨24, tiOf Tryd.prog, gl, sgOf [(66, g_impl_digits), (80, g_impl_whole)]⟩
noncomputable def r_impl_decimal : AExit → Env → Option (Int × Bool) := retK C_impl_decimal 0 o_impl_decimal (fun y => (y.1.1.1.1, y.1.1.2.1.1)) Tryd.f32.results.toList
theorem e_impl_decimal : Sound Tryd.prog gl 32 g_impl_decimal :=
  sound_plain (C := C_impl_decimal) ⟨fun _ _ h => h, by kernel_rfl⟩ (sgOf_all' ⟨.inl ⟨by kernel_rfl, (Sound.mono gl_DT (by rfl) e_impl_digits)⟩, .inl ⟨by kernel_rfl, e_impl_whole⟩, trivial⟩) 32 Tryd.f32 g_impl_decimal (fun y => (y.1.1.1.1, y.1.1.2.1.1)) (by kernel_rfl) (by kernel_rfl) (by kernel_rfl) (by kernel_rfl) (by kernel_rfl) (by kernel_rfl) (fun _ => rfl) (fun x => by kernel_rfl)
-- loop.example/g00051/impl.soilOk
noncomputable def i_impl_soilOk : Shape := ⟨[(0, .agg [.int .i64, .int .i64, .int .i64, .int .i64, .int .i64])], []⟩
noncomputable def o_impl_soilOk : Shape := ⟨[(0, .c (.bool))], []⟩
noncomputable def impl_soilOk (a0 : Int) (a1 : Int) (a2 : Int) (a3 : Int) (a4 : Int) : Option (Bool) :=
  (impl_in a0 0 1000000000000).bind fun val => bif val then (impl_in a1 0 400).bind fun val => bif val then (impl_in a2 0 1500).bind fun val => bif val then (impl_in a3 0 1000000000000).bind fun val => bif val then (impl_in a4 0 1000000000000).bind fun val => bif val then some (a4 == IntKind.i64.wrap (IntKind.i64.wrap (IntKind.i64.wrap (a0 + a1) + a2) + a3)) else some false else some false else some false else some false else some false
noncomputable def g_impl_soilOk : Sg := ⟨i_impl_soilOk, o_impl_soilOk, Bool, fun y => ((y, ()), ()), fun x => impl_soilOk x.1.1.1 x.1.1.2.1 x.1.1.2.2.1 x.1.1.2.2.2.1 x.1.1.2.2.2.2.1⟩
noncomputable def C_impl_soilOk : Ctx := ⟨42, tiOf Tryd.prog, gl, sgOf [(38, g_impl_in)]⟩
noncomputable def r_impl_soilOk : AExit → Env → Option (Bool) := retK C_impl_soilOk 0 o_impl_soilOk (fun y => y.1.1) Tryd.f33.results.toList
theorem e_impl_soilOk : Sound Tryd.prog gl 33 g_impl_soilOk :=
  sound_plain (C := C_impl_soilOk) ⟨fun _ _ h => h, by kernel_rfl⟩ (sgOf_all' ⟨.inl ⟨by kernel_rfl, (Sound.mono gl_DT (by rfl) e_impl_in)⟩, trivial⟩) 33 Tryd.f33 g_impl_soilOk (fun y => y.1.1) (by kernel_rfl) (by kernel_rfl) (by kernel_rfl) (by kernel_rfl) (by kernel_rfl) (by kernel_rfl) (fun _ => rfl) (fun x => by kernel_rfl)
-- loop.example/g00051/impl.ReadSoil
noncomputable def i_impl_ReadSoil : Shape := ⟨[(0, .c (.str))], []⟩
noncomputable def o_impl_ReadSoil : Shape := ⟨[(0, .tup [(true, [.int .i64, .int .i64, .int .i64, .int .i64, .int .i64]), (false, [.bool])])], []⟩
noncomputable def s_impl_ReadSoil_6 : Shape := ⟨[(2, .c (.ptr 0 0)), (5, .c (.ptr 1 0)), (17, .c (.ref 2)), (18, .c (.int .i64)), (19, .c (.int .i64))], [.box 23 [.int .i64, .int .i64, .int .i64, .int .i64, .int .i64], .box 55 [.int .i64, .int .i64, .int .i64, .int .i64, .int .i64], .lst 9 .str]⟩
noncomputable def impl_ReadSoil_L6 : Nat → Int → Int → Int → Int → Int → Int → Int → Int → Int → Int → Int → Int → (List ByteArray) → Option (Int × Int × Int × Int × Int × Bool)
  | 0, _, _, _, _, _, _, _, _, _, _, _, _, _ => none
  | k + 1, a0, a1, a2, a3, a4, a5, a6, a7, a8, a9, a10, a11, a12 =>
  bif decide (a1 < a0) then bif decide (0 ≤ a1) then bif decide (a1 < (↑a12.length : Int)) then bif decide (a1 < (↑a12.length : Int)) then (impl_decimal (rd Kind.str a12 a1)).bind fun val => bif !val.snd then some (0, 0, 0, 0, 0, false) else bif decide (a1 = (↑0 : Int)) then impl_ReadSoil_L6 k a0 (IntKind.i64.wrap (a1 + 1)) a2 a3 a4 a5 a6 val.fst a8 a9 a10 a11 a12 else bif decide (a1 = (↑(0 + 1) : Int)) then impl_ReadSoil_L6 k a0 (IntKind.i64.wrap (a1 + 1)) a2 a3 a4 a5 a6 a7 val.fst a9 a10 a11 a12 else bif decide (a1 = (↑(0 + 1 + 1) : Int)) then impl_ReadSoil_L6 k a0 (IntKind.i64.wrap (a1 + 1)) a2 a3 a4 a5 a6 a7 a8 val.fst a10 a11 a12 else bif decide (a1 = (↑(0 + 1 + 1 + 1) : Int)) then impl_ReadSoil_L6 k a0 (IntKind.i64.wrap (a1 + 1)) a2 a3 a4 a5 a6 a7 a8 a9 val.fst a11 a12 else bif decide (a1 = (↑(0 + 1 + 1 + 1 + 1) : Int)) then impl_ReadSoil_L6 k a0 (IntKind.i64.wrap (a1 + 1)) a2 a3 a4 a5 a6 a7 a8 a9 a10 val.fst a12 else none else none else none else none else (impl_soilOk a7 a8 a9 a10 a11).bind fun val => bif !val then some (0, 0, 0, 0, 0, false) else some (a7, a8, a9, a10, a11, true)
noncomputable def j_impl_ReadSoil : List (Nat × (Nat → Cut (Int × Int × Int × Int × Int × Bool))) := [(6, fun k => ⟨s_impl_ReadSoil_6, fun x => impl_ReadSoil_L6 k x.1.2.2.2.1 x.1.2.2.2.2.1 x.2.1.1 x.2.1.2.1 x.2.1.2.2.1 x.2.1.2.2.2.1 x.2.1.2.2.2.2.1 x.2.2.1.1 x.2.2.1.2.1 x.2.2.1.2.2.1 x.2.2.1.2.2.2.1 x.2.2.1.2.2.2.2.1 x.2.2.2.1⟩)]
noncomputable def impl_ReadSoil_F (k : Nat) (a0 : ByteArray) : Option (Int × Int × Int × Int × Int × Bool) :=
  (dSplit a0 (bs [32])).bind fun val => bif (↑(List.length val) : Int) != 5 then some (0, 0, 0, 0, 0, false) else impl_ReadSoil_L6 k (↑(List.length val) : Int) 0 0 0 0 0 0 0 0 0 0 0 val
noncomputable def impl_ReadSoil (a0 : ByteArray) : Option (Int × Int × Int × Int × Int × Bool) := evF fun k => impl_ReadSoil_F k a0
noncomputable def g_impl_ReadSoil : Sg := ⟨i_impl_ReadSoil, o_impl_ReadSoil, Int × Int × Int × Int × Int × Bool, fun y => ((((y.1, y.2.1, y.2.2.1, y.2.2.2.1, y.2.2.2.2.1, ()), (y.2.2.2.2.2, ()), ()), ()), ()), fun x => impl_ReadSoil x.1.1⟩
noncomputable def C_impl_ReadSoil : Ctx := ⟨52, tiOf Tryd.prog, gl, sgOf [(31, gSplit), (32, g_impl_decimal), (33, g_impl_soilOk)]⟩
noncomputable def r_impl_ReadSoil : AExit → Env → Option (Int × Int × Int × Int × Int × Bool) := retK C_impl_ReadSoil 0 o_impl_ReadSoil (fun y => (y.1.1.1.1, y.1.1.1.2.1, y.1.1.1.2.2.1, y.1.1.1.2.2.2.1, y.1.1.1.2.2.2.2.1, y.1.1.2.1.1)) Tryd.f9.results.toList
theorem e_impl_ReadSoil : Sound Tryd.prog gl 9 g_impl_ReadSoil :=
  sound_cuts (C := C_impl_ReadSoil) ⟨fun _ _ h => h, by kernel_rfl⟩ (sgOf_all' ⟨.inl ⟨by kernel_rfl, eSplit⟩, .inl ⟨by kernel_rfl, e_impl_decimal⟩, .inl ⟨by kernel_rfl, e_impl_soilOk⟩, trivial⟩) 9 Tryd.f9 g_impl_ReadSoil (fun y => (y.1.1.1.1, y.1.1.1.2.1, y.1.1.1.2.2.1, y.1.1.1.2.2.2.1, y.1.1.1.2.2.2.2.1, y.1.1.2.1.1)) j_impl_ReadSoil 1 (by kernel_rfl) (by kernel_rfl) (by kernel_rfl) (by kernel_rfl) (by kernel_rfl) (by kernel_rfl) (fun _ => rfl) (by kernel_rfl) (by kernel_rfl)
    ⟨trivial, s_impl_ReadSoil_6, fun k x => impl_ReadSoil_L6 k x.1.2.2.2.1 x.1.2.2.2.2.1 x.2.1.1 x.2.1.2.1 x.2.1.2.2.1 x.2.1.2.2.2.1 x.2.1.2.2.2.2.1 x.2.2.1.1 x.2.2.1.2.1 x.2.2.1.2.2.1 x.2.2.1.2.2.2.1 x.2.2.1.2.2.2.2.1 x.2.2.2.1, ⟨fun k => by kernel_rfl, fun k y => by kernel_rfl, fun y => by kernel_rfl⟩⟩
    (fun k x => impl_ReadSoil_F k x.1.1) (fun x => rfl) (fun k x => by kernel_rfl)
-- loop.example/g00051/laws.eqSoil
noncomputable def i_laws_eqSoil : Shape := ⟨[(0, .agg [.int .i64, .int .i64, .int .i64, .int .i64, .int .i64]), (1, .agg [.int .i64, .int .i64, .int .i64, .int .i64, .int .i64])], []⟩
noncomputable def o_laws_eqSoil : Shape := ⟨[(0, .c (.bool))], []⟩
noncomputable def laws_eqSoil (a0 : Int) (a1 : Int) (a2 : Int) (a3 : Int) (a4 : Int) (a5 : Int) (a6 : Int) (a7 : Int) (a8 : Int) (a9 : Int) : Option (Bool) :=
  bif a0 != a5 then some false else bif a1 != a6 then some false else bif a2 != a7 then some false else bif a3 != a8 then some false else bif a4 != a9 then some false else some true
noncomputable def g_laws_eqSoil : Sg := ⟨i_laws_eqSoil, o_laws_eqSoil, Bool, fun y => ((y, ()), ()), fun x => laws_eqSoil x.1.1.1 x.1.1.2.1 x.1.1.2.2.1 x.1.1.2.2.2.1 x.1.1.2.2.2.2.1 x.1.2.1.1 x.1.2.1.2.1 x.1.2.1.2.2.1 x.1.2.1.2.2.2.1 x.1.2.1.2.2.2.2.1⟩
noncomputable def C_laws_eqSoil : Ctx := ⟨30, tiOf Tryd.prog, gl, sgOf []⟩
noncomputable def r_laws_eqSoil : AExit → Env → Option (Bool) := retK C_laws_eqSoil 0 o_laws_eqSoil (fun y => y.1.1) Tryd.f10.results.toList
theorem e_laws_eqSoil : Sound Tryd.prog gl 10 g_laws_eqSoil :=
  sound_plain (C := C_laws_eqSoil) ⟨fun _ _ h => h, by kernel_rfl⟩ (sgOf_all' trivial) 10 Tryd.f10 g_laws_eqSoil (fun y => y.1.1) (by kernel_rfl) (by kernel_rfl) (by kernel_rfl) (by kernel_rfl) (by kernel_rfl) (by kernel_rfl) (fun _ => rfl) (fun x => by kernel_rfl)
-- loop.example/g00051/laws.FnExactReadSoil
noncomputable def i_laws_FnExactReadSoil : Shape := ⟨[(0, .c (.str))], []⟩
noncomputable def o_laws_FnExactReadSoil : Shape := ⟨[(0, .c (.bool))], []⟩
noncomputable def laws_FnExactReadSoil (a0 : ByteArray) : Option (Bool) :=
  bif decide ((↑a0.size : Int) > 1048576) then some true else (spec_ReadSoil a0).bind fun val => (impl_ReadSoil a0).bind fun val_1 => (laws_eqSoil val_1.fst val_1.snd.fst val_1.snd.snd.fst val_1.snd.snd.snd.fst val_1.snd.snd.snd.snd.fst val.fst val.snd.fst val.snd.snd.fst val.snd.snd.snd.fst val.snd.snd.snd.snd.fst).bind fun val_2 => bif !val_2 then some false else bif !val_1.snd.snd.snd.snd.snd == val.snd.snd.snd.snd.snd then some false else some true
noncomputable def g_laws_FnExactReadSoil : Sg := ⟨i_laws_FnExactReadSoil, o_laws_FnExactReadSoil, Bool, fun y => ((y, ()), ()), fun x => laws_FnExactReadSoil x.1.1⟩
noncomputable def C_laws_FnExactReadSoil : Ctx := ⟨29, tiOf Tryd.prog, gl, sgOf [(8, g_spec_ReadSoil), (9, g_impl_ReadSoil), (10, g_laws_eqSoil)]⟩
noncomputable def r_laws_FnExactReadSoil : AExit → Env → Option (Bool) := retK C_laws_FnExactReadSoil 0 o_laws_FnExactReadSoil (fun y => y.1.1) Tryd.f3.results.toList
theorem e_laws_FnExactReadSoil : Sound Tryd.prog gl 3 g_laws_FnExactReadSoil :=
  sound_plain (C := C_laws_FnExactReadSoil) ⟨fun _ _ h => h, by kernel_rfl⟩ (sgOf_all' ⟨.inl ⟨by kernel_rfl, e_spec_ReadSoil⟩, .inl ⟨by kernel_rfl, e_impl_ReadSoil⟩, .inl ⟨by kernel_rfl, e_laws_eqSoil⟩, trivial⟩) 3 Tryd.f3 g_laws_FnExactReadSoil (fun y => y.1.1) (by kernel_rfl) (by kernel_rfl) (by kernel_rfl) (by kernel_rfl) (by kernel_rfl) (by kernel_rfl) (fun _ => rfl) (fun x => by kernel_rfl)
end Go.Proofs.YtgkejafaggaocaaDoor.RS
