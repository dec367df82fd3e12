/-
  Part of a proof by the engine: texts that a program of ours printed, or plain lemmas on them. No condition but what each theorem says.
-/
import Derived.Test.YtondfjckadlabaaGreatDoorEng5
import Derived.Test.YtondfjckadlabaaGreatDoorProg
import Derived.KernelRfl
import Derived.Test.YtondfjckadlabaaGreatDoorDoors1
import Derived.Test.YtondfjckadlabaaGreatDoorDoors2
set_option linter.unusedVariables false
set_option linter.unusedSimpArgs false
set_option maxRecDepth 100000
namespace Go.Proofs.YtondfjckadlabaaGreatDoor.DT
open Go Go.Eng Go.Proofs
open Go.Proofs.YtondfjckadlabaaGreatDoor.EX
def L_strconv_uint64pow10 : List Int := [1, 10, 100, 1000, 10000, 100000, 1000000, 10000000, 100000000, 1000000000, 10000000000, 100000000000, 1000000000000, 10000000000000, 100000000000000, 1000000000000000, 10000000000000000, 100000000000000000, 1000000000000000000, 10000000000000000000]
noncomputable def gl : Nat → Option (List Cell) := glOf [(5, L_strconv_uint64pow10.map (Cell.int .u64))]
-- loop.example/g00051/spec.l2Time
noncomputable def i_spec_l2Time : Shape := ⟨[(0, .c (.int .i64))], []⟩
noncomputable def o_spec_l2Time : Shape := ⟨[(0, .c (.bool))], []⟩
noncomputable def spec_l2Time (a0 : Int) : Option (Bool) :=
  bif decide (a0 ≥ 0) then some (decide (a0 ≤ 52596000)) else some false
noncomputable def g_spec_l2Time : Sg := ⟨i_spec_l2Time, o_spec_l2Time, Bool, fun y => ((y, ()), ()), fun x => spec_l2Time x.1.1⟩
noncomputable def C_spec_l2Time : Ctx := ⟨9, tiOf Tryz.prog, gl, sgOf [], []⟩
theorem e_spec_l2Time : Sound Tryz.prog gl 75 g_spec_l2Time :=
  sound_plain (C := C_spec_l2Time) ⟨fun _ _ h => h, by kernel_rfl⟩ (sgOf_all' trivial) 75 Tryz.f75 g_spec_l2Time (fun y => y.1.1) (by kernel_rfl) (by kernel_rfl) (by kernel_rfl) (by kernel_rfl) (by kernel_rfl) (by kernel_rfl) (fun _ => rfl) (fun x => by kernel_rfl)
-- loop.example/g00051/spec.l2Days
noncomputable def spec_l2Days (a0 : Int) (a1 : Int) : Option (Int) :=
  bif a1 == 2 then bif a0.tmod 4 == 0 then bif a0 != 2100 then some 29 else some 28 else some 28 else bif a1 == 4 then some 30 else bif a1 == 6 then some 30 else bif a1 == 9 then some 30 else bif a1 == 11 then some 30 else some 31
-- loop.example/g00051/spec.DateOf
noncomputable def spec_DateOf_L5 : Nat → Int → Int → Int → Int → Int → Int → Int → Int → Int → Int → Int → Option (Int × Int × Int × Int × Int × Bool)
  | 0, _, _, _, _, _, _, _, _, _, _, _ => none
  | k + 1, a0, a1, a2, a3, a4, a5, a6, a7, a8, a9, a10 =>
  (spec_l2Days a6 a7).bind fun val => bif decide (a0 ≥ val) then (spec_l2Days a6 a7).bind fun val => bif IntKind.i64.wrap (a7 + 1) == 13 then spec_DateOf_L5 k (IntKind.i64.wrap (a0 - val)) a1 a2 a3 a4 a5 (IntKind.i64.wrap (a6 + 1)) 1 a8 a9 a10 else spec_DateOf_L5 k (IntKind.i64.wrap (a0 - val)) a1 a2 a3 a4 a5 a6 (IntKind.i64.wrap (a7 + 1)) a8 a9 a10 else some (a6, a7, IntKind.i64.wrap (a0 + 1), a9, a10, true)
noncomputable def spec_DateOf_F (k : Nat) (a0 : Int) : Option (Int × Int × Int × Int × Int × Bool) :=
  (spec_l2Time a0).bind fun val => bif !val then some (0, 0, 0, 0, 0, false) else spec_DateOf_L5 k (IntKind.i64.wrap (a0.tdiv 1440)) 0 0 0 0 0 2000 1 1 ((IntKind.i64.wrap (a0.tdiv 60)).tmod 24) (a0.tmod 60)
noncomputable def spec_DateOf (a0 : Int) : Option (Int × Int × Int × Int × Int × Bool) := evF fun k => spec_DateOf_F k a0
-- loop.example/g00051/spec.l1Dec
noncomputable def spec_l1Dec_L7 : Nat → Int → ByteArray → Int → Option (ByteArray)
  | 0, _, _, _ => none
  | k + 1, a0, a1, a2 =>
  bif decide (a2 > 0) then bif decide ((bytesOf [IntKind.u8.wrap (IntKind.u64.wrap (48 + a2.tmod 10))]).size + a1.size ≤ 9223372036854775807) then spec_l1Dec_L7 k a0 (bytesOf [IntKind.u8.wrap (IntKind.u64.wrap (48 + a2.tmod 10))] ++ a1) (IntKind.u64.wrap (a2.tdiv 10)) else none else bif decide (a0 < 0) then bif decide ((bs [45]).size + a1.size ≤ 9223372036854775807) then some (bs [45] ++ a1) else none else some a1
noncomputable def spec_l1Dec_F (k : Nat) (a0 : Int) : Option (ByteArray) :=
  bif a0 == 0 then some (bs [48]) else bif decide (a0 < 0) then spec_l1Dec_L7 k a0 (bs []) (IntKind.u64.wrap (0 - IntKind.u64.wrap a0)) else spec_l1Dec_L7 k a0 (bs []) (IntKind.u64.wrap a0)
noncomputable def spec_l1Dec (a0 : Int) : Option (ByteArray) := evF fun k => spec_l1Dec_F k a0
-- loop.example/g00051/spec.l2Pad
noncomputable def spec_l2Pad_L2 : Nat → Int → ByteArray → Option (ByteArray)
  | 0, _, _ => none
  | k + 1, a0, a1 =>
  bif decide ((↑a1.size : Int) < a0) then bif decide ((bs [48]).size + a1.size ≤ 9223372036854775807) then spec_l2Pad_L2 k a0 (bs [48] ++ a1) else none else some a1
noncomputable def spec_l2Pad_F (k : Nat) (a0 : Int) (a1 : Int) : Option (ByteArray) :=
  (spec_l1Dec a0).bind fun val => spec_l2Pad_L2 k a1 val
noncomputable def spec_l2Pad (a0 : Int) (a1 : Int) : Option (ByteArray) := evF fun k => spec_l2Pad_F k a0 a1
-- loop.example/g00051/impl.in
noncomputable def i_impl_in : Shape := ⟨[(0, .c (.int .i64)), (1, .c (.int .i64)), (2, .c (.int .i64))], []⟩
noncomputable def o_impl_in : Shape := ⟨[(0, .c (.bool))], []⟩
noncomputable def impl_in (a0 : Int) (a1 : Int) (a2 : Int) : Option (Bool) :=
  bif decide (a0 ≥ a1) then some (decide (a0 ≤ a2)) else some false
noncomputable def g_impl_in : Sg := ⟨i_impl_in, o_impl_in, Bool, fun y => ((y, ()), ()), fun x => impl_in x.1.1 x.1.2.1 x.1.2.2.1⟩
noncomputable def C_impl_in : Ctx := ⟨15, tiOf Tryz.prog, gl, sgOf [], []⟩
theorem e_impl_in : Sound Tryz.prog gl 83 g_impl_in :=
  sound_plain (C := C_impl_in) ⟨fun _ _ h => h, by kernel_rfl⟩ (sgOf_all' trivial) 83 Tryz.f83 g_impl_in (fun y => y.1.1) (by kernel_rfl) (by kernel_rfl) (by kernel_rfl) (by kernel_rfl) (by kernel_rfl) (by kernel_rfl) (fun _ => rfl) (fun x => by kernel_rfl)
-- loop.example/g00051/impl.isTime
noncomputable def i_impl_isTime : Shape := ⟨[(0, .c (.int .i64))], []⟩
noncomputable def o_impl_isTime : Shape := ⟨[(0, .c (.bool))], []⟩
noncomputable def impl_isTime (a0 : Int) : Option (Bool) :=
  (impl_in a0 0 52596000).bind fun val => some val
noncomputable def g_impl_isTime : Sg := ⟨i_impl_isTime, o_impl_isTime, Bool, fun y => ((y, ()), ()), fun x => impl_isTime x.1.1⟩
noncomputable def C_impl_isTime : Ctx := ⟨5, tiOf Tryz.prog, gl, sgOf [(83, g_impl_in)], []⟩
theorem e_impl_isTime : Sound Tryz.prog gl 81 g_impl_isTime :=
  sound_plain (C := C_impl_isTime) ⟨fun _ _ h => h, by kernel_rfl⟩ (sgOf_all' ⟨.inl ⟨by kernel_rfl, e_impl_in⟩, trivial⟩) 81 Tryz.f81 g_impl_isTime (fun y => y.1.1) (by kernel_rfl) (by kernel_rfl) (by kernel_rfl) (by kernel_rfl) (by kernel_rfl) (by kernel_rfl) (fun _ => rfl) (fun x => by kernel_rfl)
-- loop.example/g00051/impl.leap
noncomputable def i_impl_leap : Shape := ⟨[(0, .c (.int .i64))], []⟩
noncomputable def o_impl_leap : Shape := ⟨[(0, .c (.bool))], []⟩
noncomputable def impl_leap (a0 : Int) : Option (Bool) :=
  some (a0.tmod 4 == 0)
noncomputable def g_impl_leap : Sg := ⟨i_impl_leap, o_impl_leap, Bool, fun y => ((y, ()), ()), fun x => impl_leap x.1.1⟩
noncomputable def C_impl_leap : Ctx := ⟨6, tiOf Tryz.prog, gl, sgOf [], []⟩
theorem e_impl_leap : Sound Tryz.prog gl 253 g_impl_leap :=
  sound_plain (C := C_impl_leap) ⟨fun _ _ h => h, by kernel_rfl⟩ (sgOf_all' trivial) 253 Tryz.f253 g_impl_leap (fun y => y.1.1) (by kernel_rfl) (by kernel_rfl) (by kernel_rfl) (by kernel_rfl) (by kernel_rfl) (by kernel_rfl) (fun _ => rfl) (fun x => by kernel_rfl)
-- loop.example/g00051/impl.monthDays
noncomputable def i_impl_monthDays : Shape := ⟨[(0, .c (.int .i64)), (1, .c (.int .i64))], []⟩
noncomputable def o_impl_monthDays : Shape := ⟨[(0, .c (.int .i64))], []⟩
noncomputable def impl_monthDays (a0 : Int) (a1 : Int) : Option (Int) :=
  bif a1 == 2 then (impl_leap a0).bind fun val => bif val then some 29 else some 28 else bif a1 == 4 then some 30 else bif a1 == 6 then some 30 else bif a1 == 9 then some 30 else bif a1 == 11 then some 30 else some 31
noncomputable def g_impl_monthDays : Sg := ⟨i_impl_monthDays, o_impl_monthDays, Int, fun y => ((y, ()), ()), fun x => impl_monthDays x.1.1 x.1.2.1⟩
noncomputable def C_impl_monthDays : Ctx := ⟨15, tiOf Tryz.prog, gl, sgOf [(253, g_impl_leap)], []⟩
theorem e_impl_monthDays : Sound Tryz.prog gl 218 g_impl_monthDays :=
  sound_plain (C := C_impl_monthDays) ⟨fun _ _ h => h, by kernel_rfl⟩ (sgOf_all' ⟨.inl ⟨by kernel_rfl, e_impl_leap⟩, trivial⟩) 218 Tryz.f218 g_impl_monthDays (fun y => y.1.1) (by kernel_rfl) (by kernel_rfl) (by kernel_rfl) (by kernel_rfl) (by kernel_rfl) (by kernel_rfl) (fun _ => rfl) (fun x => by kernel_rfl)
-- loop.example/g00051/impl.daysTo
noncomputable def i_impl_daysTo : Shape := ⟨[(0, .c (.int .i64)), (1, .c (.int .i64)), (2, .c (.int .i64))], []⟩
noncomputable def o_impl_daysTo : Shape := ⟨[(0, .c (.int .i64))], []⟩
noncomputable def s_impl_daysTo_3 : Shape := ⟨[(0, .c (.int .i64)), (1, .c (.int .i64)), (2, .c (.int .i64)), (7, .c (.int .i64)), (8, .c (.int .i64))], []⟩
noncomputable def impl_daysTo_L3 : Nat → Int → Int → Int → Int → Int → Option (Int)
  | 0, _, _, _, _, _ => none
  | k + 1, a0, a1, a2, a3, a4 =>
  bif decide (a4 < a1) then (impl_monthDays a0 a4).bind fun val => impl_daysTo_L3 k a0 a1 a2 (IntKind.i64.wrap (a3 + val)) (IntKind.i64.wrap (a4 + 1)) else some (IntKind.i64.wrap (IntKind.i64.wrap (a3 + a2) - 1))
noncomputable def j_impl_daysTo : List (Nat × (Nat → Cut (Int))) := [(3, fun k => ⟨s_impl_daysTo_3, fun x => impl_daysTo_L3 k x.1.1 x.1.2.1 x.1.2.2.1 x.1.2.2.2.1 x.1.2.2.2.2.1⟩)]
noncomputable def impl_daysTo_F (k : Nat) (a0 : Int) (a1 : Int) (a2 : Int) : Option (Int) :=
  impl_daysTo_L3 k a0 a1 a2 (IntKind.i64.wrap (IntKind.i64.wrap (IntKind.i64.wrap (a0 - 2000) * 365) + IntKind.i64.wrap ((IntKind.i64.wrap (IntKind.i64.wrap (a0 - 2000) + 3)).tdiv 4))) 1
noncomputable def impl_daysTo (a0 : Int) (a1 : Int) (a2 : Int) : Option (Int) := evF fun k => impl_daysTo_F k a0 a1 a2
noncomputable def g_impl_daysTo : Sg := ⟨i_impl_daysTo, o_impl_daysTo, Int, fun y => ((y, ()), ()), fun x => impl_daysTo x.1.1 x.1.2.1 x.1.2.2.1⟩
noncomputable def C_impl_daysTo : Ctx := ⟨31, tiOf Tryz.prog, gl, sgOf [(218, g_impl_monthDays)], []⟩
theorem e_impl_daysTo : Sound Tryz.prog gl 219 g_impl_daysTo :=
  sound_cuts (C := C_impl_daysTo) ⟨fun _ _ h => h, by kernel_rfl⟩ (sgOf_all' ⟨.inl ⟨by kernel_rfl, e_impl_monthDays⟩, trivial⟩) 219 Tryz.f219 g_impl_daysTo (fun y => y.1.1) j_impl_daysTo 1 (by kernel_rfl) (by kernel_rfl) (by kernel_rfl) (by kernel_rfl) (by kernel_rfl) (by kernel_rfl) (fun _ => rfl) (by kernel_rfl) (by kernel_rfl)
    ⟨trivial, s_impl_daysTo_3, fun k x => impl_daysTo_L3 k x.1.1 x.1.2.1 x.1.2.2.1 x.1.2.2.2.1 x.1.2.2.2.2.1, ⟨fun k => by kernel_rfl, fun k y => by kernel_rfl, fun y => by kernel_rfl⟩⟩
    (fun k x => impl_daysTo_F k x.1.1 x.1.2.1 x.1.2.2.1) (fun x => rfl) (fun k x => by kernel_rfl)
-- loop.example/g00051/impl.DateOf
noncomputable def i_impl_DateOf : Shape := ⟨[(0, .c (.int .i64))], []⟩
noncomputable def o_impl_DateOf : Shape := ⟨[(0, .tup [(true, [.int .i64, .int .i64, .int .i64, .int .i64, .int .i64]), (false, [.bool])])], []⟩
noncomputable def s_impl_DateOf_5 : Shape := ⟨[(0, .c (.int .i64)), (2, .c (.ptr 0 0)), (4, .c (.int .i64)), (5, .c (.int .i64))], [.box 166 [.int .i64, .int .i64, .int .i64, .int .i64, .int .i64]]⟩
noncomputable def s_impl_DateOf_8 : Shape := ⟨[(0, .c (.int .i64)), (2, .c (.ptr 0 0)), (4, .c (.int .i64)), (5, .c (.int .i64)), (6, .c (.int .i64))], [.box 166 [.int .i64, .int .i64, .int .i64, .int .i64, .int .i64]]⟩
mutual
noncomputable def impl_DateOf_L5 : Nat → Int → Int → Int → Int → Int → Int → Int → Int → Option (Int × Int × Int × Int × Int × Bool)
  | 0, _, _, _, _, _, _, _, _ => none
  | k + 1, a0, a1, a2, a3, a4, a5, a6, a7 =>
  (impl_daysTo (IntKind.i64.wrap (a2 + 1)) 1 1).bind fun val => bif decide (val ≤ a1) then impl_DateOf_L5 k a0 a1 (IntKind.i64.wrap (a2 + 1)) a3 a4 a5 a6 a7 else impl_DateOf_L8 k a0 a1 a2 1 a3 a4 a5 a6 a7
noncomputable def impl_DateOf_L8 : Nat → Int → Int → Int → Int → Int → Int → Int → Int → Int → Option (Int × Int × Int × Int × Int × Bool)
  | 0, _, _, _, _, _, _, _, _, _ => none
  | k + 1, a0, a1, a2, a3, a4, a5, a6, a7, a8 =>
  bif decide (a3 < 12) then (impl_daysTo a2 (IntKind.i64.wrap (a3 + 1)) 1).bind fun val => bif decide (val ≤ a1) then impl_DateOf_L8 k a0 a1 a2 (IntKind.i64.wrap (a3 + 1)) a4 a5 a6 a7 a8 else (impl_daysTo a2 a3 1).bind fun val => some (a2, a3, IntKind.i64.wrap (IntKind.i64.wrap (a1 - val) + 1), (IntKind.i64.wrap (a0.tdiv 60)).tmod 24, a0.tmod 60, true) else (impl_daysTo a2 a3 1).bind fun val => some (a2, a3, IntKind.i64.wrap (IntKind.i64.wrap (a1 - val) + 1), (IntKind.i64.wrap (a0.tdiv 60)).tmod 24, a0.tmod 60, true)
end
noncomputable def j_impl_DateOf : List (Nat × (Nat → Cut (Int × Int × Int × Int × Int × Bool))) := [(5, fun k => ⟨s_impl_DateOf_5, fun x => impl_DateOf_L5 k x.1.1 x.1.2.2.1 x.1.2.2.2.1 x.2.1.1 x.2.1.2.1 x.2.1.2.2.1 x.2.1.2.2.2.1 x.2.1.2.2.2.2.1⟩), (8, fun k => ⟨s_impl_DateOf_8, fun x => impl_DateOf_L8 k x.1.1 x.1.2.2.1 x.1.2.2.2.1 x.1.2.2.2.2.1 x.2.1.1 x.2.1.2.1 x.2.1.2.2.1 x.2.1.2.2.2.1 x.2.1.2.2.2.2.1⟩)]
noncomputable def impl_DateOf_F (k : Nat) (a0 : Int) : Option (Int × Int × Int × Int × Int × Bool) :=
  (impl_isTime a0).bind fun val => bif !val then some (0, 0, 0, 0, 0, false) else impl_DateOf_L5 k a0 (IntKind.i64.wrap (a0.tdiv 1440)) (IntKind.i64.wrap (2000 + IntKind.i64.wrap ((IntKind.i64.wrap (a0.tdiv 1440)).tdiv 366))) 0 0 0 0 0
noncomputable def impl_DateOf (a0 : Int) : Option (Int × Int × Int × Int × Int × Bool) := evF fun k => impl_DateOf_F k a0
noncomputable def g_impl_DateOf : Sg := ⟨i_impl_DateOf, o_impl_DateOf, Int × Int × Int × Int × Int × Bool, fun y => ((((y.1, y.2.1, y.2.2.1, y.2.2.2.1, y.2.2.2.2.1, ()), (y.2.2.2.2.2, ()), ()), ()), ()), fun x => impl_DateOf x.1.1⟩
noncomputable def C_impl_DateOf : Ctx := ⟨49, tiOf Tryz.prog, gl, sgOf [(81, g_impl_isTime), (219, g_impl_daysTo)], []⟩
theorem e_impl_DateOf : Sound Tryz.prog gl 168 g_impl_DateOf :=
  sound_cuts (C := C_impl_DateOf) ⟨fun _ _ h => h, by kernel_rfl⟩ (sgOf_all' ⟨.inl ⟨by kernel_rfl, e_impl_isTime⟩, .inl ⟨by kernel_rfl, e_impl_daysTo⟩, trivial⟩) 168 Tryz.f168 g_impl_DateOf (fun y => (y.1.1.1.1, y.1.1.1.2.1, y.1.1.1.2.2.1, y.1.1.1.2.2.2.1, y.1.1.1.2.2.2.2.1, y.1.1.2.1.1)) j_impl_DateOf 2 (by kernel_rfl) (by kernel_rfl) (by kernel_rfl) (by kernel_rfl) (by kernel_rfl) (by kernel_rfl) (fun _ => rfl) (by kernel_rfl) (by kernel_rfl)
    ⟨⟨trivial, s_impl_DateOf_5, fun k x => impl_DateOf_L5 k x.1.1 x.1.2.2.1 x.1.2.2.2.1 x.2.1.1 x.2.1.2.1 x.2.1.2.2.1 x.2.1.2.2.2.1 x.2.1.2.2.2.2.1, ⟨fun k => by kernel_rfl, fun k y => by kernel_rfl, fun y => by kernel_rfl⟩⟩, s_impl_DateOf_8, fun k x => impl_DateOf_L8 k x.1.1 x.1.2.2.1 x.1.2.2.2.1 x.1.2.2.2.2.1 x.2.1.1 x.2.1.2.1 x.2.1.2.2.1 x.2.1.2.2.2.1 x.2.1.2.2.2.2.1, ⟨fun k => by kernel_rfl, fun k y => by kernel_rfl, fun y => by kernel_rfl⟩⟩
    (fun k x => impl_DateOf_F k x.1.1) (fun x => rfl) (fun k x => by kernel_rfl)
-- loop.example/g00051/impl.dec
noncomputable def i_impl_dec : Shape := ⟨[(0, .c (.int .i64))], []⟩
noncomputable def o_impl_dec : Shape := ⟨[(0, .c (.str))], []⟩
noncomputable def impl_dec (a0 : Int) : Option (ByteArray) :=
  (dFmt a0 10).bind fun val => some val
noncomputable def g_impl_dec : Sg := ⟨i_impl_dec, o_impl_dec, ByteArray, fun y => ((y, ()), ()), fun x => impl_dec x.1.1⟩
noncomputable def C_impl_dec : Ctx := ⟨5, tiOf Tryz.prog, gl, sgOf [(189, gFmt)], []⟩
theorem e_impl_dec : Sound Tryz.prog gl 111 g_impl_dec :=
  sound_plain (C := C_impl_dec) ⟨fun _ _ h => h, by kernel_rfl⟩ (sgOf_all' ⟨.inl ⟨by kernel_rfl, (eFmt (l := L_strconv_uint64pow10) (by kernel_rfl) (by kernel_rfl))⟩, trivial⟩) 111 Tryz.f111 g_impl_dec (fun y => y.1.1) (by kernel_rfl) (by kernel_rfl) (by kernel_rfl) (by kernel_rfl) (by kernel_rfl) (by kernel_rfl) (fun _ => rfl) (fun x => by kernel_rfl)
-- loop.example/g00051/impl.fill
noncomputable def i_impl_fill : Shape := ⟨[(0, .c (.int .i64)), (1, .c (.int .i64))], []⟩
noncomputable def o_impl_fill : Shape := ⟨[(0, .c (.str))], []⟩
noncomputable def impl_fill (a0 : Int) (a1 : Int) : Option (ByteArray) :=
  (impl_dec a0).bind fun val => (dRep (bs [48]) (if IntKind.i64.wrap (a1 - (↑(ByteArray.size val) : Int)) > 0 then IntKind.i64.wrap (a1 - (↑(ByteArray.size val) : Int)) else 0)).bind fun val_1 => bif decide (ByteArray.size val_1 + ByteArray.size val ≤ 9223372036854775807) then some (val_1 ++ val) else none
noncomputable def g_impl_fill : Sg := ⟨i_impl_fill, o_impl_fill, ByteArray, fun y => ((y, ()), ()), fun x => impl_fill x.1.1 x.1.2.1⟩
noncomputable def C_impl_fill : Ctx := ⟨16, tiOf Tryz.prog, gl, sgOf [(111, g_impl_dec), (207, gRep)], []⟩
theorem e_impl_fill : Sound Tryz.prog gl 140 g_impl_fill :=
  sound_plain (C := C_impl_fill) ⟨fun _ _ h => h, by kernel_rfl⟩ (sgOf_all' ⟨.inl ⟨by kernel_rfl, e_impl_dec⟩, .inl ⟨by kernel_rfl, eRep⟩, trivial⟩) 140 Tryz.f140 g_impl_fill (fun y => y.1.1) (by kernel_rfl) (by kernel_rfl) (by kernel_rfl) (by kernel_rfl) (by kernel_rfl) (by kernel_rfl) (fun _ => rfl) (fun x => by kernel_rfl)
-- loop.example/g00051/impl.digits
noncomputable def i_impl_digits : Shape := ⟨[(0, .c (.str))], []⟩
noncomputable def o_impl_digits : Shape := ⟨[(0, .c (.bool))], []⟩
noncomputable def s_impl_digits_2 : Shape := ⟨[(0, .c (.str)), (3, .c (.int .i64))], []⟩
noncomputable def impl_digits_L2 : Nat → ByteArray → Int → Option (Bool)
  | 0, _, _ => none
  | k + 1, a0, a1 =>
  bif decide (a1 < (↑a0.size : Int)) then bif decide (0 ≤ a1) then bif decide (a1 < (↑a0.size : Int)) then bif decide (bt a0 a1 < 48) then some false else bif decide (0 ≤ a1) then bif decide (a1 < (↑a0.size : Int)) then bif decide (bt a0 a1 > 57) then some false else impl_digits_L2 k a0 (IntKind.i64.wrap (a1 + 1)) else none else none else none else none else some (decide ((↑a0.size : Int) > 0))
noncomputable def j_impl_digits : List (Nat × (Nat → Cut (Bool))) := [(2, fun k => ⟨s_impl_digits_2, fun x => impl_digits_L2 k x.1.1 x.1.2.1⟩)]
noncomputable def impl_digits_F (k : Nat) (a0 : ByteArray) : Option (Bool) :=
  impl_digits_L2 k a0 0
noncomputable def impl_digits (a0 : ByteArray) : Option (Bool) := evF fun k => impl_digits_F k a0
noncomputable def g_impl_digits : Sg := ⟨i_impl_digits, o_impl_digits, Bool, fun y => ((y, ()), ()), fun x => impl_digits x.1.1⟩
noncomputable def C_impl_digits : Ctx := ⟨23, tiOf Tryz.prog, gl, sgOf [], []⟩
theorem e_impl_digits : Sound Tryz.prog gl 131 g_impl_digits :=
  sound_cuts (C := C_impl_digits) ⟨fun _ _ h => h, by kernel_rfl⟩ (sgOf_all' trivial) 131 Tryz.f131 g_impl_digits (fun y => y.1.1) j_impl_digits 1 (by kernel_rfl) (by kernel_rfl) (by kernel_rfl) (by kernel_rfl) (by kernel_rfl) (by kernel_rfl) (fun _ => rfl) (by kernel_rfl) (by kernel_rfl)
    ⟨trivial, s_impl_digits_2, fun k x => impl_digits_L2 k x.1.1 x.1.2.1, ⟨fun k => by kernel_rfl, fun k y => by kernel_rfl, fun y => by kernel_rfl⟩⟩
    (fun k x => impl_digits_F k x.1.1) (fun x => rfl) (fun k x => by kernel_rfl)
-- loop.example/g00051/spec.l2In
noncomputable def i_spec_l2In : Shape := ⟨[(0, .c (.int .i64)), (1, .c (.int .i64)), (2, .c (.int .i64))], []⟩
noncomputable def o_spec_l2In : Shape := ⟨[(0, .c (.bool))], []⟩
noncomputable def spec_l2In (a0 : Int) (a1 : Int) (a2 : Int) : Option (Bool) :=
  bif decide (a0 ≥ a1) then some (decide (a0 ≤ a2)) else some false
noncomputable def g_spec_l2In : Sg := ⟨i_spec_l2In, o_spec_l2In, Bool, fun y => ((y, ()), ()), fun x => spec_l2In x.1.1 x.1.2.1 x.1.2.2.1⟩
noncomputable def C_spec_l2In : Ctx := ⟨15, tiOf Tryz.prog, gl, sgOf [], []⟩
theorem e_spec_l2In : Sound Tryz.prog gl 77 g_spec_l2In :=
  sound_plain (C := C_spec_l2In) ⟨fun _ _ h => h, by kernel_rfl⟩ (sgOf_all' trivial) 77 Tryz.f77 g_spec_l2In (fun y => y.1.1) (by kernel_rfl) (by kernel_rfl) (by kernel_rfl) (by kernel_rfl) (by kernel_rfl) (by kernel_rfl) (fun _ => rfl) (fun x => by kernel_rfl)
end Go.Proofs.YtondfjckadlabaaGreatDoor.DT
