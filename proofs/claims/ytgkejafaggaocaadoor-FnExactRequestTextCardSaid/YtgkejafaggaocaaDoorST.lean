/-
  Part of a proof by the engine: texts that a program of ours printed, or plain lemmas on them. No condition but what each theorem says.
-/
import Derived.Test.YtgkejafaggaocaaDoorDT
import Derived.Test.YtgkejafaggaocaaDoorEng5
import Derived.Test.YtgkejafaggaocaaDoorProg
import Derived.KernelRfl
import Derived.Test.YtgkejafaggaocaaDoorDoors1
set_option linter.unusedVariables false
set_option linter.unusedSimpArgs false
set_option maxRecDepth 100000
namespace Go.Proofs.YtgkejafaggaocaaDoor.ST
open Go Go.Eng Go.Proofs
open Go.Proofs.YtgkejafaggaocaaDoor.EX
open Go.Proofs.YtgkejafaggaocaaDoor.DT hiding gl
noncomputable def gl : Nat → Option (List Cell) := glOf [(4, L_strconv_uint64pow10.map (Cell.int .u64))]
theorem gl_DT : ∀ g cs, Go.Proofs.YtgkejafaggaocaaDoor.DT.gl g = some cs → gl g = some cs := glOf_mono (by intro p hp; simp only [List.mem_cons, List.not_mem_nil, or_false] at hp; subst hp <;> rfl)
-- loop.example/g00051/impl.isTime
noncomputable def i_impl_isTime : Shape := ⟨[(0, .c (.int .i64))], []⟩
noncomputable def o_impl_isTime : Shape := ⟨[(0, .c (.bool))], []⟩
noncomputable def impl_isTime (a0 : Int) : Option (Bool) :=
  (impl_in a0 0 52596000).bind fun val => some val
noncomputable def g_impl_isTime : Sg := ⟨i_impl_isTime, o_impl_isTime, Bool, fun y => ((y, ()), ()), fun x => impl_isTime x.1.1⟩
noncomputable def C_impl_isTime : Ctx := ⟨5, tiOf Tryd.prog, gl, sgOf [(38, g_impl_in)], []⟩
noncomputable def r_impl_isTime : AExit → Env → Option (Bool) := retK C_impl_isTime 0 o_impl_isTime (fun y => y.1.1) Tryd.f115.results.toList
theorem e_impl_isTime : Sound Tryd.prog gl 115 g_impl_isTime :=
  sound_plain (C := C_impl_isTime) ⟨fun _ _ h => h, by kernel_rfl⟩ (sgOf_all' ⟨.inl ⟨by kernel_rfl, (Sound.mono gl_DT (by rfl) e_impl_in)⟩, trivial⟩) 115 Tryd.f115 g_impl_isTime (fun y => y.1.1) (by kernel_rfl) (by kernel_rfl) (by kernel_rfl) (by kernel_rfl) (by kernel_rfl) (by kernel_rfl) (fun _ => rfl) (fun x => by kernel_rfl)
-- loop.example/g00051/impl.leap
noncomputable def i_impl_leap : Shape := ⟨[(0, .c (.int .i64))], []⟩
noncomputable def o_impl_leap : Shape := ⟨[(0, .c (.bool))], []⟩
noncomputable def impl_leap (a0 : Int) : Option (Bool) :=
  some (a0.tmod 4 == 0)
noncomputable def g_impl_leap : Sg := ⟨i_impl_leap, o_impl_leap, Bool, fun y => ((y, ()), ()), fun x => impl_leap x.1.1⟩
noncomputable def C_impl_leap : Ctx := ⟨6, tiOf Tryd.prog, gl, sgOf [], []⟩
noncomputable def r_impl_leap : AExit → Env → Option (Bool) := retK C_impl_leap 0 o_impl_leap (fun y => y.1.1) Tryd.f155.results.toList
theorem e_impl_leap : Sound Tryd.prog gl 155 g_impl_leap :=
  sound_plain (C := C_impl_leap) ⟨fun _ _ h => h, by kernel_rfl⟩ (sgOf_all' trivial) 155 Tryd.f155 g_impl_leap (fun y => y.1.1) (by kernel_rfl) (by kernel_rfl) (by kernel_rfl) (by kernel_rfl) (by kernel_rfl) (by kernel_rfl) (fun _ => rfl) (fun x => by kernel_rfl)
-- loop.example/g00051/impl.monthDays
noncomputable def i_impl_monthDays : Shape := ⟨[(0, .c (.int .i64)), (1, .c (.int .i64))], []⟩
noncomputable def o_impl_monthDays : Shape := ⟨[(0, .c (.int .i64))], []⟩
noncomputable def impl_monthDays (a0 : Int) (a1 : Int) : Option (Int) :=
  bif a1 == 2 then (impl_leap a0).bind fun val => bif val then some 29 else some 28 else bif a1 == 4 then some 30 else bif a1 == 6 then some 30 else bif a1 == 9 then some 30 else bif a1 == 11 then some 30 else some 31
noncomputable def g_impl_monthDays : Sg := ⟨i_impl_monthDays, o_impl_monthDays, Int, fun y => ((y, ()), ()), fun x => impl_monthDays x.1.1 x.1.2.1⟩
noncomputable def C_impl_monthDays : Ctx := ⟨15, tiOf Tryd.prog, gl, sgOf [(155, g_impl_leap)], []⟩
noncomputable def r_impl_monthDays : AExit → Env → Option (Int) := retK C_impl_monthDays 0 o_impl_monthDays (fun y => y.1.1) Tryd.f137.results.toList
theorem e_impl_monthDays : Sound Tryd.prog gl 137 g_impl_monthDays :=
  sound_plain (C := C_impl_monthDays) ⟨fun _ _ h => h, by kernel_rfl⟩ (sgOf_all' ⟨.inl ⟨by kernel_rfl, e_impl_leap⟩, trivial⟩) 137 Tryd.f137 g_impl_monthDays (fun y => y.1.1) (by kernel_rfl) (by kernel_rfl) (by kernel_rfl) (by kernel_rfl) (by kernel_rfl) (by kernel_rfl) (fun _ => rfl) (fun x => by kernel_rfl)
-- loop.example/g00051/impl.daysTo
noncomputable def i_impl_daysTo : Shape := ⟨[(0, .c (.int .i64)), (1, .c (.int .i64)), (2, .c (.int .i64))], []⟩
noncomputable def o_impl_daysTo : Shape := ⟨[(0, .c (.int .i64))], []⟩
noncomputable def s_impl_daysTo_3 : Shape := ⟨[(0, .c (.int .i64)), (1, .c (.int .i64)), (2, .c (.int .i64)), (7, .c (.int .i64)), (8, .c (.int .i64))], []⟩
noncomputable def impl_daysTo_L3 : Nat → Int → Int → Int → Int → Int → Option (Int)
  | 0, _, _, _, _, _ => none
  | k + 1, a0, a1, a2, a3, a4 =>
  bif decide (a4 < a1) then (impl_monthDays a0 a4).bind fun val => impl_daysTo_L3 k a0 a1 a2 (IntKind.i64.wrap (a3 + val)) (IntKind.i64.wrap (a4 + 1)) else some (IntKind.i64.wrap (IntKind.i64.wrap (a3 + a2) - 1))
noncomputable def j_impl_daysTo : List (Nat × (Nat → Cut (Int))) := [(3, fun k => ⟨s_impl_daysTo_3, fun x => impl_daysTo_L3 k x.1.1 x.1.2.1 x.1.2.2.1 x.1.2.2.2.1 x.1.2.2.2.2.1⟩)]
noncomputable def impl_daysTo_F (k : Nat) (a0 : Int) (a1 : Int) (a2 : Int) : Option (Int) :=
  impl_daysTo_L3 k a0 a1 a2 (IntKind.i64.wrap (IntKind.i64.wrap (IntKind.i64.wrap (a0 - 2000) * 365) + IntKind.i64.wrap ((IntKind.i64.wrap (IntKind.i64.wrap (a0 - 2000) + 3)).tdiv 4))) 1
noncomputable def impl_daysTo (a0 : Int) (a1 : Int) (a2 : Int) : Option (Int) := evF fun k => impl_daysTo_F k a0 a1 a2
noncomputable def g_impl_daysTo : Sg := ⟨i_impl_daysTo, o_impl_daysTo, Int, fun y => ((y, ()), ()), fun x => impl_daysTo x.1.1 x.1.2.1 x.1.2.2.1⟩
noncomputable def C_impl_daysTo : Ctx := ⟨31, tiOf Tryd.prog, gl, sgOf [(137, g_impl_monthDays)], []⟩
noncomputable def r_impl_daysTo : AExit → Env → Option (Int) := retK C_impl_daysTo 0 o_impl_daysTo (fun y => y.1.1) Tryd.f116.results.toList
theorem e_impl_daysTo : Sound Tryd.prog gl 116 g_impl_daysTo :=
  sound_cuts (C := C_impl_daysTo) ⟨fun _ _ h => h, by kernel_rfl⟩ (sgOf_all' ⟨.inl ⟨by kernel_rfl, e_impl_monthDays⟩, trivial⟩) 116 Tryd.f116 g_impl_daysTo (fun y => y.1.1) j_impl_daysTo 1 (by kernel_rfl) (by kernel_rfl) (by kernel_rfl) (by kernel_rfl) (by kernel_rfl) (by kernel_rfl) (fun _ => rfl) (by kernel_rfl) (by kernel_rfl)
    ⟨trivial, s_impl_daysTo_3, fun k x => impl_daysTo_L3 k x.1.1 x.1.2.1 x.1.2.2.1 x.1.2.2.2.1 x.1.2.2.2.2.1, ⟨fun k => by kernel_rfl, fun k y => by kernel_rfl, fun y => by kernel_rfl⟩⟩
    (fun k x => impl_daysTo_F k x.1.1 x.1.2.1 x.1.2.2.1) (fun x => rfl) (fun k x => by kernel_rfl)
-- loop.example/g00051/impl.DateOf
noncomputable def i_impl_DateOf : Shape := ⟨[(0, .c (.int .i64))], []⟩
noncomputable def o_impl_DateOf : Shape := ⟨[(0, .tup [(true, [.int .i64, .int .i64, .int .i64, .int .i64, .int .i64]), (false, [.bool])])], []⟩
noncomputable def s_impl_DateOf_5 : Shape := ⟨[(0, .c (.int .i64)), (2, .c (.ptr 0 0)), (4, .c (.int .i64)), (5, .c (.int .i64))], [.box 109 [.int .i64, .int .i64, .int .i64, .int .i64, .int .i64]]⟩
noncomputable def s_impl_DateOf_8 : Shape := ⟨[(0, .c (.int .i64)), (2, .c (.ptr 0 0)), (4, .c (.int .i64)), (5, .c (.int .i64)), (6, .c (.int .i64))], [.box 109 [.int .i64, .int .i64, .int .i64, .int .i64, .int .i64]]⟩
mutual
noncomputable def impl_DateOf_L5 : Nat → Int → Int → Int → Int → Int → Int → Int → Int → Option (Int × Int × Int × Int × Int × Bool)
  | 0, _, _, _, _, _, _, _, _ => none
  | k + 1, a0, a1, a2, a3, a4, a5, a6, a7 =>
  (impl_daysTo (IntKind.i64.wrap (a2 + 1)) 1 1).bind fun val => bif decide (val ≤ a1) then impl_DateOf_L5 k a0 a1 (IntKind.i64.wrap (a2 + 1)) a3 a4 a5 a6 a7 else impl_DateOf_L8 k a0 a1 a2 1 a3 a4 a5 a6 a7
noncomputable def impl_DateOf_L8 : Nat → Int → Int → Int → Int → Int → Int → Int → Int → Int → Option (Int × Int × Int × Int × Int × Bool)
  | 0, _, _, _, _, _, _, _, _, _ => none
  | k + 1, a0, a1, a2, a3, a4, a5, a6, a7, a8 =>
  bif decide (a3 < 12) then (impl_daysTo a2 (IntKind.i64.wrap (a3 + 1)) 1).bind fun val => bif decide (val ≤ a1) then impl_DateOf_L8 k a0 a1 a2 (IntKind.i64.wrap (a3 + 1)) a4 a5 a6 a7 a8 else (impl_daysTo a2 a3 1).bind fun val => some (a2, a3, IntKind.i64.wrap (IntKind.i64.wrap (a1 - val) + 1), (IntKind.i64.wrap (a0.tdiv 60)).tmod 24, a0.tmod 60, true) else (impl_daysTo a2 a3 1).bind fun val => some (a2, a3, IntKind.i64.wrap (IntKind.i64.wrap (a1 - val) + 1), (IntKind.i64.wrap (a0.tdiv 60)).tmod 24, a0.tmod 60, true)
end
noncomputable def j_impl_DateOf : List (Nat × (Nat → Cut (Int × Int × Int × Int × Int × Bool))) := [(5, fun k => ⟨s_impl_DateOf_5, fun x => impl_DateOf_L5 k x.1.1 x.1.2.2.1 x.1.2.2.2.1 x.2.1.1 x.2.1.2.1 x.2.1.2.2.1 x.2.1.2.2.2.1 x.2.1.2.2.2.2.1⟩), (8, fun k => ⟨s_impl_DateOf_8, fun x => impl_DateOf_L8 k x.1.1 x.1.2.2.1 x.1.2.2.2.1 x.1.2.2.2.2.1 x.2.1.1 x.2.1.2.1 x.2.1.2.2.1 x.2.1.2.2.2.1 x.2.1.2.2.2.2.1⟩)]
noncomputable def impl_DateOf_F (k : Nat) (a0 : Int) : Option (Int × Int × Int × Int × Int × Bool) :=
  (impl_isTime a0).bind fun val => bif !val then some (0, 0, 0, 0, 0, false) else impl_DateOf_L5 k a0 (IntKind.i64.wrap (a0.tdiv 1440)) (IntKind.i64.wrap (2000 + IntKind.i64.wrap ((IntKind.i64.wrap (a0.tdiv 1440)).tdiv 366))) 0 0 0 0 0
noncomputable def impl_DateOf (a0 : Int) : Option (Int × Int × Int × Int × Int × Bool) := evF fun k => impl_DateOf_F k a0
noncomputable def g_impl_DateOf : Sg := ⟨i_impl_DateOf, o_impl_DateOf, Int × Int × Int × Int × Int × Bool, fun y => ((((y.1, y.2.1, y.2.2.1, y.2.2.2.1, y.2.2.2.2.1, ()), (y.2.2.2.2.2, ()), ()), ()), ()), fun x => impl_DateOf x.1.1⟩
noncomputable def C_impl_DateOf : Ctx := ⟨49, tiOf Tryd.prog, gl, sgOf [(115, g_impl_isTime), (116, g_impl_daysTo)], []⟩
noncomputable def r_impl_DateOf : AExit → Env → Option (Int × Int × Int × Int × Int × Bool) := retK C_impl_DateOf 0 o_impl_DateOf (fun y => (y.1.1.1.1, y.1.1.1.2.1, y.1.1.1.2.2.1, y.1.1.1.2.2.2.1, y.1.1.1.2.2.2.2.1, y.1.1.2.1.1)) Tryd.f93.results.toList
theorem e_impl_DateOf : Sound Tryd.prog gl 93 g_impl_DateOf :=
  sound_cuts (C := C_impl_DateOf) ⟨fun _ _ h => h, by kernel_rfl⟩ (sgOf_all' ⟨.inl ⟨by kernel_rfl, e_impl_isTime⟩, .inl ⟨by kernel_rfl, e_impl_daysTo⟩, trivial⟩) 93 Tryd.f93 g_impl_DateOf (fun y => (y.1.1.1.1, y.1.1.1.2.1, y.1.1.1.2.2.1, y.1.1.1.2.2.2.1, y.1.1.1.2.2.2.2.1, y.1.1.2.1.1)) j_impl_DateOf 2 (by kernel_rfl) (by kernel_rfl) (by kernel_rfl) (by kernel_rfl) (by kernel_rfl) (by kernel_rfl) (fun _ => rfl) (by kernel_rfl) (by kernel_rfl)
    ⟨⟨trivial, s_impl_DateOf_5, fun k x => impl_DateOf_L5 k x.1.1 x.1.2.2.1 x.1.2.2.2.1 x.2.1.1 x.2.1.2.1 x.2.1.2.2.1 x.2.1.2.2.2.1 x.2.1.2.2.2.2.1, ⟨fun k => by kernel_rfl, fun k y => by kernel_rfl, fun y => by kernel_rfl⟩⟩, s_impl_DateOf_8, fun k x => impl_DateOf_L8 k x.1.1 x.1.2.2.1 x.1.2.2.2.1 x.1.2.2.2.2.1 x.2.1.1 x.2.1.2.1 x.2.1.2.2.1 x.2.1.2.2.2.1 x.2.1.2.2.2.2.1, ⟨fun k => by kernel_rfl, fun k y => by kernel_rfl, fun y => by kernel_rfl⟩⟩
    (fun k x => impl_DateOf_F k x.1.1) (fun x => rfl) (fun k x => by kernel_rfl)
-- loop.example/g00051/impl.Stamp
noncomputable def i_impl_Stamp : Shape := ⟨[(0, .c (.int .i64))], []⟩
noncomputable def o_impl_Stamp : Shape := ⟨[(0, .c (.str))], []⟩
noncomputable def impl_Stamp (a0 : Int) : Option (ByteArray) :=
  (impl_DateOf a0).bind fun val =>
   bif !val.snd.snd.snd.snd.snd then some (bs [])
   else (impl_fill val.fst 4).bind fun val_1 => bif decide (ByteArray.size val_1 + (bs [45]).size ≤ 9223372036854775807) then (impl_fill val.snd.fst 2).bind fun val_2 => bif decide ((val_1 ++ bs [45]).size + ByteArray.size val_2 ≤ 9223372036854775807) then bif decide ((val_1 ++ bs [45] ++ val_2).size + (bs [45]).size ≤ 9223372036854775807) then (impl_fill val.snd.snd.fst 2).bind fun val_3 => bif decide ((val_1 ++ bs [45] ++ val_2 ++ bs [45]).size + ByteArray.size val_3 ≤ 9223372036854775807) then bif decide ((val_1 ++ bs [45] ++ val_2 ++ bs [45] ++ val_3).size + (bs [84]).size ≤ 9223372036854775807) then (impl_fill val.snd.snd.snd.fst 2).bind fun val_4 => bif decide ((val_1 ++ bs [45] ++ val_2 ++ bs [45] ++ val_3 ++ bs [84]).size + ByteArray.size val_4 ≤ 9223372036854775807) then bif decide ((val_1 ++ bs [45] ++ val_2 ++ bs [45] ++ val_3 ++ bs [84] ++ val_4).size + (bs [58]).size ≤ 9223372036854775807) then (impl_fill val.snd.snd.snd.snd.fst 2).bind fun val => bif decide ((val_1 ++ bs [45] ++ val_2 ++ bs [45] ++ val_3 ++ bs [84] ++ val_4 ++ bs [58]).size + ByteArray.size val ≤ 9223372036854775807) then bif decide ((val_1 ++ bs [45] ++ val_2 ++ bs [45] ++ val_3 ++ bs [84] ++ val_4 ++ bs [58] ++ val).size + (bs [90]).size ≤ 9223372036854775807) then some (val_1 ++ bs [45] ++ val_2 ++ bs [45] ++ val_3 ++ bs [84] ++ val_4 ++ bs [58] ++ val ++ bs [90]) else none else none else none else none else none else none else none else none else none
noncomputable def g_impl_Stamp : Sg := ⟨i_impl_Stamp, o_impl_Stamp, ByteArray, fun y => ((y, ()), ()), fun x => impl_Stamp x.1.1⟩
noncomputable def C_impl_Stamp : Ctx := ⟨36, tiOf Tryd.prog, gl, sgOf [(93, g_impl_DateOf), (77, g_impl_fill)], []⟩
noncomputable def r_impl_Stamp : AExit → Env → Option (ByteArray) := retK C_impl_Stamp 0 o_impl_Stamp (fun y => y.1.1) Tryd.f53.results.toList
theorem e_impl_Stamp : Sound Tryd.prog gl 53 g_impl_Stamp :=
  sound_plain (C := C_impl_Stamp) ⟨fun _ _ h => h, by kernel_rfl⟩ (sgOf_all' ⟨.inl ⟨by kernel_rfl, e_impl_DateOf⟩, .inl ⟨by kernel_rfl, (Sound.mono gl_DT (by rfl) e_impl_fill)⟩, trivial⟩) 53 Tryd.f53 g_impl_Stamp (fun y => y.1.1) (by kernel_rfl) (by kernel_rfl) (by kernel_rfl) (by kernel_rfl) (by kernel_rfl) (by kernel_rfl) (fun _ => rfl) (fun x => by kernel_rfl)
-- loop.example/g00051/spec.l2Time
noncomputable def i_spec_l2Time : Shape := ⟨[(0, .c (.int .i64))], []⟩
noncomputable def o_spec_l2Time : Shape := ⟨[(0, .c (.bool))], []⟩
noncomputable def spec_l2Time (a0 : Int) : Option (Bool) :=
  bif decide (a0 ≥ 0) then some (decide (a0 ≤ 52596000)) else some false
noncomputable def g_spec_l2Time : Sg := ⟨i_spec_l2Time, o_spec_l2Time, Bool, fun y => ((y, ()), ()), fun x => spec_l2Time x.1.1⟩
noncomputable def C_spec_l2Time : Ctx := ⟨9, tiOf Tryd.prog, gl, sgOf [], []⟩
noncomputable def r_spec_l2Time : AExit → Env → Option (Bool) := retK C_spec_l2Time 0 o_spec_l2Time (fun y => y.1.1) Tryd.f112.results.toList
theorem e_spec_l2Time : Sound Tryd.prog gl 112 g_spec_l2Time :=
  sound_plain (C := C_spec_l2Time) ⟨fun _ _ h => h, by kernel_rfl⟩ (sgOf_all' trivial) 112 Tryd.f112 g_spec_l2Time (fun y => y.1.1) (by kernel_rfl) (by kernel_rfl) (by kernel_rfl) (by kernel_rfl) (by kernel_rfl) (by kernel_rfl) (fun _ => rfl) (fun x => by kernel_rfl)
-- loop.example/g00051/spec.l2Days
noncomputable def i_spec_l2Days : Shape := ⟨[(0, .c (.int .i64)), (1, .c (.int .i64))], []⟩
noncomputable def o_spec_l2Days : Shape := ⟨[(0, .c (.int .i64))], []⟩
noncomputable def spec_l2Days (a0 : Int) (a1 : Int) : Option (Int) :=
  bif a1 == 2 then bif a0.tmod 4 == 0 then bif a0 != 2100 then some 29 else some 28 else some 28 else bif a1 == 4 then some 30 else bif a1 == 6 then some 30 else bif a1 == 9 then some 30 else bif a1 == 11 then some 30 else some 31
noncomputable def g_spec_l2Days : Sg := ⟨i_spec_l2Days, o_spec_l2Days, Int, fun y => ((y, ()), ()), fun x => spec_l2Days x.1.1 x.1.2.1⟩
noncomputable def C_spec_l2Days : Ctx := ⟨20, tiOf Tryd.prog, gl, sgOf [], []⟩
noncomputable def r_spec_l2Days : AExit → Env → Option (Int) := retK C_spec_l2Days 0 o_spec_l2Days (fun y => y.1.1) Tryd.f113.results.toList
theorem e_spec_l2Days : Sound Tryd.prog gl 113 g_spec_l2Days :=
  sound_plain (C := C_spec_l2Days) ⟨fun _ _ h => h, by kernel_rfl⟩ (sgOf_all' trivial) 113 Tryd.f113 g_spec_l2Days (fun y => y.1.1) (by kernel_rfl) (by kernel_rfl) (by kernel_rfl) (by kernel_rfl) (by kernel_rfl) (by kernel_rfl) (fun _ => rfl) (fun x => by kernel_rfl)
-- loop.example/g00051/spec.DateOf
noncomputable def i_spec_DateOf : Shape := ⟨[(0, .c (.int .i64))], []⟩
noncomputable def o_spec_DateOf : Shape := ⟨[(0, .tup [(true, [.int .i64, .int .i64, .int .i64, .int .i64, .int .i64]), (false, [.bool])])], []⟩
noncomputable def s_spec_DateOf_5 : Shape := ⟨[(2, .c (.ptr 0 0)), (4, .c (.int .i64)), (5, .c (.ptr 1 0))], [.box 109 [.int .i64, .int .i64, .int .i64, .int .i64, .int .i64], .box 109 [.int .i64, .int .i64, .int .i64, .int .i64, .int .i64]]⟩
noncomputable def spec_DateOf_L5 : Nat → Int → Int → Int → Int → Int → Int → Int → Int → Int → Int → Int → Option (Int × Int × Int × Int × Int × Bool)
  | 0, _, _, _, _, _, _, _, _, _, _, _ => none
  | k + 1, a0, a1, a2, a3, a4, a5, a6, a7, a8, a9, a10 =>
  (spec_l2Days a6 a7).bind fun val => bif decide (a0 ≥ val) then (spec_l2Days a6 a7).bind fun val => bif IntKind.i64.wrap (a7 + 1) == 13 then spec_DateOf_L5 k (IntKind.i64.wrap (a0 - val)) a1 a2 a3 a4 a5 (IntKind.i64.wrap (a6 + 1)) 1 a8 a9 a10 else spec_DateOf_L5 k (IntKind.i64.wrap (a0 - val)) a1 a2 a3 a4 a5 a6 (IntKind.i64.wrap (a7 + 1)) a8 a9 a10 else some (a6, a7, IntKind.i64.wrap (a0 + 1), a9, a10, true)
noncomputable def j_spec_DateOf : List (Nat × (Nat → Cut (Int × Int × Int × Int × Int × Bool))) := [(5, fun k => ⟨s_spec_DateOf_5, fun x => spec_DateOf_L5 k x.1.2.1 x.2.1.1 x.2.1.2.1 x.2.1.2.2.1 x.2.1.2.2.2.1 x.2.1.2.2.2.2.1 x.2.2.1.1 x.2.2.1.2.1 x.2.2.1.2.2.1 x.2.2.1.2.2.2.1 x.2.2.1.2.2.2.2.1⟩)]
noncomputable def spec_DateOf_F (k : Nat) (a0 : Int) : Option (Int × Int × Int × Int × Int × Bool) :=
  (spec_l2Time a0).bind fun val => bif !val then some (0, 0, 0, 0, 0, false) else spec_DateOf_L5 k (IntKind.i64.wrap (a0.tdiv 1440)) 0 0 0 0 0 2000 1 1 ((IntKind.i64.wrap (a0.tdiv 60)).tmod 24) (a0.tmod 60)
noncomputable def spec_DateOf (a0 : Int) : Option (Int × Int × Int × Int × Int × Bool) := evF fun k => spec_DateOf_F k a0
noncomputable def g_spec_DateOf : Sg := ⟨i_spec_DateOf, o_spec_DateOf, Int × Int × Int × Int × Int × Bool, fun y => ((((y.1, y.2.1, y.2.2.1, y.2.2.2.1, y.2.2.2.2.1, ()), (y.2.2.2.2.2, ()), ()), ()), ()), fun x => spec_DateOf x.1.1⟩
noncomputable def C_spec_DateOf : Ctx := ⟨48, tiOf Tryd.prog, gl, sgOf [(112, g_spec_l2Time), (113, g_spec_l2Days)], []⟩
noncomputable def r_spec_DateOf : AExit → Env → Option (Int × Int × Int × Int × Int × Bool) := retK C_spec_DateOf 0 o_spec_DateOf (fun y => (y.1.1.1.1, y.1.1.1.2.1, y.1.1.1.2.2.1, y.1.1.1.2.2.2.1, y.1.1.1.2.2.2.2.1, y.1.1.2.1.1)) Tryd.f89.results.toList
theorem e_spec_DateOf : Sound Tryd.prog gl 89 g_spec_DateOf :=
  sound_cuts (C := C_spec_DateOf) ⟨fun _ _ h => h, by kernel_rfl⟩ (sgOf_all' ⟨.inl ⟨by kernel_rfl, e_spec_l2Time⟩, .inl ⟨by kernel_rfl, e_spec_l2Days⟩, trivial⟩) 89 Tryd.f89 g_spec_DateOf (fun y => (y.1.1.1.1, y.1.1.1.2.1, y.1.1.1.2.2.1, y.1.1.1.2.2.2.1, y.1.1.1.2.2.2.2.1, y.1.1.2.1.1)) j_spec_DateOf 1 (by kernel_rfl) (by kernel_rfl) (by kernel_rfl) (by kernel_rfl) (by kernel_rfl) (by kernel_rfl) (fun _ => rfl) (by kernel_rfl) (by kernel_rfl)
    ⟨trivial, s_spec_DateOf_5, fun k x => spec_DateOf_L5 k x.1.2.1 x.2.1.1 x.2.1.2.1 x.2.1.2.2.1 x.2.1.2.2.2.1 x.2.1.2.2.2.2.1 x.2.2.1.1 x.2.2.1.2.1 x.2.2.1.2.2.1 x.2.2.1.2.2.2.1 x.2.2.1.2.2.2.2.1, ⟨fun k => by kernel_rfl, fun k y => by kernel_rfl, fun y => by kernel_rfl⟩⟩
    (fun k x => spec_DateOf_F k x.1.1) (fun x => rfl) (fun k x => by kernel_rfl)
-- loop.example/g00051/spec.Stamp
noncomputable def i_spec_Stamp : Shape := ⟨[(0, .c (.int .i64))], []⟩
noncomputable def o_spec_Stamp : Shape := ⟨[(0, .c (.str))], []⟩
noncomputable def spec_Stamp (a0 : Int) : Option (ByteArray) :=
  (spec_DateOf a0).bind fun val =>
   bif !val.snd.snd.snd.snd.snd then some (bs [])
   else (spec_l2Pad val.fst 4).bind fun val_1 => bif decide (ByteArray.size val_1 + (bs [45]).size ≤ 9223372036854775807) then (spec_l2Pad val.snd.fst 2).bind fun val_2 => bif decide ((val_1 ++ bs [45]).size + ByteArray.size val_2 ≤ 9223372036854775807) then bif decide ((val_1 ++ bs [45] ++ val_2).size + (bs [45]).size ≤ 9223372036854775807) then (spec_l2Pad val.snd.snd.fst 2).bind fun val_3 => bif decide ((val_1 ++ bs [45] ++ val_2 ++ bs [45]).size + ByteArray.size val_3 ≤ 9223372036854775807) then bif decide ((val_1 ++ bs [45] ++ val_2 ++ bs [45] ++ val_3).size + (bs [84]).size ≤ 9223372036854775807) then (spec_l2Pad val.snd.snd.snd.fst 2).bind fun val_4 => bif decide ((val_1 ++ bs [45] ++ val_2 ++ bs [45] ++ val_3 ++ bs [84]).size + ByteArray.size val_4 ≤ 9223372036854775807) then bif decide ((val_1 ++ bs [45] ++ val_2 ++ bs [45] ++ val_3 ++ bs [84] ++ val_4).size + (bs [58]).size ≤ 9223372036854775807) then (spec_l2Pad val.snd.snd.snd.snd.fst 2).bind fun val => bif decide ((val_1 ++ bs [45] ++ val_2 ++ bs [45] ++ val_3 ++ bs [84] ++ val_4 ++ bs [58]).size + ByteArray.size val ≤ 9223372036854775807) then bif decide ((val_1 ++ bs [45] ++ val_2 ++ bs [45] ++ val_3 ++ bs [84] ++ val_4 ++ bs [58] ++ val).size + (bs [90]).size ≤ 9223372036854775807) then some (val_1 ++ bs [45] ++ val_2 ++ bs [45] ++ val_3 ++ bs [84] ++ val_4 ++ bs [58] ++ val ++ bs [90]) else none else none else none else none else none else none else none else none else none
noncomputable def g_spec_Stamp : Sg := ⟨i_spec_Stamp, o_spec_Stamp, ByteArray, fun y => ((y, ()), ()), fun x => spec_Stamp x.1.1⟩
noncomputable def C_spec_Stamp : Ctx := ⟨36, tiOf Tryd.prog, gl, sgOf [(89, g_spec_DateOf), (90, g_spec_l2Pad)], []⟩
noncomputable def r_spec_Stamp : AExit → Env → Option (ByteArray) := retK C_spec_Stamp 0 o_spec_Stamp (fun y => y.1.1) Tryd.f44.results.toList
theorem e_spec_Stamp : Sound Tryd.prog gl 44 g_spec_Stamp :=
  sound_plain (C := C_spec_Stamp) ⟨fun _ _ h => h, by kernel_rfl⟩ (sgOf_all' ⟨.inl ⟨by kernel_rfl, e_spec_DateOf⟩, .inl ⟨by kernel_rfl, (Sound.mono gl_DT (by rfl) e_spec_l2Pad)⟩, trivial⟩) 44 Tryd.f44 g_spec_Stamp (fun y => y.1.1) (by kernel_rfl) (by kernel_rfl) (by kernel_rfl) (by kernel_rfl) (by kernel_rfl) (by kernel_rfl) (fun _ => rfl) (fun x => by kernel_rfl)
end Go.Proofs.YtgkejafaggaocaaDoor.ST
