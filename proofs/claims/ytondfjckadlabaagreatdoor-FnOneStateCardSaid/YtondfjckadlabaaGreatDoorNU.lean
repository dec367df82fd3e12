/-
  Part of a proof by the engine: texts that a program of ours printed, or plain lemmas on them. No condition but what each theorem says.
-/
import Derived.Test.YtondfjckadlabaaGreatDoorDT
import Derived.Test.YtondfjckadlabaaGreatDoorEng5
import Derived.Test.YtondfjckadlabaaGreatDoorProg
import Derived.KernelRfl
import Derived.Test.YtondfjckadlabaaGreatDoorDoors1
import Derived.Test.YtondfjckadlabaaGreatDoorDoors2
import Derived.Test.YtondfjckadlabaaGreatDoorDoors5
import Derived.Test.YtondfjckadlabaaGreatDoorDoors6
set_option linter.unusedVariables false
set_option linter.unusedSimpArgs false
set_option maxRecDepth 100000
namespace Go.Proofs.YtondfjckadlabaaGreatDoor.NU
open Go Go.Eng Go.Proofs
open Go.Proofs.YtondfjckadlabaaGreatDoor.EX
open Go.Proofs.YtondfjckadlabaaGreatDoor.DT hiding gl
noncomputable def gl : Nat → Option (List Cell) := glOf [(5, L_strconv_uint64pow10.map (Cell.int .u64))]
theorem gl_DT : ∀ g cs, Go.Proofs.YtondfjckadlabaaGreatDoor.DT.gl g = some cs → gl g = some cs := glOf_mono (by intro p hp; simp only [List.mem_cons, List.not_mem_nil, or_false] at hp; subst hp <;> rfl)
-- loop.example/g00051/spec.l1Digit
noncomputable def i_spec_l1Digit : Shape := ⟨[(0, .c (.int .u8))], []⟩
noncomputable def o_spec_l1Digit : Shape := ⟨[(0, .c (.bool))], []⟩
noncomputable def spec_l1Digit (a0 : Int) : Option (Bool) :=
  bif decide (a0 ≥ 48) then some (decide (a0 ≤ 57)) else some false
noncomputable def g_spec_l1Digit : Sg := ⟨i_spec_l1Digit, o_spec_l1Digit, Bool, fun y => ((y, ()), ()), fun x => spec_l1Digit x.1.1⟩
noncomputable def C_spec_l1Digit : Ctx := ⟨9, tiOf Tryz.prog, gl, sgOf [], []⟩
theorem e_spec_l1Digit : Sound Tryz.prog gl 174 g_spec_l1Digit :=
  sound_plain (C := C_spec_l1Digit) ⟨fun _ _ h => h, by kernel_rfl⟩ (sgOf_all' trivial) 174 Tryz.f174 g_spec_l1Digit (fun y => y.1.1) (by kernel_rfl) (by kernel_rfl) (by kernel_rfl) (by kernel_rfl) (by kernel_rfl) (by kernel_rfl) (fun _ => rfl) (fun x => by kernel_rfl)
-- loop.example/g00051/spec.l2Number
noncomputable def spec_l2Number_L5 : Nat → ByteArray → Int → Int → Option (Int)
  | 0, _, _, _ => none
  | k + 1, a0, a1, a2 =>
  bif decide (a2 < (↑a0.size : Int)) then bif decide (0 ≤ a2) then bif decide (a2 < (↑a0.size : Int)) then (spec_l1Digit (bt a0 a2)).bind fun val => bif !val then some (-1) else bif decide (0 ≤ a2) then bif decide (a2 < (↑a0.size : Int)) then spec_l2Number_L5 k a0 (IntKind.i64.wrap (IntKind.i64.wrap (a1 * 10) + IntKind.i64.wrap (IntKind.u8.wrap (bt a0 a2 - 48)))) (IntKind.i64.wrap (a2 + 1)) else none else none else none else none else some a1
noncomputable def spec_l2Number_F (k : Nat) (a0 : ByteArray) : Option (Int) :=
  bif (↑a0.size : Int) == 0 then some (-1) else bif decide ((↑a0.size : Int) > 15) then some (-1) else spec_l2Number_L5 k a0 0 0
noncomputable def spec_l2Number (a0 : ByteArray) : Option (Int) := evF fun k => spec_l2Number_F k a0
-- loop.example/g00051/spec.l4Pieces
-- loop.example/g00051/impl.whole
noncomputable def i_impl_whole : Shape := ⟨[(0, .c (.str))], []⟩
noncomputable def o_impl_whole : Shape := ⟨[(0, .c (.int .i64))], []⟩
noncomputable def impl_whole (a0 : ByteArray) : Option (Int) :=
  (dPar a0 10 64).bind fun val => some val
noncomputable def g_impl_whole : Sg := ⟨i_impl_whole, o_impl_whole, Int, fun y => ((y, ()), ()), fun x => impl_whole x.1.1⟩
noncomputable def C_impl_whole : Ctx := ⟨11, tiOf Tryz.prog, gl, sgOf [(194, gPar)], []⟩
theorem e_impl_whole : Sound Tryz.prog gl 132 g_impl_whole :=
  sound_plain (C := C_impl_whole) ⟨fun _ _ h => h, by kernel_rfl⟩ (sgOf_all' ⟨.inl ⟨by kernel_rfl, ePar⟩, trivial⟩) 132 Tryz.f132 g_impl_whole (fun y => y.1.1) (by kernel_rfl) (by kernel_rfl) (by kernel_rfl) (by kernel_rfl) (by kernel_rfl) (by kernel_rfl) (fun _ => rfl) (fun x => by kernel_rfl)
-- loop.example/g00051/spec.l2Right
noncomputable def spec_l2Right (a0 : Int) (a1 : Int) (a2 : Int) (a3 : Int) (a4 : Int) : Option (Bool) :=
  bif a0 == 2100 && (a1 == 1 && (a2 == 1 && (a3 == 0 && a4 == 0))) then some true else (spec_l2In a0 2000 2099).bind fun val => bif val then (spec_l2In a1 1 12).bind fun val => bif val then (spec_l2Days a0 a1).bind fun val => (spec_l2In a2 1 val).bind fun val => bif val then (spec_l2In a3 0 23).bind fun val => bif val then (spec_l2In a4 0 59).bind fun val => some val else some false else some false else some false else some false
-- loop.example/g00051/spec.TimeOf
mutual
noncomputable def spec_TimeOf_L5 : Nat → Int → Int → Int → Int → Int → Int → Int → Option (Int × Bool)
  | 0, _, _, _, _, _, _, _ => none
  | k + 1, a0, a1, a2, a3, a4, a5, a6 =>
  bif decide (a1 < a2) then spec_TimeOf_L8 k a0 a1 1 a2 a3 a4 a5 a6 else spec_TimeOf_L12 k a0 1 a2 a3 a4 a5 a6
noncomputable def spec_TimeOf_L8 : Nat → Int → Int → Int → Int → Int → Int → Int → Int → Option (Int × Bool)
  | 0, _, _, _, _, _, _, _, _ => none
  | k + 1, a0, a1, a2, a3, a4, a5, a6, a7 =>
  bif decide (a2 ≤ 12) then (spec_l2Days a1 a2).bind fun val => spec_TimeOf_L8 k (IntKind.i64.wrap (a0 + val)) a1 (IntKind.i64.wrap (a2 + 1)) a3 a4 a5 a6 a7 else spec_TimeOf_L5 k a0 (IntKind.i64.wrap (a1 + 1)) a3 a4 a5 a6 a7
noncomputable def spec_TimeOf_L12 : Nat → Int → Int → Int → Int → Int → Int → Int → Option (Int × Bool)
  | 0, _, _, _, _, _, _, _ => none
  | k + 1, a0, a1, a2, a3, a4, a5, a6 =>
  bif decide (a1 < a3) then (spec_l2Days a2 a1).bind fun val => spec_TimeOf_L12 k (IntKind.i64.wrap (a0 + val)) (IntKind.i64.wrap (a1 + 1)) a2 a3 a4 a5 a6 else some (IntKind.i64.wrap (IntKind.i64.wrap (IntKind.i64.wrap (IntKind.i64.wrap (IntKind.i64.wrap (IntKind.i64.wrap (a0 + a4) - 1) * 24) + a5) * 60) + a6), true)
end
noncomputable def spec_TimeOf_F (k : Nat) (a0 : Int) (a1 : Int) (a2 : Int) (a3 : Int) (a4 : Int) : Option (Int × Bool) :=
  (spec_l2Right a0 a1 a2 a3 a4).bind fun val => bif !val then some (0, false) else spec_TimeOf_L5 k 0 2000 a0 a1 a2 a3 a4
noncomputable def spec_TimeOf (a0 : Int) (a1 : Int) (a2 : Int) (a3 : Int) (a4 : Int) : Option (Int × Bool) := evF fun k => spec_TimeOf_F k a0 a1 a2 a3 a4
-- loop.example/g00051/spec.NearDay
mutual
noncomputable def spec_NearDay_L6 : Nat → Int → Int → Int → Int → Int → Int → Int → Int → Int → Int → Int → Option (Int × Bool)
  | 0, _, _, _, _, _, _, _, _, _, _, _ => none
  | k + 1, a0, a1, a2, a3, a4, a5, a6, a7, a8, a9, a10 =>
  bif decide (a5 ≤ IntKind.i64.wrap (a6 + 1)) then spec_NearDay_L9 k a0 a1 a2 a3 a4 a5 1 a6 a7 a8 a9 a10 else bif decide (a4 < 0) then some (0, false) else some (a4, true)
noncomputable def spec_NearDay_L9 : Nat → Int → Int → Int → Int → Int → Int → Int → Int → Int → Int → Int → Int → Option (Int × Bool)
  | 0, _, _, _, _, _, _, _, _, _, _, _, _ => none
  | k + 1, a0, a1, a2, a3, a4, a5, a6, a7, a8, a9, a10, a11 =>
  bif decide (a6 ≤ 12) then
   (spec_TimeOf a5 a6 a0 (a1.tmod 24) a2).bind fun val =>
    bif !val.snd then spec_NearDay_L9 k a0 a1 a2 a3 a4 a5 (IntKind.i64.wrap (a6 + 1)) a7 a8 a9 a10 a11
    else
     bif a1 == 24 then (spec_l2Time (IntKind.i64.wrap (val.fst + 1440))).bind fun val_1 => bif val_1 then bif decide (a4 < 0) then spec_NearDay_L9 k a0 a1 a2 a3 (IntKind.i64.wrap (val.fst + 1440)) a5 (IntKind.i64.wrap (a6 + 1)) a7 a8 a9 a10 a11 else bif decide ((if IntKind.i64.wrap (a3 - IntKind.i64.wrap (val.fst + 1440)) > IntKind.i64.wrap (IntKind.i64.wrap (val.fst + 1440) - a3) then IntKind.i64.wrap (a3 - IntKind.i64.wrap (val.fst + 1440)) else IntKind.i64.wrap (IntKind.i64.wrap (val.fst + 1440) - a3)) < if IntKind.i64.wrap (a3 - a4) > IntKind.i64.wrap (a4 - a3) then IntKind.i64.wrap (a3 - a4) else IntKind.i64.wrap (a4 - a3)) then spec_NearDay_L9 k a0 a1 a2 a3 (IntKind.i64.wrap (val.fst + 1440)) a5 (IntKind.i64.wrap (a6 + 1)) a7 a8 a9 a10 a11 else spec_NearDay_L9 k a0 a1 a2 a3 a4 a5 (IntKind.i64.wrap (a6 + 1)) a7 a8 a9 a10 a11 else spec_NearDay_L9 k a0 a1 a2 a3 a4 a5 (IntKind.i64.wrap (a6 + 1)) a7 a8 a9 a10 a11
     else (spec_l2Time val.fst).bind fun val_1 => bif val_1 then bif decide (a4 < 0) then spec_NearDay_L9 k a0 a1 a2 a3 val.fst a5 (IntKind.i64.wrap (a6 + 1)) a7 a8 a9 a10 a11 else bif decide ((if IntKind.i64.wrap (a3 - val.fst) > IntKind.i64.wrap (val.fst - a3) then IntKind.i64.wrap (a3 - val.fst) else IntKind.i64.wrap (val.fst - a3)) < if IntKind.i64.wrap (a3 - a4) > IntKind.i64.wrap (a4 - a3) then IntKind.i64.wrap (a3 - a4) else IntKind.i64.wrap (a4 - a3)) then spec_NearDay_L9 k a0 a1 a2 a3 val.fst a5 (IntKind.i64.wrap (a6 + 1)) a7 a8 a9 a10 a11 else spec_NearDay_L9 k a0 a1 a2 a3 a4 a5 (IntKind.i64.wrap (a6 + 1)) a7 a8 a9 a10 a11 else spec_NearDay_L9 k a0 a1 a2 a3 a4 a5 (IntKind.i64.wrap (a6 + 1)) a7 a8 a9 a10 a11
  else spec_NearDay_L6 k a0 a1 a2 a3 a4 (IntKind.i64.wrap (a5 + 1)) a7 a8 a9 a10 a11
end
noncomputable def spec_NearDay_F (k : Nat) (a0 : Int) (a1 : Int) (a2 : Int) (a3 : Int) : Option (Int × Bool) :=
  (spec_l2Time a3).bind fun val => bif !val then some (0, false) else (spec_l2In a0 1 31).bind fun val => bif !val then some (0, false) else (spec_l2In a1 0 24).bind fun val => bif !val then some (0, false) else (spec_l2In a2 0 59).bind fun val => bif !val then some (0, false) else bif a1 == 24 then bif a2 != 0 then some (0, false) else (spec_DateOf a3).bind fun val => spec_NearDay_L6 k a0 a1 a2 a3 (-1) (IntKind.i64.wrap (val.fst - 1)) val.fst val.snd.fst val.snd.snd.fst val.snd.snd.snd.fst val.snd.snd.snd.snd.fst else (spec_DateOf a3).bind fun val => spec_NearDay_L6 k a0 a1 a2 a3 (-1) (IntKind.i64.wrap (val.fst - 1)) val.fst val.snd.fst val.snd.snd.fst val.snd.snd.snd.fst val.snd.snd.snd.snd.fst
noncomputable def spec_NearDay (a0 : Int) (a1 : Int) (a2 : Int) (a3 : Int) : Option (Int × Bool) := evF fun k => spec_NearDay_F k a0 a1 a2 a3
-- loop.example/g00051/impl.NearDay
noncomputable def i_impl_NearDay : Shape := ⟨[(0, .c (.int .i64)), (1, .c (.int .i64)), (2, .c (.int .i64)), (3, .c (.int .i64))], []⟩
noncomputable def o_impl_NearDay : Shape := ⟨[(0, .tup [(false, [.int .i64]), (false, [.bool])])], []⟩
noncomputable def s_impl_NearDay_5 : Shape := ⟨[(0, .c (.int .i64)), (1, .c (.int .i64)), (2, .c (.int .i64)), (3, .c (.int .i64)), (10, .c (.int .i64)), (11, .c (.bool)), (12, .c (.int .i64))], []⟩
noncomputable def s_impl_NearDay_8 : Shape := ⟨[(0, .c (.int .i64)), (1, .c (.int .i64)), (2, .c (.int .i64)), (3, .c (.int .i64)), (10, .c (.int .i64)), (11, .c (.bool)), (12, .c (.int .i64)), (13, .c (.int .i64))], []⟩
mutual
noncomputable def impl_NearDay_L5 : Nat → Int → Int → Int → Int → Int → Bool → Int → Option (Int × Bool)
  | 0, _, _, _, _, _, _, _ => none
  | k + 1, a0, a1, a2, a3, a4, a5, a6 =>
  bif decide (a6 ≤ 2100) then impl_NearDay_L8 k a0 a1 a2 a3 a4 a5 a6 1 else some (a4, a5)
noncomputable def impl_NearDay_L8 : Nat → Int → Int → Int → Int → Int → Bool → Int → Int → Option (Int × Bool)
  | 0, _, _, _, _, _, _, _, _ => none
  | k + 1, a0, a1, a2, a3, a4, a5, a6, a7 =>
  bif decide (a7 ≤ 12) then
   (impl_monthDays a6 a7).bind fun val => bif decide (a0 > val) then impl_NearDay_L8 k a0 a1 a2 a3 a4 a5 a6 (IntKind.i64.wrap (a7 + 1)) else (impl_daysTo a6 a7 a0).bind fun val => (impl_isTime (IntKind.i64.wrap (IntKind.i64.wrap (IntKind.i64.wrap (val * 1440) + IntKind.i64.wrap (a1 * 60)) + a2))).bind fun val_1 => bif !val_1 then impl_NearDay_L8 k a0 a1 a2 a3 a4 a5 a6 (IntKind.i64.wrap (a7 + 1)) else bif !a5 then impl_NearDay_L8 k a0 a1 a2 a3 (IntKind.i64.wrap (IntKind.i64.wrap (IntKind.i64.wrap (val * 1440) + IntKind.i64.wrap (a1 * 60)) + a2)) true a6 (IntKind.i64.wrap (a7 + 1)) else bif decide ((if IntKind.i64.wrap (a3 - IntKind.i64.wrap (IntKind.i64.wrap (IntKind.i64.wrap (val * 1440) + IntKind.i64.wrap (a1 * 60)) + a2)) > IntKind.i64.wrap (IntKind.i64.wrap (IntKind.i64.wrap (IntKind.i64.wrap (val * 1440) + IntKind.i64.wrap (a1 * 60)) + a2) - a3) then IntKind.i64.wrap (a3 - IntKind.i64.wrap (IntKind.i64.wrap (IntKind.i64.wrap (val * 1440) + IntKind.i64.wrap (a1 * 60)) + a2)) else IntKind.i64.wrap (IntKind.i64.wrap (IntKind.i64.wrap (IntKind.i64.wrap (val * 1440) + IntKind.i64.wrap (a1 * 60)) + a2) - a3)) < if IntKind.i64.wrap (a3 - a4) > IntKind.i64.wrap (a4 - a3) then IntKind.i64.wrap (a3 - a4) else IntKind.i64.wrap (a4 - a3)) then impl_NearDay_L8 k a0 a1 a2 a3 (IntKind.i64.wrap (IntKind.i64.wrap (IntKind.i64.wrap (val * 1440) + IntKind.i64.wrap (a1 * 60)) + a2)) true a6 (IntKind.i64.wrap (a7 + 1)) else impl_NearDay_L8 k a0 a1 a2 a3 a4 a5 a6 (IntKind.i64.wrap (a7 + 1))
  else impl_NearDay_L5 k a0 a1 a2 a3 a4 a5 (IntKind.i64.wrap (a6 + 1))
end
noncomputable def j_impl_NearDay : List (Nat × (Nat → Cut (Int × Bool))) := [(5, fun k => ⟨s_impl_NearDay_5, fun x => impl_NearDay_L5 k x.1.1 x.1.2.1 x.1.2.2.1 x.1.2.2.2.1 x.1.2.2.2.2.1 x.1.2.2.2.2.2.1 x.1.2.2.2.2.2.2.1⟩), (8, fun k => ⟨s_impl_NearDay_8, fun x => impl_NearDay_L8 k x.1.1 x.1.2.1 x.1.2.2.1 x.1.2.2.2.1 x.1.2.2.2.2.1 x.1.2.2.2.2.2.1 x.1.2.2.2.2.2.2.1 x.1.2.2.2.2.2.2.2.1⟩)]
noncomputable def impl_NearDay_F (k : Nat) (a0 : Int) (a1 : Int) (a2 : Int) (a3 : Int) : Option (Int × Bool) :=
  (impl_isTime a3).bind fun val => bif !val then some (0, false) else (impl_in a0 1 31).bind fun val => bif !val then some (0, false) else (impl_in a1 0 24).bind fun val => bif !val then some (0, false) else (impl_in a2 0 59).bind fun val => bif !val then some (0, false) else bif a1 == 24 then bif a2 != 0 then some (0, false) else impl_NearDay_L5 k a0 a1 a2 a3 0 false 2000 else impl_NearDay_L5 k a0 a1 a2 a3 0 false 2000
noncomputable def impl_NearDay (a0 : Int) (a1 : Int) (a2 : Int) (a3 : Int) : Option (Int × Bool) := evF fun k => impl_NearDay_F k a0 a1 a2 a3
noncomputable def g_impl_NearDay : Sg := ⟨i_impl_NearDay, o_impl_NearDay, Int × Bool, fun y => ((((y.1, ()), (y.2, ()), ()), ()), ()), fun x => impl_NearDay x.1.1 x.1.2.1 x.1.2.2.1 x.1.2.2.2.1⟩
noncomputable def C_impl_NearDay : Ctx := ⟨89, tiOf Tryz.prog, gl, sgOf [(81, g_impl_isTime), (83, g_impl_in), (218, g_impl_monthDays), (219, g_impl_daysTo)], []⟩
theorem e_impl_NearDay : Sound Tryz.prog gl 163 g_impl_NearDay :=
  sound_cuts (C := C_impl_NearDay) ⟨fun _ _ h => h, by kernel_rfl⟩ (sgOf_all' ⟨.inl ⟨by kernel_rfl, (Sound.mono gl_DT (by rfl) e_impl_isTime)⟩, .inl ⟨by kernel_rfl, (Sound.mono gl_DT (by rfl) e_impl_in)⟩, .inl ⟨by kernel_rfl, (Sound.mono gl_DT (by rfl) e_impl_monthDays)⟩, .inl ⟨by kernel_rfl, (Sound.mono gl_DT (by rfl) e_impl_daysTo)⟩, trivial⟩) 163 Tryz.f163 g_impl_NearDay (fun y => (y.1.1.1.1, y.1.1.2.1.1)) j_impl_NearDay 2 (by kernel_rfl) (by kernel_rfl) (by kernel_rfl) (by kernel_rfl) (by kernel_rfl) (by kernel_rfl) (fun _ => rfl) (by kernel_rfl) (by kernel_rfl)
    ⟨⟨trivial, s_impl_NearDay_5, fun k x => impl_NearDay_L5 k x.1.1 x.1.2.1 x.1.2.2.1 x.1.2.2.2.1 x.1.2.2.2.2.1 x.1.2.2.2.2.2.1 x.1.2.2.2.2.2.2.1, ⟨fun k => by kernel_rfl, fun k y => by kernel_rfl, fun y => by kernel_rfl⟩⟩, s_impl_NearDay_8, fun k x => impl_NearDay_L8 k x.1.1 x.1.2.1 x.1.2.2.1 x.1.2.2.2.1 x.1.2.2.2.2.1 x.1.2.2.2.2.2.1 x.1.2.2.2.2.2.2.1 x.1.2.2.2.2.2.2.2.1, ⟨fun k => by kernel_rfl, fun k y => by kernel_rfl, fun y => by kernel_rfl⟩⟩
    (fun k x => impl_NearDay_F k x.1.1 x.1.2.1 x.1.2.2.1 x.1.2.2.2.1) (fun x => rfl) (fun k x => by kernel_rfl)
end Go.Proofs.YtondfjckadlabaaGreatDoor.NU
