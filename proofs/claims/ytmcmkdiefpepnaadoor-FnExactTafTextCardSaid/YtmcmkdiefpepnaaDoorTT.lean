/-
  Part of a proof by the engine: texts that a program of ours printed, or plain lemmas on them. No condition but what each theorem says.
-/
import Derived.Test.YtmcmkdiefpepnaaDoorSA
import Derived.Test.YtmcmkdiefpepnaaDoorEngU
import Derived.Test.YtmcmkdiefpepnaaDoorProg
import Derived.KernelRfl
import Derived.Test.YtmcmkdiefpepnaaDoorEngY
import Derived.Test.YtmcmkdiefpepnaaDoorDoors2
set_option linter.unusedSimpArgs false
set_option linter.unusedVariables false
set_option maxRecDepth 100000
namespace Go.Proofs.YtmcmkdiefpepnaaDoor.TT
open Go Go.Eng Go.Proofs
open Go.Proofs.YtmcmkdiefpepnaaDoor.EX
open Go.Proofs.YtmcmkdiefpepnaaDoor.SA hiding gl
def L_impl_changeWords : List ByteArray := [bs [], bs [], bs [66, 69, 67, 77, 71], bs [84, 69, 77, 80, 79], bs [80, 82, 79, 66, 51, 48]]
def L_strconv_uint64pow10 : List Int := [1, 10, 100, 1000, 10000, 100000, 1000000, 10000000, 100000000, 1000000000, 10000000000, 100000000000, 1000000000000, 10000000000000, 100000000000000, 1000000000000000, 10000000000000000, 100000000000000000, 1000000000000000000, 10000000000000000000]
noncomputable def gl : Nat → Option (List Cell) := glOf [(0, L_impl_changeWords.map Cell.str), (2, [.sl .str L_impl_weathers]), (3, [.sl .str L_impl_covers]), (6, L_strconv_uint64pow10.map (Cell.int .u64))]
theorem gl_SA : ∀ g cs, Go.Proofs.YtmcmkdiefpepnaaDoor.SA.gl g = some cs → gl g = some cs := glOf_mono (by intro p hp; simp only [List.mem_cons, List.not_mem_nil, or_false] at hp; rcases hp with rfl | rfl <;> rfl)
-- loop.example/g00051/spec.l2Days
noncomputable def i_spec_l2Days : Shape := ⟨[(0, .c (.int .i64)), (1, .c (.int .i64))], []⟩
noncomputable def o_spec_l2Days : Shape := ⟨[(0, .c (.int .i64))], []⟩
noncomputable def spec_l2Days (a0 : Int) (a1 : Int) : Option (Int) :=
  bif a1 == 2 then bif a0.tmod 4 == 0 then bif a0 != 2100 then some 29 else some 28 else some 28 else bif a1 == 4 then some 30 else bif a1 == 6 then some 30 else bif a1 == 9 then some 30 else bif a1 == 11 then some 30 else some 31
noncomputable def g_spec_l2Days : Sg := ⟨i_spec_l2Days, o_spec_l2Days, Int, fun y => ((y, ()), ()), fun x => spec_l2Days x.1.1 x.1.2.1⟩
noncomputable def C_spec_l2Days : Ctx := ⟨20, tiOf Tryd.prog, gl, sgOf []⟩
noncomputable def r_spec_l2Days : AExit → Env → Option (Int) := retK C_spec_l2Days 0 o_spec_l2Days (fun y => y.1.1) Tryd.f91.results.toList
theorem e_spec_l2Days : Sound Tryd.prog gl 91 g_spec_l2Days :=
  sound_plain (C := C_spec_l2Days) ⟨fun _ _ h => h, by kernel_rfl⟩ (sgOf_all' trivial) 91 Tryd.f91 g_spec_l2Days (fun y => y.1.1) (by kernel_rfl) (by kernel_rfl) (by kernel_rfl) (by kernel_rfl) (by kernel_rfl) (by kernel_rfl) (fun _ => rfl) (fun x => by kernel_rfl)
-- loop.example/g00051/spec.DateOf
noncomputable def i_spec_DateOf : Shape := ⟨[(0, .c (.int .i64))], []⟩
noncomputable def o_spec_DateOf : Shape := ⟨[(0, .tup [(true, [.int .i64, .int .i64, .int .i64, .int .i64, .int .i64]), (false, [.bool])])], []⟩
noncomputable def s_spec_DateOf_5 : Shape := ⟨[(2, .c (.ptr 0 0)), (4, .c (.int .i64)), (5, .c (.ptr 1 0))], [.box 64 [.int .i64, .int .i64, .int .i64, .int .i64, .int .i64], .box 64 [.int .i64, .int .i64, .int .i64, .int .i64, .int .i64]]⟩
noncomputable def spec_DateOf_L5 : Nat → Int → Int → Int → Int → Int → Int → Int → Int → Int → Int → Int → Option (Int × Int × Int × Int × Int × Bool)
  | 0, _, _, _, _, _, _, _, _, _, _, _ => none
  | k + 1, a0, a1, a2, a3, a4, a5, a6, a7, a8, a9, a10 =>
  (spec_l2Days a6 a7).bind fun val => bif decide (a0 ≥ val) then (spec_l2Days a6 a7).bind fun val => bif IntKind.i64.wrap (a7 + 1) == 13 then spec_DateOf_L5 k (IntKind.i64.wrap (a0 - val)) a1 a2 a3 a4 a5 (IntKind.i64.wrap (a6 + 1)) 1 a8 a9 a10 else spec_DateOf_L5 k (IntKind.i64.wrap (a0 - val)) a1 a2 a3 a4 a5 a6 (IntKind.i64.wrap (a7 + 1)) a8 a9 a10 else some (a6, a7, IntKind.i64.wrap (a0 + 1), a9, a10, true)
noncomputable def j_spec_DateOf : List (Nat × (Nat → Cut (Int × Int × Int × Int × Int × Bool))) := [(5, fun k => ⟨s_spec_DateOf_5, fun x => spec_DateOf_L5 k x.1.2.1 x.2.1.1 x.2.1.2.1 x.2.1.2.2.1 x.2.1.2.2.2.1 x.2.1.2.2.2.2.1 x.2.2.1.1 x.2.2.1.2.1 x.2.2.1.2.2.1 x.2.2.1.2.2.2.1 x.2.2.1.2.2.2.2.1⟩)]
noncomputable def spec_DateOf_F (k : Nat) (a0 : Int) : Option (Int × Int × Int × Int × Int × Bool) :=
  (spec_l2Time a0).bind fun val => bif !val then some (0, 0, 0, 0, 0, false) else spec_DateOf_L5 k (IntKind.i64.wrap (a0.tdiv 1440)) 0 0 0 0 0 2000 1 1 ((IntKind.i64.wrap (a0.tdiv 60)).tmod 24) (a0.tmod 60)
noncomputable def spec_DateOf (a0 : Int) : Option (Int × Int × Int × Int × Int × Bool) := evF fun k => spec_DateOf_F k a0
noncomputable def g_spec_DateOf : Sg := ⟨i_spec_DateOf, o_spec_DateOf, Int × Int × Int × Int × Int × Bool, fun y => ((((y.1, y.2.1, y.2.2.1, y.2.2.2.1, y.2.2.2.2.1, ()), (y.2.2.2.2.2, ()), ()), ()), ()), fun x => spec_DateOf x.1.1⟩
noncomputable def C_spec_DateOf : Ctx := ⟨48, tiOf Tryd.prog, gl, sgOf [(90, g_spec_l2Time), (91, g_spec_l2Days)]⟩
noncomputable def r_spec_DateOf : AExit → Env → Option (Int × Int × Int × Int × Int × Bool) := retK C_spec_DateOf 0 o_spec_DateOf (fun y => (y.1.1.1.1, y.1.1.1.2.1, y.1.1.1.2.2.1, y.1.1.1.2.2.2.1, y.1.1.1.2.2.2.2.1, y.1.1.2.1.1)) Tryd.f36.results.toList
theorem e_spec_DateOf : Sound Tryd.prog gl 36 g_spec_DateOf :=
  sound_cuts (C := C_spec_DateOf) ⟨fun _ _ h => h, by kernel_rfl⟩ (sgOf_all' ⟨⟨by kernel_rfl, (Sound.mono gl_SA (by rfl) e_spec_l2Time)⟩, ⟨by kernel_rfl, e_spec_l2Days⟩, trivial⟩) 36 Tryd.f36 g_spec_DateOf (fun y => (y.1.1.1.1, y.1.1.1.2.1, y.1.1.1.2.2.1, y.1.1.1.2.2.2.1, y.1.1.1.2.2.2.2.1, y.1.1.2.1.1)) j_spec_DateOf 1 (by kernel_rfl) (by kernel_rfl) (by kernel_rfl) (by kernel_rfl) (by kernel_rfl) (by kernel_rfl) (fun _ => rfl) (by kernel_rfl) (by kernel_rfl)
    ⟨trivial, s_spec_DateOf_5, fun k x => spec_DateOf_L5 k x.1.2.1 x.2.1.1 x.2.1.2.1 x.2.1.2.2.1 x.2.1.2.2.2.1 x.2.1.2.2.2.2.1 x.2.2.1.1 x.2.2.1.2.1 x.2.2.1.2.2.1 x.2.2.1.2.2.2.1 x.2.2.1.2.2.2.2.1, ⟨fun k => by kernel_rfl, fun k y => by kernel_rfl, fun y => by kernel_rfl⟩⟩
    (fun k x => spec_DateOf_F k x.1.1) (fun x => rfl) (fun k x => by kernel_rfl)
-- loop.example/g00051/spec.l1Dec
noncomputable def i_spec_l1Dec : Shape := ⟨[(0, .c (.int .i64))], []⟩
noncomputable def o_spec_l1Dec : Shape := ⟨[(0, .c (.str))], []⟩
noncomputable def s_spec_l1Dec_7 : Shape := ⟨[(0, .c (.int .i64)), (3, .c (.str)), (4, .c (.int .u64))], []⟩
noncomputable def spec_l1Dec_L7 : Nat → Int → ByteArray → Int → Option (ByteArray)
  | 0, _, _, _ => none
  | k + 1, a0, a1, a2 =>
  bif decide (a2 > 0) then bif decide ((bytesOf [IntKind.u8.wrap (IntKind.u64.wrap (48 + a2.tmod 10))]).size + a1.size ≤ 9223372036854775807) then spec_l1Dec_L7 k a0 (bytesOf [IntKind.u8.wrap (IntKind.u64.wrap (48 + a2.tmod 10))] ++ a1) (IntKind.u64.wrap (a2.tdiv 10)) else none else bif decide (a0 < 0) then bif decide ((bs [45]).size + a1.size ≤ 9223372036854775807) then some (bs [45] ++ a1) else none else some a1
noncomputable def j_spec_l1Dec : List (Nat × (Nat → Cut (ByteArray))) := [(7, fun k => ⟨s_spec_l1Dec_7, fun x => spec_l1Dec_L7 k x.1.1 x.1.2.1 x.1.2.2.1⟩)]
noncomputable def spec_l1Dec_F (k : Nat) (a0 : Int) : Option (ByteArray) :=
  bif a0 == 0 then some (bs [48]) else bif decide (a0 < 0) then spec_l1Dec_L7 k a0 (bs []) (IntKind.u64.wrap (0 - IntKind.u64.wrap a0)) else spec_l1Dec_L7 k a0 (bs []) (IntKind.u64.wrap a0)
noncomputable def spec_l1Dec (a0 : Int) : Option (ByteArray) := evF fun k => spec_l1Dec_F k a0
noncomputable def g_spec_l1Dec : Sg := ⟨i_spec_l1Dec, o_spec_l1Dec, ByteArray, fun y => ((y, ()), ()), fun x => spec_l1Dec x.1.1⟩
noncomputable def C_spec_l1Dec : Ctx := ⟨30, tiOf Tryd.prog, gl, sgOf []⟩
noncomputable def r_spec_l1Dec : AExit → Env → Option (ByteArray) := retK C_spec_l1Dec 0 o_spec_l1Dec (fun y => y.1.1) Tryd.f129.results.toList
theorem e_spec_l1Dec : Sound Tryd.prog gl 129 g_spec_l1Dec :=
  sound_cuts (C := C_spec_l1Dec) ⟨fun _ _ h => h, by kernel_rfl⟩ (sgOf_all' trivial) 129 Tryd.f129 g_spec_l1Dec (fun y => y.1.1) j_spec_l1Dec 1 (by kernel_rfl) (by kernel_rfl) (by kernel_rfl) (by kernel_rfl) (by kernel_rfl) (by kernel_rfl) (fun _ => rfl) (by kernel_rfl) (by kernel_rfl)
    ⟨trivial, s_spec_l1Dec_7, fun k x => spec_l1Dec_L7 k x.1.1 x.1.2.1 x.1.2.2.1, ⟨fun k => by kernel_rfl, fun k y => by kernel_rfl, fun y => by kernel_rfl⟩⟩
    (fun k x => spec_l1Dec_F k x.1.1) (fun x => rfl) (fun k x => by kernel_rfl)
-- loop.example/g00051/spec.l2Pad
noncomputable def i_spec_l2Pad : Shape := ⟨[(0, .c (.int .i64)), (1, .c (.int .i64))], []⟩
noncomputable def o_spec_l2Pad : Shape := ⟨[(0, .c (.str))], []⟩
noncomputable def s_spec_l2Pad_2 : Shape := ⟨[(1, .c (.int .i64)), (5, .c (.str))], []⟩
noncomputable def spec_l2Pad_L2 : Nat → Int → ByteArray → Option (ByteArray)
  | 0, _, _ => none
  | k + 1, a0, a1 =>
  bif decide ((↑a1.size : Int) < a0) then bif decide ((bs [48]).size + a1.size ≤ 9223372036854775807) then spec_l2Pad_L2 k a0 (bs [48] ++ a1) else none else some a1
noncomputable def j_spec_l2Pad : List (Nat × (Nat → Cut (ByteArray))) := [(2, fun k => ⟨s_spec_l2Pad_2, fun x => spec_l2Pad_L2 k x.1.1 x.1.2.1⟩)]
noncomputable def spec_l2Pad_F (k : Nat) (a0 : Int) (a1 : Int) : Option (ByteArray) :=
  (spec_l1Dec a0).bind fun val => spec_l2Pad_L2 k a1 val
noncomputable def spec_l2Pad (a0 : Int) (a1 : Int) : Option (ByteArray) := evF fun k => spec_l2Pad_F k a0 a1
noncomputable def g_spec_l2Pad : Sg := ⟨i_spec_l2Pad, o_spec_l2Pad, ByteArray, fun y => ((y, ()), ()), fun x => spec_l2Pad x.1.1 x.1.2.1⟩
noncomputable def C_spec_l2Pad : Ctx := ⟨15, tiOf Tryd.prog, gl, sgOf [(129, g_spec_l1Dec)]⟩
noncomputable def r_spec_l2Pad : AExit → Env → Option (ByteArray) := retK C_spec_l2Pad 0 o_spec_l2Pad (fun y => y.1.1) Tryd.f81.results.toList
theorem e_spec_l2Pad : Sound Tryd.prog gl 81 g_spec_l2Pad :=
  sound_cuts (C := C_spec_l2Pad) ⟨fun _ _ h => h, by kernel_rfl⟩ (sgOf_all' ⟨⟨by kernel_rfl, e_spec_l1Dec⟩, trivial⟩) 81 Tryd.f81 g_spec_l2Pad (fun y => y.1.1) j_spec_l2Pad 1 (by kernel_rfl) (by kernel_rfl) (by kernel_rfl) (by kernel_rfl) (by kernel_rfl) (by kernel_rfl) (fun _ => rfl) (by kernel_rfl) (by kernel_rfl)
    ⟨trivial, s_spec_l2Pad_2, fun k x => spec_l2Pad_L2 k x.1.1 x.1.2.1, ⟨fun k => by kernel_rfl, fun k y => by kernel_rfl, fun y => by kernel_rfl⟩⟩
    (fun k x => spec_l2Pad_F k x.1.1 x.1.2.1) (fun x => rfl) (fun k x => by kernel_rfl)
-- loop.example/g00051/spec.l21DayTime
noncomputable def i_spec_l21DayTime : Shape := ⟨[(0, .c (.int .i64))], []⟩
noncomputable def o_spec_l21DayTime : Shape := ⟨[(0, .c (.str))], []⟩
noncomputable def spec_l21DayTime (a0 : Int) : Option (ByteArray) :=
  (spec_DateOf a0).bind fun val => (spec_l2Pad val.snd.snd.fst 2).bind fun val_1 => (spec_l2Pad val.snd.snd.snd.fst 2).bind fun val_2 => bif decide (ByteArray.size val_1 + ByteArray.size val_2 ≤ 9223372036854775807) then (spec_l2Pad val.snd.snd.snd.snd.fst 2).bind fun val => bif decide ((val_1 ++ val_2).size + ByteArray.size val ≤ 9223372036854775807) then some (val_1 ++ val_2 ++ val) else none else none
noncomputable def g_spec_l21DayTime : Sg := ⟨i_spec_l21DayTime, o_spec_l21DayTime, ByteArray, fun y => ((y, ()), ()), fun x => spec_l21DayTime x.1.1⟩
noncomputable def C_spec_l21DayTime : Ctx := ⟨21, tiOf Tryd.prog, gl, sgOf [(36, g_spec_DateOf), (81, g_spec_l2Pad)]⟩
noncomputable def r_spec_l21DayTime : AExit → Env → Option (ByteArray) := retK C_spec_l21DayTime 0 o_spec_l21DayTime (fun y => y.1.1) Tryd.f111.results.toList
theorem e_spec_l21DayTime : Sound Tryd.prog gl 111 g_spec_l21DayTime :=
  sound_plain (C := C_spec_l21DayTime) ⟨fun _ _ h => h, by kernel_rfl⟩ (sgOf_all' ⟨⟨by kernel_rfl, e_spec_DateOf⟩, ⟨by kernel_rfl, e_spec_l2Pad⟩, trivial⟩) 111 Tryd.f111 g_spec_l21DayTime (fun y => y.1.1) (by kernel_rfl) (by kernel_rfl) (by kernel_rfl) (by kernel_rfl) (by kernel_rfl) (by kernel_rfl) (fun _ => rfl) (fun x => by kernel_rfl)
-- loop.example/g00051/spec.l21SpanText
noncomputable def i_spec_l21SpanText : Shape := ⟨[(0, .c (.int .i64)), (1, .c (.int .i64))], []⟩
noncomputable def o_spec_l21SpanText : Shape := ⟨[(0, .c (.str))], []⟩
noncomputable def spec_l21SpanText (a0 : Int) (a1 : Int) : Option (ByteArray) :=
  (spec_l21DayTime a1).bind fun val =>
   bif decide (0 ≤ 4) && decide (4 ≤ (↑(ByteArray.size val) : Int)) then
    bif decide (0 ≤ 2) && decide (2 ≤ (↑(ByteArray.extract val (Int.toNat 0) (Int.toNat 4)).size : Int)) then
     bif ((ByteArray.extract val (Int.toNat 0) (Int.toNat 4)).extract (Int.toNat 2) (↑(ByteArray.extract val (Int.toNat 0) (Int.toNat 4)).size : Int).toNat).toList == (bs [48, 48]).toList then (spec_l21DayTime (IntKind.i64.wrap (a1 - 60))).bind fun val => bif decide (0 ≤ 2) && decide (2 ≤ (↑(ByteArray.size val) : Int)) then bif decide ((ByteArray.extract val (Int.toNat 0) (Int.toNat 2)).size + (bs [50, 52]).size ≤ 9223372036854775807) then (spec_l21DayTime a0).bind fun val_1 => bif decide (0 ≤ 4) && decide (4 ≤ (↑(ByteArray.size val_1) : Int)) then bif decide ((ByteArray.extract val_1 (Int.toNat 0) (Int.toNat 4)).size + (bs [47]).size ≤ 9223372036854775807) then bif decide ((ByteArray.extract val_1 (Int.toNat 0) (Int.toNat 4) ++ bs [47]).size + (ByteArray.extract val (Int.toNat 0) (Int.toNat 2) ++ bs [50, 52]).size ≤ 9223372036854775807) then some (ByteArray.extract val_1 (Int.toNat 0) (Int.toNat 4) ++ bs [47] ++ (ByteArray.extract val (Int.toNat 0) (Int.toNat 2) ++ bs [50, 52])) else none else none else none else none else none
     else (spec_l21DayTime a0).bind fun val_1 => bif decide (0 ≤ 4) && decide (4 ≤ (↑(ByteArray.size val_1) : Int)) then bif decide ((ByteArray.extract val_1 (Int.toNat 0) (Int.toNat 4)).size + (bs [47]).size ≤ 9223372036854775807) then bif decide ((ByteArray.extract val_1 (Int.toNat 0) (Int.toNat 4) ++ bs [47]).size + (ByteArray.extract val (Int.toNat 0) (Int.toNat 4)).size ≤ 9223372036854775807) then some (ByteArray.extract val_1 (Int.toNat 0) (Int.toNat 4) ++ bs [47] ++ ByteArray.extract val (Int.toNat 0) (Int.toNat 4)) else none else none else none
    else none
   else none
noncomputable def g_spec_l21SpanText : Sg := ⟨i_spec_l21SpanText, o_spec_l21SpanText, ByteArray, fun y => ((y, ()), ()), fun x => spec_l21SpanText x.1.1 x.1.2.1⟩
noncomputable def C_spec_l21SpanText : Ctx := ⟨23, tiOf Tryd.prog, gl, sgOf [(111, g_spec_l21DayTime)]⟩
noncomputable def r_spec_l21SpanText : AExit → Env → Option (ByteArray) := retK C_spec_l21SpanText 0 o_spec_l21SpanText (fun y => y.1.1) Tryd.f112.results.toList
theorem e_spec_l21SpanText : Sound Tryd.prog gl 112 g_spec_l21SpanText :=
  sound_plain (C := C_spec_l21SpanText) ⟨fun _ _ h => h, by kernel_rfl⟩ (sgOf_all' ⟨⟨by kernel_rfl, e_spec_l21DayTime⟩, trivial⟩) 112 Tryd.f112 g_spec_l21SpanText (fun y => y.1.1) (by kernel_rfl) (by kernel_rfl) (by kernel_rfl) (by kernel_rfl) (by kernel_rfl) (by kernel_rfl) (fun _ => rfl) (fun x => by kernel_rfl)
-- loop.example/g00051/spec.l21Words
noncomputable def i_spec_l21Words : Shape := ⟨[(0, .c (.sl .str))], []⟩
noncomputable def o_spec_l21Words : Shape := ⟨[(0, .c (.str))], []⟩
noncomputable def s_spec_l21Words_3 : Shape := ⟨[(0, .c (.sl .str)), (3, .c (.str)), (4, .c (.int .i64))], []⟩
noncomputable def spec_l21Words_L3 : Nat → (List ByteArray) → ByteArray → Int → Option (ByteArray)
  | 0, _, _, _ => none
  | k + 1, a0, a1, a2 =>
  bif decide (a2 < (↑a0.length : Int)) then bif decide (a2 > 0) then bif decide (a1.size + (bs [32]).size ≤ 9223372036854775807) then bif decide (0 ≤ a2) then bif decide (a2 < (↑a0.length : Int)) then bif decide ((a1 ++ bs [32]).size + ByteArray.size (rd Kind.str a0 a2) ≤ 9223372036854775807) then spec_l21Words_L3 k a0 (a1 ++ bs [32] ++ rd Kind.str a0 a2) (IntKind.i64.wrap (a2 + 1)) else none else none else none else none else bif decide (0 ≤ a2) then bif decide (a2 < (↑a0.length : Int)) then bif decide (a1.size + ByteArray.size (rd Kind.str a0 a2) ≤ 9223372036854775807) then spec_l21Words_L3 k a0 (a1 ++ rd Kind.str a0 a2) (IntKind.i64.wrap (a2 + 1)) else none else none else none else some a1
noncomputable def j_spec_l21Words : List (Nat × (Nat → Cut (ByteArray))) := [(3, fun k => ⟨s_spec_l21Words_3, fun x => spec_l21Words_L3 k x.1.1 x.1.2.1 x.1.2.2.1⟩)]
noncomputable def spec_l21Words_F (k : Nat) (a0 : List ByteArray) : Option (ByteArray) :=
  spec_l21Words_L3 k a0 (bs []) 0
noncomputable def spec_l21Words (a0 : List ByteArray) : Option (ByteArray) := evF fun k => spec_l21Words_F k a0
noncomputable def g_spec_l21Words : Sg := ⟨i_spec_l21Words, o_spec_l21Words, ByteArray, fun y => ((y, ()), ()), fun x => spec_l21Words x.1.1⟩
noncomputable def C_spec_l21Words : Ctx := ⟨22, tiOf Tryd.prog, gl, sgOf []⟩
noncomputable def r_spec_l21Words : AExit → Env → Option (ByteArray) := retK C_spec_l21Words 0 o_spec_l21Words (fun y => y.1.1) Tryd.f84.results.toList
theorem e_spec_l21Words : Sound Tryd.prog gl 84 g_spec_l21Words :=
  sound_cuts (C := C_spec_l21Words) ⟨fun _ _ h => h, by kernel_rfl⟩ (sgOf_all' trivial) 84 Tryd.f84 g_spec_l21Words (fun y => y.1.1) j_spec_l21Words 1 (by kernel_rfl) (by kernel_rfl) (by kernel_rfl) (by kernel_rfl) (by kernel_rfl) (by kernel_rfl) (fun _ => rfl) (by kernel_rfl) (by kernel_rfl)
    ⟨trivial, s_spec_l21Words_3, fun k x => spec_l21Words_L3 k x.1.1 x.1.2.1 x.1.2.2.1, ⟨fun k => by kernel_rfl, fun k y => by kernel_rfl, fun y => by kernel_rfl⟩⟩
    (fun k x => spec_l21Words_F k x.1.1) (fun x => rfl) (fun k x => by kernel_rfl)
-- loop.example/g00051/spec.SkyText
noncomputable def i_spec_SkyText : Shape := ⟨[(0, .agg [.int .i64, .int .i64, .int .i64, .str, .str, .int .i64])], []⟩
noncomputable def o_spec_SkyText : Shape := ⟨[(0, .c (.str))], []⟩
noncomputable def spec_SkyText (a0 : Int) (a1 : Int) (a2 : Int) (a3 : ByteArray) (a4 : ByteArray) (a5 : Int) : Option (ByteArray) :=
  (spec_SkyOk a0 a1 a2 a3 a4 a5).bind fun val =>
   bif !val then some (bs [])
   else
    bif a0 == 99 then
     (spec_l2Pad a1 2).bind fun val =>
      bif decide ((bs [86, 82, 66]).size + ByteArray.size val ≤ 9223372036854775807) then
       bif decide ((bs [86, 82, 66] ++ val).size + (bs [75, 84]).size ≤ 9223372036854775807) then
        bif decide (a2 ≥ 0) then (spec_l2Pad a2 4).bind fun val_1 => bif !a3.toList == (bs []).toList then bif a4.toList == (bs [83, 75, 67]).toList then (spec_l21Words ([] ++ [bs [86, 82, 66] ++ val ++ bs [75, 84]] ++ [val_1] ++ [a3] ++ [a4])).bind fun val => some val else bif !a4.toList == (bs []).toList then (spec_l2Pad a5 3).bind fun val_2 => bif decide (a4.size + ByteArray.size val_2 ≤ 9223372036854775807) then (spec_l21Words ([] ++ [bs [86, 82, 66] ++ val ++ bs [75, 84]] ++ [val_1] ++ [a3] ++ [a4 ++ val_2])).bind fun val => some val else none else (spec_l21Words ([] ++ [bs [86, 82, 66] ++ val ++ bs [75, 84]] ++ [val_1] ++ [a3])).bind fun val => some val else bif a4.toList == (bs [83, 75, 67]).toList then (spec_l21Words ([] ++ [bs [86, 82, 66] ++ val ++ bs [75, 84]] ++ [val_1] ++ [a4])).bind fun val => some val else bif !a4.toList == (bs []).toList then (spec_l2Pad a5 3).bind fun val_2 => bif decide (a4.size + ByteArray.size val_2 ≤ 9223372036854775807) then (spec_l21Words ([] ++ [bs [86, 82, 66] ++ val ++ bs [75, 84]] ++ [val_1] ++ [a4 ++ val_2])).bind fun val => some val else none else (spec_l21Words ([] ++ [bs [86, 82, 66] ++ val ++ bs [75, 84]] ++ [val_1])).bind fun val => some val
        else bif !a3.toList == (bs []).toList then bif a4.toList == (bs [83, 75, 67]).toList then (spec_l21Words ([] ++ [bs [86, 82, 66] ++ val ++ bs [75, 84]] ++ [a3] ++ [a4])).bind fun val => some val else bif !a4.toList == (bs []).toList then (spec_l2Pad a5 3).bind fun val_1 => bif decide (a4.size + ByteArray.size val_1 ≤ 9223372036854775807) then (spec_l21Words ([] ++ [bs [86, 82, 66] ++ val ++ bs [75, 84]] ++ [a3] ++ [a4 ++ val_1])).bind fun val => some val else none else (spec_l21Words ([] ++ [bs [86, 82, 66] ++ val ++ bs [75, 84]] ++ [a3])).bind fun val => some val else bif a4.toList == (bs [83, 75, 67]).toList then (spec_l21Words ([] ++ [bs [86, 82, 66] ++ val ++ bs [75, 84]] ++ [a4])).bind fun val => some val else bif !a4.toList == (bs []).toList then (spec_l2Pad a5 3).bind fun val_1 => bif decide (a4.size + ByteArray.size val_1 ≤ 9223372036854775807) then (spec_l21Words ([] ++ [bs [86, 82, 66] ++ val ++ bs [75, 84]] ++ [a4 ++ val_1])).bind fun val => some val else none else (spec_l21Words ([] ++ [bs [86, 82, 66] ++ val ++ bs [75, 84]])).bind fun val => some val
       else none
      else none
    else
     bif decide (a0 ≥ 0) then
      (spec_l2Pad (IntKind.i64.wrap (a0 * 10)) 3).bind fun val =>
       (spec_l2Pad a1 2).bind fun val_1 =>
        bif decide (ByteArray.size val + ByteArray.size val_1 ≤ 9223372036854775807) then
         bif decide ((val ++ val_1).size + (bs [75, 84]).size ≤ 9223372036854775807) then
          bif decide (a2 ≥ 0) then (spec_l2Pad a2 4).bind fun val_2 => bif !a3.toList == (bs []).toList then bif a4.toList == (bs [83, 75, 67]).toList then (spec_l21Words ([] ++ [val ++ val_1 ++ bs [75, 84]] ++ [val_2] ++ [a3] ++ [a4])).bind fun val => some val else bif !a4.toList == (bs []).toList then (spec_l2Pad a5 3).bind fun val_3 => bif decide (a4.size + ByteArray.size val_3 ≤ 9223372036854775807) then (spec_l21Words ([] ++ [val ++ val_1 ++ bs [75, 84]] ++ [val_2] ++ [a3] ++ [a4 ++ val_3])).bind fun val => some val else none else (spec_l21Words ([] ++ [val ++ val_1 ++ bs [75, 84]] ++ [val_2] ++ [a3])).bind fun val => some val else bif a4.toList == (bs [83, 75, 67]).toList then (spec_l21Words ([] ++ [val ++ val_1 ++ bs [75, 84]] ++ [val_2] ++ [a4])).bind fun val => some val else bif !a4.toList == (bs []).toList then (spec_l2Pad a5 3).bind fun val_3 => bif decide (a4.size + ByteArray.size val_3 ≤ 9223372036854775807) then (spec_l21Words ([] ++ [val ++ val_1 ++ bs [75, 84]] ++ [val_2] ++ [a4 ++ val_3])).bind fun val => some val else none else (spec_l21Words ([] ++ [val ++ val_1 ++ bs [75, 84]] ++ [val_2])).bind fun val => some val
          else bif !a3.toList == (bs []).toList then bif a4.toList == (bs [83, 75, 67]).toList then (spec_l21Words ([] ++ [val ++ val_1 ++ bs [75, 84]] ++ [a3] ++ [a4])).bind fun val => some val else bif !a4.toList == (bs []).toList then (spec_l2Pad a5 3).bind fun val_2 => bif decide (a4.size + ByteArray.size val_2 ≤ 9223372036854775807) then (spec_l21Words ([] ++ [val ++ val_1 ++ bs [75, 84]] ++ [a3] ++ [a4 ++ val_2])).bind fun val => some val else none else (spec_l21Words ([] ++ [val ++ val_1 ++ bs [75, 84]] ++ [a3])).bind fun val => some val else bif a4.toList == (bs [83, 75, 67]).toList then (spec_l21Words ([] ++ [val ++ val_1 ++ bs [75, 84]] ++ [a4])).bind fun val => some val else bif !a4.toList == (bs []).toList then (spec_l2Pad a5 3).bind fun val_2 => bif decide (a4.size + ByteArray.size val_2 ≤ 9223372036854775807) then (spec_l21Words ([] ++ [val ++ val_1 ++ bs [75, 84]] ++ [a4 ++ val_2])).bind fun val => some val else none else (spec_l21Words ([] ++ [val ++ val_1 ++ bs [75, 84]])).bind fun val => some val
         else none
        else none
     else
      bif decide (a2 ≥ 0) then (spec_l2Pad a2 4).bind fun val => bif !a3.toList == (bs []).toList then bif a4.toList == (bs [83, 75, 67]).toList then (spec_l21Words ([] ++ [val] ++ [a3] ++ [a4])).bind fun val => some val else bif !a4.toList == (bs []).toList then (spec_l2Pad a5 3).bind fun val_1 => bif decide (a4.size + ByteArray.size val_1 ≤ 9223372036854775807) then (spec_l21Words ([] ++ [val] ++ [a3] ++ [a4 ++ val_1])).bind fun val => some val else none else (spec_l21Words ([] ++ [val] ++ [a3])).bind fun val => some val else bif a4.toList == (bs [83, 75, 67]).toList then (spec_l21Words ([] ++ [val] ++ [a4])).bind fun val => some val else bif !a4.toList == (bs []).toList then (spec_l2Pad a5 3).bind fun val_1 => bif decide (a4.size + ByteArray.size val_1 ≤ 9223372036854775807) then (spec_l21Words ([] ++ [val] ++ [a4 ++ val_1])).bind fun val => some val else none else (spec_l21Words ([] ++ [val])).bind fun val => some val
      else bif !a3.toList == (bs []).toList then bif a4.toList == (bs [83, 75, 67]).toList then (spec_l21Words ([] ++ [a3] ++ [a4])).bind fun val => some val else bif !a4.toList == (bs []).toList then (spec_l2Pad a5 3).bind fun val => bif decide (a4.size + ByteArray.size val ≤ 9223372036854775807) then (spec_l21Words ([] ++ [a3] ++ [a4 ++ val])).bind fun val => some val else none else (spec_l21Words ([] ++ [a3])).bind fun val => some val else bif a4.toList == (bs [83, 75, 67]).toList then (spec_l21Words ([] ++ [a4])).bind fun val => some val else bif !a4.toList == (bs []).toList then (spec_l2Pad a5 3).bind fun val => bif decide (a4.size + ByteArray.size val ≤ 9223372036854775807) then (spec_l21Words ([] ++ [a4 ++ val])).bind fun val => some val else none else (spec_l21Words []).bind fun val => some val
noncomputable def g_spec_SkyText : Sg := ⟨i_spec_SkyText, o_spec_SkyText, ByteArray, fun y => ((y, ()), ()), fun x => spec_SkyText x.1.1.1 x.1.1.2.1 x.1.1.2.2.1 x.1.1.2.2.2.1 x.1.1.2.2.2.2.1 x.1.1.2.2.2.2.2.1⟩
noncomputable def C_spec_SkyText : Ctx := ⟨73, tiOf Tryd.prog, gl, sgOf [(83, g_spec_SkyOk), (81, g_spec_l2Pad), (84, g_spec_l21Words)]⟩
noncomputable def r_spec_SkyText : AExit → Env → Option (ByteArray) := retK C_spec_SkyText 0 o_spec_SkyText (fun y => y.1.1) Tryd.f31.results.toList
theorem e_spec_SkyText : Sound Tryd.prog gl 31 g_spec_SkyText :=
  sound_plain (C := C_spec_SkyText) ⟨fun _ _ h => h, by kernel_rfl⟩ (sgOf_all' ⟨⟨by kernel_rfl, (Sound.mono gl_SA (by rfl) e_spec_SkyOk)⟩, ⟨by kernel_rfl, e_spec_l2Pad⟩, ⟨by kernel_rfl, e_spec_l21Words⟩, trivial⟩) 31 Tryd.f31 g_spec_SkyText (fun y => y.1.1) (by kernel_rfl) (by kernel_rfl) (by kernel_rfl) (by kernel_rfl) (by kernel_rfl) (by kernel_rfl) (fun _ => rfl) (fun x => by kernel_rfl)
-- loop.example/g00051/spec.TafText
noncomputable def i_spec_TafText : Shape := ⟨[(0, .agg [.str, .int .i64, .int .i64, .int .i64, .int .i64, .int .i64, .int .i64, .str, .str, .int .i64, .sl (.pair (.int .i64) (.pair (.int .i64) (.pair (.int .i64) (.pair (.int .i64) (.pair (.int .i64) (.pair (.int .i64) (.pair .str (.pair .str (.int .i64)))))))))])], []⟩
noncomputable def o_spec_TafText : Shape := ⟨[(0, .c (.str))], []⟩
noncomputable def s_spec_TafText_5 : Shape := ⟨[(1, .c (.ptr 0 0)), (3, .c (.ref 1)), (4, .c (.int .i64))], [.box 37 [.str, .int .i64, .int .i64, .int .i64, .int .i64, .int .i64, .int .i64, .str, .str, .int .i64, .sl (.pair (.int .i64) (.pair (.int .i64) (.pair (.int .i64) (.pair (.int .i64) (.pair (.int .i64) (.pair (.int .i64) (.pair .str (.pair .str (.int .i64)))))))))], .lst 9 .str]⟩
noncomputable def spec_TafText_L5 : Nat → Int → ByteArray → Int → Int → Int → Int → Int → Int → ByteArray → ByteArray → Int → (List (Int × Int × Int × Int × Int × Int × ByteArray × ByteArray × Int)) → (List ByteArray) → Option (ByteArray)
  | 0, _, _, _, _, _, _, _, _, _, _, _, _, _ => none
  | k + 1, a0, a1, a2, a3, a4, a5, a6, a7, a8, a9, a10, a11, a12 =>
  bif decide (a0 < (↑a11.length : Int)) then
   bif decide (0 ≤ a0) then
    bif decide (a0 < (↑a11.length : Int)) then
     bif (rd K9_0 a11 a0).fst == 1 then
      (spec_l21DayTime (rd K9_0 a11 a0).snd.fst).bind fun val =>
       bif decide ((bs [70, 77]).size + ByteArray.size val ≤ 9223372036854775807) then
        bif decide (a12.length + [bs [70, 77] ++ val].length ≤ maxBytes / 16) then
         (spec_SkyText (rd K9_0 a11 a0).snd.snd.snd.fst (rd K9_0 a11 a0).snd.snd.snd.snd.fst (rd K9_0 a11 a0).snd.snd.snd.snd.snd.fst (rd K9_0 a11 a0).snd.snd.snd.snd.snd.snd.fst (rd K9_0 a11 a0).snd.snd.snd.snd.snd.snd.snd.fst
            (rd K9_0 a11 a0).snd.snd.snd.snd.snd.snd.snd.snd).bind
          fun val_1 => bif decide ((a12 ++ [bs [70, 77] ++ val]).length + [val_1].length ≤ maxBytes / 16) then spec_TafText_L5 k (IntKind.i64.wrap (a0 + 1)) a1 a2 a3 a4 a5 a6 a7 a8 a9 a10 a11 (a12 ++ [bs [70, 77] ++ val] ++ [val_1]) else none
        else none
       else none
     else
      bif (rd K9_0 a11 a0).fst == 2 then
       (spec_l21SpanText (rd K9_0 a11 a0).snd.fst (rd K9_0 a11 a0).snd.snd.fst).bind fun val =>
        bif decide (a12.length + [bs [66, 69, 67, 77, 71], val].length ≤ maxBytes / 16) then
         (spec_SkyText (rd K9_0 a11 a0).snd.snd.snd.fst (rd K9_0 a11 a0).snd.snd.snd.snd.fst (rd K9_0 a11 a0).snd.snd.snd.snd.snd.fst (rd K9_0 a11 a0).snd.snd.snd.snd.snd.snd.fst (rd K9_0 a11 a0).snd.snd.snd.snd.snd.snd.snd.fst
            (rd K9_0 a11 a0).snd.snd.snd.snd.snd.snd.snd.snd).bind
          fun val_1 => bif decide ((a12 ++ [bs [66, 69, 67, 77, 71], val]).length + [val_1].length ≤ maxBytes / 16) then spec_TafText_L5 k (IntKind.i64.wrap (a0 + 1)) a1 a2 a3 a4 a5 a6 a7 a8 a9 a10 a11 (a12 ++ [bs [66, 69, 67, 77, 71], val] ++ [val_1]) else none
        else none
      else
       bif (rd K9_0 a11 a0).fst == 3 then
        (spec_l21SpanText (rd K9_0 a11 a0).snd.fst (rd K9_0 a11 a0).snd.snd.fst).bind fun val =>
         bif decide (a12.length + [bs [84, 69, 77, 80, 79], val].length ≤ maxBytes / 16) then
          (spec_SkyText (rd K9_0 a11 a0).snd.snd.snd.fst (rd K9_0 a11 a0).snd.snd.snd.snd.fst (rd K9_0 a11 a0).snd.snd.snd.snd.snd.fst (rd K9_0 a11 a0).snd.snd.snd.snd.snd.snd.fst (rd K9_0 a11 a0).snd.snd.snd.snd.snd.snd.snd.fst
             (rd K9_0 a11 a0).snd.snd.snd.snd.snd.snd.snd.snd).bind
           fun val_1 => bif decide ((a12 ++ [bs [84, 69, 77, 80, 79], val]).length + [val_1].length ≤ maxBytes / 16) then spec_TafText_L5 k (IntKind.i64.wrap (a0 + 1)) a1 a2 a3 a4 a5 a6 a7 a8 a9 a10 a11 (a12 ++ [bs [84, 69, 77, 80, 79], val] ++ [val_1]) else none
         else none
       else
        (spec_l21SpanText (rd K9_0 a11 a0).snd.fst (rd K9_0 a11 a0).snd.snd.fst).bind fun val =>
         bif decide (a12.length + [bs [80, 82, 79, 66, 51, 48], val].length ≤ maxBytes / 16) then
          (spec_SkyText (rd K9_0 a11 a0).snd.snd.snd.fst (rd K9_0 a11 a0).snd.snd.snd.snd.fst (rd K9_0 a11 a0).snd.snd.snd.snd.snd.fst (rd K9_0 a11 a0).snd.snd.snd.snd.snd.snd.fst (rd K9_0 a11 a0).snd.snd.snd.snd.snd.snd.snd.fst
             (rd K9_0 a11 a0).snd.snd.snd.snd.snd.snd.snd.snd).bind
           fun val_1 => bif decide ((a12 ++ [bs [80, 82, 79, 66, 51, 48], val]).length + [val_1].length ≤ maxBytes / 16) then spec_TafText_L5 k (IntKind.i64.wrap (a0 + 1)) a1 a2 a3 a4 a5 a6 a7 a8 a9 a10 a11 (a12 ++ [bs [80, 82, 79, 66, 51, 48], val] ++ [val_1]) else none
         else none
    else none
   else none
  else (spec_l21Words a12).bind fun val => bif decide (ByteArray.size val + (bs [61]).size ≤ 9223372036854775807) then some (val ++ bs [61]) else none
noncomputable def j_spec_TafText : List (Nat × (Nat → Cut (ByteArray))) := [(5, fun k => ⟨s_spec_TafText_5, fun x => spec_TafText_L5 k x.1.2.2.1 x.2.1.1 x.2.1.2.1 x.2.1.2.2.1 x.2.1.2.2.2.1 x.2.1.2.2.2.2.1 x.2.1.2.2.2.2.2.1 x.2.1.2.2.2.2.2.2.1 x.2.1.2.2.2.2.2.2.2.1 x.2.1.2.2.2.2.2.2.2.2.1 x.2.1.2.2.2.2.2.2.2.2.2.1 x.2.1.2.2.2.2.2.2.2.2.2.2.1 x.2.2.1⟩)]
noncomputable def spec_TafText_F (k : Nat) (a0 : ByteArray) (a1 : Int) (a2 : Int) (a3 : Int) (a4 : Int) (a5 : Int) (a6 : Int) (a7 : ByteArray) (a8 : ByteArray) (a9 : Int) (a10 : List (Int × Int × Int × Int × Int × Int × ByteArray × ByteArray × Int)) : Option (ByteArray) :=
  (spec_TafOk a0 a1 a2 a3 a4 a5 a6 a7 a8 a9 a10).bind fun val => bif !val then some (bs []) else (spec_l21DayTime a1).bind fun val => bif decide (ByteArray.size val + (bs [90]).size ≤ 9223372036854775807) then (spec_l21SpanText a2 a3).bind fun val_1 => (spec_SkyText a4 a5 a6 a7 a8 a9).bind fun val_2 => spec_TafText_L5 k 0 a0 a1 a2 a3 a4 a5 a6 a7 a8 a9 a10 [bs [84, 65, 70], a0, val ++ bs [90], val_1, val_2] else none
noncomputable def spec_TafText (a0 : ByteArray) (a1 : Int) (a2 : Int) (a3 : Int) (a4 : Int) (a5 : Int) (a6 : Int) (a7 : ByteArray) (a8 : ByteArray) (a9 : Int) (a10 : List (Int × Int × Int × Int × Int × Int × ByteArray × ByteArray × Int)) : Option (ByteArray) := evF fun k => spec_TafText_F k a0 a1 a2 a3 a4 a5 a6 a7 a8 a9 a10
noncomputable def g_spec_TafText : Sg := ⟨i_spec_TafText, o_spec_TafText, ByteArray, fun y => ((y, ()), ()), fun x => spec_TafText x.1.1.1 x.1.1.2.1 x.1.1.2.2.1 x.1.1.2.2.2.1 x.1.1.2.2.2.2.1 x.1.1.2.2.2.2.2.1 x.1.1.2.2.2.2.2.2.1 x.1.1.2.2.2.2.2.2.2.1 x.1.1.2.2.2.2.2.2.2.2.1 x.1.1.2.2.2.2.2.2.2.2.2.1 x.1.1.2.2.2.2.2.2.2.2.2.2.1⟩
noncomputable def C_spec_TafText : Ctx := ⟨86, tiOf Tryd.prog, gl, sgOf [(59, g_spec_TafOk), (111, g_spec_l21DayTime), (112, g_spec_l21SpanText), (31, g_spec_SkyText), (84, g_spec_l21Words)]⟩
noncomputable def r_spec_TafText : AExit → Env → Option (ByteArray) := retK C_spec_TafText 0 o_spec_TafText (fun y => y.1.1) Tryd.f54.results.toList
theorem e_spec_TafText : Sound Tryd.prog gl 54 g_spec_TafText :=
  sound_cuts (C := C_spec_TafText) ⟨fun _ _ h => h, by kernel_rfl⟩ (sgOf_all' ⟨⟨by kernel_rfl, (Sound.mono gl_SA (by rfl) e_spec_TafOk)⟩, ⟨by kernel_rfl, e_spec_l21DayTime⟩, ⟨by kernel_rfl, e_spec_l21SpanText⟩, ⟨by kernel_rfl, e_spec_SkyText⟩, ⟨by kernel_rfl, e_spec_l21Words⟩, trivial⟩) 54 Tryd.f54 g_spec_TafText (fun y => y.1.1) j_spec_TafText 1 (by kernel_rfl) (by kernel_rfl) (by kernel_rfl) (by kernel_rfl) (by kernel_rfl) (by kernel_rfl) (fun _ => rfl) (by kernel_rfl) (by kernel_rfl)
    ⟨trivial, s_spec_TafText_5, fun k x => spec_TafText_L5 k x.1.2.2.1 x.2.1.1 x.2.1.2.1 x.2.1.2.2.1 x.2.1.2.2.2.1 x.2.1.2.2.2.2.1 x.2.1.2.2.2.2.2.1 x.2.1.2.2.2.2.2.2.1 x.2.1.2.2.2.2.2.2.2.1 x.2.1.2.2.2.2.2.2.2.2.1 x.2.1.2.2.2.2.2.2.2.2.2.1 x.2.1.2.2.2.2.2.2.2.2.2.2.1 x.2.2.1, ⟨fun k => by kernel_rfl, fun k y => by kernel_rfl, fun y => by kernel_rfl⟩⟩
    (fun k x => spec_TafText_F k x.1.1.1 x.1.1.2.1 x.1.1.2.2.1 x.1.1.2.2.2.1 x.1.1.2.2.2.2.1 x.1.1.2.2.2.2.2.1 x.1.1.2.2.2.2.2.2.1 x.1.1.2.2.2.2.2.2.2.1 x.1.1.2.2.2.2.2.2.2.2.1 x.1.1.2.2.2.2.2.2.2.2.2.1 x.1.1.2.2.2.2.2.2.2.2.2.2.1) (fun x => rfl) (fun k x => by kernel_rfl)
-- loop.example/g00051/impl.leap
noncomputable def i_impl_leap : Shape := ⟨[(0, .c (.int .i64))], []⟩
noncomputable def o_impl_leap : Shape := ⟨[(0, .c (.bool))], []⟩
noncomputable def impl_leap (a0 : Int) : Option (Bool) :=
  some (a0.tmod 4 == 0)
noncomputable def g_impl_leap : Sg := ⟨i_impl_leap, o_impl_leap, Bool, fun y => ((y, ()), ()), fun x => impl_leap x.1.1⟩
noncomputable def C_impl_leap : Ctx := ⟨6, tiOf Tryd.prog, gl, sgOf []⟩
noncomputable def r_impl_leap : AExit → Env → Option (Bool) := retK C_impl_leap 0 o_impl_leap (fun y => y.1.1) Tryd.f144.results.toList
theorem e_impl_leap : Sound Tryd.prog gl 144 g_impl_leap :=
  sound_plain (C := C_impl_leap) ⟨fun _ _ h => h, by kernel_rfl⟩ (sgOf_all' trivial) 144 Tryd.f144 g_impl_leap (fun y => y.1.1) (by kernel_rfl) (by kernel_rfl) (by kernel_rfl) (by kernel_rfl) (by kernel_rfl) (by kernel_rfl) (fun _ => rfl) (fun x => by kernel_rfl)
-- loop.example/g00051/impl.monthDays
noncomputable def i_impl_monthDays : Shape := ⟨[(0, .c (.int .i64)), (1, .c (.int .i64))], []⟩
noncomputable def o_impl_monthDays : Shape := ⟨[(0, .c (.int .i64))], []⟩
noncomputable def impl_monthDays (a0 : Int) (a1 : Int) : Option (Int) :=
  bif a1 == 2 then (impl_leap a0).bind fun val => bif val then some 29 else some 28 else bif a1 == 4 then some 30 else bif a1 == 6 then some 30 else bif a1 == 9 then some 30 else bif a1 == 11 then some 30 else some 31
noncomputable def g_impl_monthDays : Sg := ⟨i_impl_monthDays, o_impl_monthDays, Int, fun y => ((y, ()), ()), fun x => impl_monthDays x.1.1 x.1.2.1⟩
noncomputable def C_impl_monthDays : Ctx := ⟨15, tiOf Tryd.prog, gl, sgOf [(144, g_impl_leap)]⟩
noncomputable def r_impl_monthDays : AExit → Env → Option (Int) := retK C_impl_monthDays 0 o_impl_monthDays (fun y => y.1.1) Tryd.f94.results.toList
theorem e_impl_monthDays : Sound Tryd.prog gl 94 g_impl_monthDays :=
  sound_plain (C := C_impl_monthDays) ⟨fun _ _ h => h, by kernel_rfl⟩ (sgOf_all' ⟨⟨by kernel_rfl, e_impl_leap⟩, trivial⟩) 94 Tryd.f94 g_impl_monthDays (fun y => y.1.1) (by kernel_rfl) (by kernel_rfl) (by kernel_rfl) (by kernel_rfl) (by kernel_rfl) (by kernel_rfl) (fun _ => rfl) (fun x => by kernel_rfl)
-- loop.example/g00051/impl.daysTo
noncomputable def i_impl_daysTo : Shape := ⟨[(0, .c (.int .i64)), (1, .c (.int .i64)), (2, .c (.int .i64))], []⟩
noncomputable def o_impl_daysTo : Shape := ⟨[(0, .c (.int .i64))], []⟩
noncomputable def s_impl_daysTo_3 : Shape := ⟨[(0, .c (.int .i64)), (1, .c (.int .i64)), (2, .c (.int .i64)), (7, .c (.int .i64)), (8, .c (.int .i64))], []⟩
noncomputable def impl_daysTo_L3 : Nat → Int → Int → Int → Int → Int → Option (Int)
  | 0, _, _, _, _, _ => none
  | k + 1, a0, a1, a2, a3, a4 =>
  bif decide (a4 < a1) then (impl_monthDays a0 a4).bind fun val => impl_daysTo_L3 k a0 a1 a2 (IntKind.i64.wrap (a3 + val)) (IntKind.i64.wrap (a4 + 1)) else some (IntKind.i64.wrap (IntKind.i64.wrap (a3 + a2) - 1))
noncomputable def j_impl_daysTo : List (Nat × (Nat → Cut (Int))) := [(3, fun k => ⟨s_impl_daysTo_3, fun x => impl_daysTo_L3 k x.1.1 x.1.2.1 x.1.2.2.1 x.1.2.2.2.1 x.1.2.2.2.2.1⟩)]
noncomputable def impl_daysTo_F (k : Nat) (a0 : Int) (a1 : Int) (a2 : Int) : Option (Int) :=
  impl_daysTo_L3 k a0 a1 a2 (IntKind.i64.wrap (IntKind.i64.wrap (IntKind.i64.wrap (a0 - 2000) * 365) + IntKind.i64.wrap ((IntKind.i64.wrap (IntKind.i64.wrap (a0 - 2000) + 3)).tdiv 4))) 1
noncomputable def impl_daysTo (a0 : Int) (a1 : Int) (a2 : Int) : Option (Int) := evF fun k => impl_daysTo_F k a0 a1 a2
noncomputable def g_impl_daysTo : Sg := ⟨i_impl_daysTo, o_impl_daysTo, Int, fun y => ((y, ()), ()), fun x => impl_daysTo x.1.1 x.1.2.1 x.1.2.2.1⟩
noncomputable def C_impl_daysTo : Ctx := ⟨31, tiOf Tryd.prog, gl, sgOf [(94, g_impl_monthDays)]⟩
noncomputable def r_impl_daysTo : AExit → Env → Option (Int) := retK C_impl_daysTo 0 o_impl_daysTo (fun y => y.1.1) Tryd.f93.results.toList
theorem e_impl_daysTo : Sound Tryd.prog gl 93 g_impl_daysTo :=
  sound_cuts (C := C_impl_daysTo) ⟨fun _ _ h => h, by kernel_rfl⟩ (sgOf_all' ⟨⟨by kernel_rfl, e_impl_monthDays⟩, trivial⟩) 93 Tryd.f93 g_impl_daysTo (fun y => y.1.1) j_impl_daysTo 1 (by kernel_rfl) (by kernel_rfl) (by kernel_rfl) (by kernel_rfl) (by kernel_rfl) (by kernel_rfl) (fun _ => rfl) (by kernel_rfl) (by kernel_rfl)
    ⟨trivial, s_impl_daysTo_3, fun k x => impl_daysTo_L3 k x.1.1 x.1.2.1 x.1.2.2.1 x.1.2.2.2.1 x.1.2.2.2.2.1, ⟨fun k => by kernel_rfl, fun k y => by kernel_rfl, fun y => by kernel_rfl⟩⟩
    (fun k x => impl_daysTo_F k x.1.1 x.1.2.1 x.1.2.2.1) (fun x => rfl) (fun k x => by kernel_rfl)
-- loop.example/g00051/impl.DateOf
noncomputable def i_impl_DateOf : Shape := ⟨[(0, .c (.int .i64))], []⟩
noncomputable def o_impl_DateOf : Shape := ⟨[(0, .tup [(true, [.int .i64, .int .i64, .int .i64, .int .i64, .int .i64]), (false, [.bool])])], []⟩
noncomputable def s_impl_DateOf_5 : Shape := ⟨[(0, .c (.int .i64)), (2, .c (.ptr 0 0)), (4, .c (.int .i64)), (5, .c (.int .i64))], [.box 64 [.int .i64, .int .i64, .int .i64, .int .i64, .int .i64]]⟩
noncomputable def s_impl_DateOf_8 : Shape := ⟨[(0, .c (.int .i64)), (2, .c (.ptr 0 0)), (4, .c (.int .i64)), (5, .c (.int .i64)), (6, .c (.int .i64))], [.box 64 [.int .i64, .int .i64, .int .i64, .int .i64, .int .i64]]⟩
mutual
noncomputable def impl_DateOf_L5 : Nat → Int → Int → Int → Int → Int → Int → Int → Int → Option (Int × Int × Int × Int × Int × Bool)
  | 0, _, _, _, _, _, _, _, _ => none
  | k + 1, a0, a1, a2, a3, a4, a5, a6, a7 =>
  (impl_daysTo (IntKind.i64.wrap (a2 + 1)) 1 1).bind fun val => bif decide (val ≤ a1) then impl_DateOf_L5 k a0 a1 (IntKind.i64.wrap (a2 + 1)) a3 a4 a5 a6 a7 else impl_DateOf_L8 k a0 a1 a2 1 a3 a4 a5 a6 a7
noncomputable def impl_DateOf_L8 : Nat → Int → Int → Int → Int → Int → Int → Int → Int → Int → Option (Int × Int × Int × Int × Int × Bool)
  | 0, _, _, _, _, _, _, _, _, _ => none
  | k + 1, a0, a1, a2, a3, a4, a5, a6, a7, a8 =>
  bif decide (a3 < 12) then (impl_daysTo a2 (IntKind.i64.wrap (a3 + 1)) 1).bind fun val => bif decide (val ≤ a1) then impl_DateOf_L8 k a0 a1 a2 (IntKind.i64.wrap (a3 + 1)) a4 a5 a6 a7 a8 else (impl_daysTo a2 a3 1).bind fun val => some (a2, a3, IntKind.i64.wrap (IntKind.i64.wrap (a1 - val) + 1), (IntKind.i64.wrap (a0.tdiv 60)).tmod 24, a0.tmod 60, true) else (impl_daysTo a2 a3 1).bind fun val => some (a2, a3, IntKind.i64.wrap (IntKind.i64.wrap (a1 - val) + 1), (IntKind.i64.wrap (a0.tdiv 60)).tmod 24, a0.tmod 60, true)
end
noncomputable def j_impl_DateOf : List (Nat × (Nat → Cut (Int × Int × Int × Int × Int × Bool))) := [(5, fun k => ⟨s_impl_DateOf_5, fun x => impl_DateOf_L5 k x.1.1 x.1.2.2.1 x.1.2.2.2.1 x.2.1.1 x.2.1.2.1 x.2.1.2.2.1 x.2.1.2.2.2.1 x.2.1.2.2.2.2.1⟩), (8, fun k => ⟨s_impl_DateOf_8, fun x => impl_DateOf_L8 k x.1.1 x.1.2.2.1 x.1.2.2.2.1 x.1.2.2.2.2.1 x.2.1.1 x.2.1.2.1 x.2.1.2.2.1 x.2.1.2.2.2.1 x.2.1.2.2.2.2.1⟩)]
noncomputable def impl_DateOf_F (k : Nat) (a0 : Int) : Option (Int × Int × Int × Int × Int × Bool) :=
  (impl_isTime a0).bind fun val => bif !val then some (0, 0, 0, 0, 0, false) else impl_DateOf_L5 k a0 (IntKind.i64.wrap (a0.tdiv 1440)) (IntKind.i64.wrap (2000 + IntKind.i64.wrap ((IntKind.i64.wrap (a0.tdiv 1440)).tdiv 366))) 0 0 0 0 0
noncomputable def impl_DateOf (a0 : Int) : Option (Int × Int × Int × Int × Int × Bool) := evF fun k => impl_DateOf_F k a0
noncomputable def g_impl_DateOf : Sg := ⟨i_impl_DateOf, o_impl_DateOf, Int × Int × Int × Int × Int × Bool, fun y => ((((y.1, y.2.1, y.2.2.1, y.2.2.2.1, y.2.2.2.2.1, ()), (y.2.2.2.2.2, ()), ()), ()), ()), fun x => impl_DateOf x.1.1⟩
noncomputable def C_impl_DateOf : Ctx := ⟨49, tiOf Tryd.prog, gl, sgOf [(92, g_impl_isTime), (93, g_impl_daysTo)]⟩
noncomputable def r_impl_DateOf : AExit → Env → Option (Int × Int × Int × Int × Int × Bool) := retK C_impl_DateOf 0 o_impl_DateOf (fun y => (y.1.1.1.1, y.1.1.1.2.1, y.1.1.1.2.2.1, y.1.1.1.2.2.2.1, y.1.1.1.2.2.2.2.1, y.1.1.2.1.1)) Tryd.f37.results.toList
theorem e_impl_DateOf : Sound Tryd.prog gl 37 g_impl_DateOf :=
  sound_cuts (C := C_impl_DateOf) ⟨fun _ _ h => h, by kernel_rfl⟩ (sgOf_all' ⟨⟨by kernel_rfl, (Sound.mono gl_SA (by rfl) e_impl_isTime)⟩, ⟨by kernel_rfl, e_impl_daysTo⟩, trivial⟩) 37 Tryd.f37 g_impl_DateOf (fun y => (y.1.1.1.1, y.1.1.1.2.1, y.1.1.1.2.2.1, y.1.1.1.2.2.2.1, y.1.1.1.2.2.2.2.1, y.1.1.2.1.1)) j_impl_DateOf 2 (by kernel_rfl) (by kernel_rfl) (by kernel_rfl) (by kernel_rfl) (by kernel_rfl) (by kernel_rfl) (fun _ => rfl) (by kernel_rfl) (by kernel_rfl)
    ⟨⟨trivial, s_impl_DateOf_5, fun k x => impl_DateOf_L5 k x.1.1 x.1.2.2.1 x.1.2.2.2.1 x.2.1.1 x.2.1.2.1 x.2.1.2.2.1 x.2.1.2.2.2.1 x.2.1.2.2.2.2.1, ⟨fun k => by kernel_rfl, fun k y => by kernel_rfl, fun y => by kernel_rfl⟩⟩, s_impl_DateOf_8, fun k x => impl_DateOf_L8 k x.1.1 x.1.2.2.1 x.1.2.2.2.1 x.1.2.2.2.2.1 x.2.1.1 x.2.1.2.1 x.2.1.2.2.1 x.2.1.2.2.2.1 x.2.1.2.2.2.2.1, ⟨fun k => by kernel_rfl, fun k y => by kernel_rfl, fun y => by kernel_rfl⟩⟩
    (fun k x => impl_DateOf_F k x.1.1) (fun x => rfl) (fun k x => by kernel_rfl)
-- loop.example/g00051/impl.dec
noncomputable def i_impl_dec : Shape := ⟨[(0, .c (.int .i64))], []⟩
noncomputable def o_impl_dec : Shape := ⟨[(0, .c (.str))], []⟩
noncomputable def impl_dec (a0 : Int) : Option (ByteArray) :=
  (dFmt a0 10).bind fun val => some val
noncomputable def g_impl_dec : Sg := ⟨i_impl_dec, o_impl_dec, ByteArray, fun y => ((y, ()), ()), fun x => impl_dec x.1.1⟩
noncomputable def C_impl_dec : Ctx := ⟨5, tiOf Tryd.prog, gl, sgOf [(133, gFmt)]⟩
noncomputable def r_impl_dec : AExit → Env → Option (ByteArray) := retK C_impl_dec 0 o_impl_dec (fun y => y.1.1) Tryd.f78.results.toList
theorem e_impl_dec : Sound Tryd.prog gl 78 g_impl_dec :=
  sound_plain (C := C_impl_dec) ⟨fun _ _ h => h, by kernel_rfl⟩ (sgOf_all' ⟨⟨by kernel_rfl, (eFmt (l := L_strconv_uint64pow10) (by kernel_rfl) (by kernel_rfl))⟩, trivial⟩) 78 Tryd.f78 g_impl_dec (fun y => y.1.1) (by kernel_rfl) (by kernel_rfl) (by kernel_rfl) (by kernel_rfl) (by kernel_rfl) (by kernel_rfl) (fun _ => rfl) (fun x => by kernel_rfl)
-- loop.example/g00051/impl.fill
noncomputable def i_impl_fill : Shape := ⟨[(0, .c (.int .i64)), (1, .c (.int .i64))], []⟩
noncomputable def o_impl_fill : Shape := ⟨[(0, .c (.str))], []⟩
noncomputable def impl_fill (a0 : Int) (a1 : Int) : Option (ByteArray) :=
  (impl_dec a0).bind fun val => (dRep (bs [48]) (if IntKind.i64.wrap (a1 - (↑(ByteArray.size val) : Int)) > 0 then IntKind.i64.wrap (a1 - (↑(ByteArray.size val) : Int)) else 0)).bind fun val_1 => bif decide (ByteArray.size val_1 + ByteArray.size val ≤ 9223372036854775807) then some (val_1 ++ val) else none
noncomputable def g_impl_fill : Sg := ⟨i_impl_fill, o_impl_fill, ByteArray, fun y => ((y, ()), ()), fun x => impl_fill x.1.1 x.1.2.1⟩
noncomputable def C_impl_fill : Ctx := ⟨16, tiOf Tryd.prog, gl, sgOf [(78, g_impl_dec), (134, gRep)]⟩
noncomputable def r_impl_fill : AExit → Env → Option (ByteArray) := retK C_impl_fill 0 o_impl_fill (fun y => y.1.1) Tryd.f79.results.toList
theorem e_impl_fill : Sound Tryd.prog gl 79 g_impl_fill :=
  sound_plain (C := C_impl_fill) ⟨fun _ _ h => h, by kernel_rfl⟩ (sgOf_all' ⟨⟨by kernel_rfl, e_impl_dec⟩, ⟨by kernel_rfl, eRep⟩, trivial⟩) 79 Tryd.f79 g_impl_fill (fun y => y.1.1) (by kernel_rfl) (by kernel_rfl) (by kernel_rfl) (by kernel_rfl) (by kernel_rfl) (by kernel_rfl) (fun _ => rfl) (fun x => by kernel_rfl)
-- loop.example/g00051/impl.dayHour
noncomputable def i_impl_dayHour : Shape := ⟨[(0, .c (.int .i64))], []⟩
noncomputable def o_impl_dayHour : Shape := ⟨[(0, .c (.str))], []⟩
noncomputable def impl_dayHour (a0 : Int) : Option (ByteArray) :=
  (impl_DateOf a0).bind fun val => (impl_fill val.snd.snd.fst 2).bind fun val_1 => (impl_fill val.snd.snd.snd.fst 2).bind fun val => bif decide (ByteArray.size val_1 + ByteArray.size val ≤ 9223372036854775807) then some (val_1 ++ val) else none
noncomputable def g_impl_dayHour : Sg := ⟨i_impl_dayHour, o_impl_dayHour, ByteArray, fun y => ((y, ()), ()), fun x => impl_dayHour x.1.1⟩
noncomputable def C_impl_dayHour : Ctx := ⟨17, tiOf Tryd.prog, gl, sgOf [(37, g_impl_DateOf), (79, g_impl_fill)]⟩
noncomputable def r_impl_dayHour : AExit → Env → Option (ByteArray) := retK C_impl_dayHour 0 o_impl_dayHour (fun y => y.1.1) Tryd.f152.results.toList
theorem e_impl_dayHour : Sound Tryd.prog gl 152 g_impl_dayHour :=
  sound_plain (C := C_impl_dayHour) ⟨fun _ _ h => h, by kernel_rfl⟩ (sgOf_all' ⟨⟨by kernel_rfl, e_impl_DateOf⟩, ⟨by kernel_rfl, e_impl_fill⟩, trivial⟩) 152 Tryd.f152 g_impl_dayHour (fun y => y.1.1) (by kernel_rfl) (by kernel_rfl) (by kernel_rfl) (by kernel_rfl) (by kernel_rfl) (by kernel_rfl) (fun _ => rfl) (fun x => by kernel_rfl)
-- loop.example/g00051/impl.dayHourMinute
noncomputable def i_impl_dayHourMinute : Shape := ⟨[(0, .c (.int .i64))], []⟩
noncomputable def o_impl_dayHourMinute : Shape := ⟨[(0, .c (.str))], []⟩
noncomputable def impl_dayHourMinute (a0 : Int) : Option (ByteArray) :=
  (impl_DateOf a0).bind fun val => (impl_dayHour a0).bind fun val_1 => (impl_fill val.snd.snd.snd.snd.fst 2).bind fun val => bif decide (ByteArray.size val_1 + ByteArray.size val ≤ 9223372036854775807) then some (val_1 ++ val) else none
noncomputable def g_impl_dayHourMinute : Sg := ⟨i_impl_dayHourMinute, o_impl_dayHourMinute, ByteArray, fun y => ((y, ()), ()), fun x => impl_dayHourMinute x.1.1⟩
noncomputable def C_impl_dayHourMinute : Ctx := ⟨16, tiOf Tryd.prog, gl, sgOf [(37, g_impl_DateOf), (152, g_impl_dayHour), (79, g_impl_fill)]⟩
noncomputable def r_impl_dayHourMinute : AExit → Env → Option (ByteArray) := retK C_impl_dayHourMinute 0 o_impl_dayHourMinute (fun y => y.1.1) Tryd.f113.results.toList
theorem e_impl_dayHourMinute : Sound Tryd.prog gl 113 g_impl_dayHourMinute :=
  sound_plain (C := C_impl_dayHourMinute) ⟨fun _ _ h => h, by kernel_rfl⟩ (sgOf_all' ⟨⟨by kernel_rfl, e_impl_DateOf⟩, ⟨by kernel_rfl, e_impl_dayHour⟩, ⟨by kernel_rfl, e_impl_fill⟩, trivial⟩) 113 Tryd.f113 g_impl_dayHourMinute (fun y => y.1.1) (by kernel_rfl) (by kernel_rfl) (by kernel_rfl) (by kernel_rfl) (by kernel_rfl) (by kernel_rfl) (fun _ => rfl) (fun x => by kernel_rfl)
-- loop.example/g00051/impl.spanText
noncomputable def i_impl_spanText : Shape := ⟨[(0, .c (.int .i64)), (1, .c (.int .i64))], []⟩
noncomputable def o_impl_spanText : Shape := ⟨[(0, .c (.str))], []⟩
noncomputable def impl_spanText (a0 : Int) (a1 : Int) : Option (ByteArray) :=
  (impl_dayHour a1).bind fun val => bif a1.tmod 1440 == 0 then (impl_dayHour (IntKind.i64.wrap (a1 - 1440))).bind fun val => bif decide (0 ≤ 2) && decide (2 ≤ (↑(ByteArray.size val) : Int)) then bif decide ((ByteArray.extract val (Int.toNat 0) (Int.toNat 2)).size + (bs [50, 52]).size ≤ 9223372036854775807) then (impl_dayHour a0).bind fun val_1 => bif decide (ByteArray.size val_1 + (bs [47]).size ≤ 9223372036854775807) then bif decide ((val_1 ++ bs [47]).size + (ByteArray.extract val (Int.toNat 0) (Int.toNat 2) ++ bs [50, 52]).size ≤ 9223372036854775807) then some (val_1 ++ bs [47] ++ (ByteArray.extract val (Int.toNat 0) (Int.toNat 2) ++ bs [50, 52])) else none else none else none else none else (impl_dayHour a0).bind fun val_1 => bif decide (ByteArray.size val_1 + (bs [47]).size ≤ 9223372036854775807) then bif decide ((val_1 ++ bs [47]).size + ByteArray.size val ≤ 9223372036854775807) then some (val_1 ++ bs [47] ++ val) else none else none
noncomputable def g_impl_spanText : Sg := ⟨i_impl_spanText, o_impl_spanText, ByteArray, fun y => ((y, ()), ()), fun x => impl_spanText x.1.1 x.1.2.1⟩
noncomputable def C_impl_spanText : Ctx := ⟨21, tiOf Tryd.prog, gl, sgOf [(152, g_impl_dayHour)]⟩
noncomputable def r_impl_spanText : AExit → Env → Option (ByteArray) := retK C_impl_spanText 0 o_impl_spanText (fun y => y.1.1) Tryd.f114.results.toList
theorem e_impl_spanText : Sound Tryd.prog gl 114 g_impl_spanText :=
  sound_plain (C := C_impl_spanText) ⟨fun _ _ h => h, by kernel_rfl⟩ (sgOf_all' ⟨⟨by kernel_rfl, e_impl_dayHour⟩, trivial⟩) 114 Tryd.f114 g_impl_spanText (fun y => y.1.1) (by kernel_rfl) (by kernel_rfl) (by kernel_rfl) (by kernel_rfl) (by kernel_rfl) (by kernel_rfl) (fun _ => rfl) (fun x => by kernel_rfl)
-- loop.example/g00051/impl.SkyText
noncomputable def i_impl_SkyText : Shape := ⟨[(0, .agg [.int .i64, .int .i64, .int .i64, .str, .str, .int .i64])], []⟩
noncomputable def o_impl_SkyText : Shape := ⟨[(0, .c (.str))], []⟩
noncomputable def impl_SkyText (a0 : Int) (a1 : Int) (a2 : Int) (a3 : ByteArray) (a4 : ByteArray) (a5 : Int) : Option (ByteArray) :=
  (impl_SkyOk a0 a1 a2 a3 a4 a5).bind fun val =>
   bif !val then some (bs [])
   else
    (impl_said a0 a1 a2 a3 a4 a5).bind fun val =>
     bif val.fst then
      (impl_fill (IntKind.i64.wrap (10 * a0)) 3).bind fun val_1 =>
       bif a0 == 99 then
        (impl_fill a1 2).bind fun val_2 =>
         bif decide ((bs [86, 82, 66]).size + ByteArray.size val_2 ≤ 9223372036854775807) then
          bif decide ((bs [86, 82, 66] ++ val_2).size + (bs [75, 84]).size ≤ 9223372036854775807) then
           bif val.snd.fst then (impl_fill a2 4).bind fun val_3 => bif val.snd.snd.fst then bif a4.toList == (bs [83, 75, 67]).toList then (dJoin ([] ++ [bs [86, 82, 66] ++ val_2 ++ bs [75, 84]] ++ [val_3] ++ [a3] ++ [bs [83, 75, 67]]) (bs [32])).bind fun val => some val else bif val.snd.snd.snd then (impl_fill a5 3).bind fun val => bif decide (a4.size + ByteArray.size val ≤ 9223372036854775807) then (dJoin ([] ++ [bs [86, 82, 66] ++ val_2 ++ bs [75, 84]] ++ [val_3] ++ [a3] ++ [a4 ++ val]) (bs [32])).bind fun val => some val else none else (dJoin ([] ++ [bs [86, 82, 66] ++ val_2 ++ bs [75, 84]] ++ [val_3] ++ [a3]) (bs [32])).bind fun val => some val else bif a4.toList == (bs [83, 75, 67]).toList then (dJoin ([] ++ [bs [86, 82, 66] ++ val_2 ++ bs [75, 84]] ++ [val_3] ++ [bs [83, 75, 67]]) (bs [32])).bind fun val => some val else bif val.snd.snd.snd then (impl_fill a5 3).bind fun val => bif decide (a4.size + ByteArray.size val ≤ 9223372036854775807) then (dJoin ([] ++ [bs [86, 82, 66] ++ val_2 ++ bs [75, 84]] ++ [val_3] ++ [a4 ++ val]) (bs [32])).bind fun val => some val else none else (dJoin ([] ++ [bs [86, 82, 66] ++ val_2 ++ bs [75, 84]] ++ [val_3]) (bs [32])).bind fun val => some val
           else bif val.snd.snd.fst then bif a4.toList == (bs [83, 75, 67]).toList then (dJoin ([] ++ [bs [86, 82, 66] ++ val_2 ++ bs [75, 84]] ++ [a3] ++ [bs [83, 75, 67]]) (bs [32])).bind fun val => some val else bif val.snd.snd.snd then (impl_fill a5 3).bind fun val => bif decide (a4.size + ByteArray.size val ≤ 9223372036854775807) then (dJoin ([] ++ [bs [86, 82, 66] ++ val_2 ++ bs [75, 84]] ++ [a3] ++ [a4 ++ val]) (bs [32])).bind fun val => some val else none else (dJoin ([] ++ [bs [86, 82, 66] ++ val_2 ++ bs [75, 84]] ++ [a3]) (bs [32])).bind fun val => some val else bif a4.toList == (bs [83, 75, 67]).toList then (dJoin ([] ++ [bs [86, 82, 66] ++ val_2 ++ bs [75, 84]] ++ [bs [83, 75, 67]]) (bs [32])).bind fun val => some val else bif val.snd.snd.snd then (impl_fill a5 3).bind fun val => bif decide (a4.size + ByteArray.size val ≤ 9223372036854775807) then (dJoin ([] ++ [bs [86, 82, 66] ++ val_2 ++ bs [75, 84]] ++ [a4 ++ val]) (bs [32])).bind fun val => some val else none else (dJoin ([] ++ [bs [86, 82, 66] ++ val_2 ++ bs [75, 84]]) (bs [32])).bind fun val => some val
          else none
         else none
       else
        (impl_fill a1 2).bind fun val_2 =>
         bif decide (ByteArray.size val_1 + ByteArray.size val_2 ≤ 9223372036854775807) then
          bif decide ((val_1 ++ val_2).size + (bs [75, 84]).size ≤ 9223372036854775807) then
           bif val.snd.fst then (impl_fill a2 4).bind fun val_3 => bif val.snd.snd.fst then bif a4.toList == (bs [83, 75, 67]).toList then (dJoin ([] ++ [val_1 ++ val_2 ++ bs [75, 84]] ++ [val_3] ++ [a3] ++ [bs [83, 75, 67]]) (bs [32])).bind fun val => some val else bif val.snd.snd.snd then (impl_fill a5 3).bind fun val => bif decide (a4.size + ByteArray.size val ≤ 9223372036854775807) then (dJoin ([] ++ [val_1 ++ val_2 ++ bs [75, 84]] ++ [val_3] ++ [a3] ++ [a4 ++ val]) (bs [32])).bind fun val => some val else none else (dJoin ([] ++ [val_1 ++ val_2 ++ bs [75, 84]] ++ [val_3] ++ [a3]) (bs [32])).bind fun val => some val else bif a4.toList == (bs [83, 75, 67]).toList then (dJoin ([] ++ [val_1 ++ val_2 ++ bs [75, 84]] ++ [val_3] ++ [bs [83, 75, 67]]) (bs [32])).bind fun val => some val else bif val.snd.snd.snd then (impl_fill a5 3).bind fun val => bif decide (a4.size + ByteArray.size val ≤ 9223372036854775807) then (dJoin ([] ++ [val_1 ++ val_2 ++ bs [75, 84]] ++ [val_3] ++ [a4 ++ val]) (bs [32])).bind fun val => some val else none else (dJoin ([] ++ [val_1 ++ val_2 ++ bs [75, 84]] ++ [val_3]) (bs [32])).bind fun val => some val
           else bif val.snd.snd.fst then bif a4.toList == (bs [83, 75, 67]).toList then (dJoin ([] ++ [val_1 ++ val_2 ++ bs [75, 84]] ++ [a3] ++ [bs [83, 75, 67]]) (bs [32])).bind fun val => some val else bif val.snd.snd.snd then (impl_fill a5 3).bind fun val => bif decide (a4.size + ByteArray.size val ≤ 9223372036854775807) then (dJoin ([] ++ [val_1 ++ val_2 ++ bs [75, 84]] ++ [a3] ++ [a4 ++ val]) (bs [32])).bind fun val => some val else none else (dJoin ([] ++ [val_1 ++ val_2 ++ bs [75, 84]] ++ [a3]) (bs [32])).bind fun val => some val else bif a4.toList == (bs [83, 75, 67]).toList then (dJoin ([] ++ [val_1 ++ val_2 ++ bs [75, 84]] ++ [bs [83, 75, 67]]) (bs [32])).bind fun val => some val else bif val.snd.snd.snd then (impl_fill a5 3).bind fun val => bif decide (a4.size + ByteArray.size val ≤ 9223372036854775807) then (dJoin ([] ++ [val_1 ++ val_2 ++ bs [75, 84]] ++ [a4 ++ val]) (bs [32])).bind fun val => some val else none else (dJoin ([] ++ [val_1 ++ val_2 ++ bs [75, 84]]) (bs [32])).bind fun val => some val
          else none
         else none
     else
      bif val.snd.fst then (impl_fill a2 4).bind fun val_1 => bif val.snd.snd.fst then bif a4.toList == (bs [83, 75, 67]).toList then (dJoin ([] ++ [val_1] ++ [a3] ++ [bs [83, 75, 67]]) (bs [32])).bind fun val => some val else bif val.snd.snd.snd then (impl_fill a5 3).bind fun val => bif decide (a4.size + ByteArray.size val ≤ 9223372036854775807) then (dJoin ([] ++ [val_1] ++ [a3] ++ [a4 ++ val]) (bs [32])).bind fun val => some val else none else (dJoin ([] ++ [val_1] ++ [a3]) (bs [32])).bind fun val => some val else bif a4.toList == (bs [83, 75, 67]).toList then (dJoin ([] ++ [val_1] ++ [bs [83, 75, 67]]) (bs [32])).bind fun val => some val else bif val.snd.snd.snd then (impl_fill a5 3).bind fun val => bif decide (a4.size + ByteArray.size val ≤ 9223372036854775807) then (dJoin ([] ++ [val_1] ++ [a4 ++ val]) (bs [32])).bind fun val => some val else none else (dJoin ([] ++ [val_1]) (bs [32])).bind fun val => some val
      else bif val.snd.snd.fst then bif a4.toList == (bs [83, 75, 67]).toList then (dJoin ([] ++ [a3] ++ [bs [83, 75, 67]]) (bs [32])).bind fun val => some val else bif val.snd.snd.snd then (impl_fill a5 3).bind fun val => bif decide (a4.size + ByteArray.size val ≤ 9223372036854775807) then (dJoin ([] ++ [a3] ++ [a4 ++ val]) (bs [32])).bind fun val => some val else none else (dJoin ([] ++ [a3]) (bs [32])).bind fun val => some val else bif a4.toList == (bs [83, 75, 67]).toList then (dJoin ([] ++ [bs [83, 75, 67]]) (bs [32])).bind fun val => some val else bif val.snd.snd.snd then (impl_fill a5 3).bind fun val => bif decide (a4.size + ByteArray.size val ≤ 9223372036854775807) then (dJoin ([] ++ [a4 ++ val]) (bs [32])).bind fun val => some val else none else (dJoin [] (bs [32])).bind fun val => some val
noncomputable def g_impl_SkyText : Sg := ⟨i_impl_SkyText, o_impl_SkyText, ByteArray, fun y => ((y, ()), ()), fun x => impl_SkyText x.1.1.1 x.1.1.2.1 x.1.1.2.2.1 x.1.1.2.2.2.1 x.1.1.2.2.2.2.1 x.1.1.2.2.2.2.2.1⟩
noncomputable def C_impl_SkyText : Ctx := ⟨64, tiOf Tryd.prog, gl, sgOf [(85, g_impl_SkyOk), (86, g_impl_said), (79, g_impl_fill), (87, gJoin)]⟩
noncomputable def r_impl_SkyText : AExit → Env → Option (ByteArray) := retK C_impl_SkyText 0 o_impl_SkyText (fun y => y.1.1) Tryd.f33.results.toList
theorem e_impl_SkyText : Sound Tryd.prog gl 33 g_impl_SkyText :=
  sound_plain (C := C_impl_SkyText) ⟨fun _ _ h => h, by kernel_rfl⟩ (sgOf_all' ⟨⟨by kernel_rfl, (Sound.mono gl_SA (by rfl) e_impl_SkyOk)⟩, ⟨by kernel_rfl, (Sound.mono gl_SA (by rfl) e_impl_said)⟩, ⟨by kernel_rfl, e_impl_fill⟩, ⟨by kernel_rfl, eJoin⟩, trivial⟩) 33 Tryd.f33 g_impl_SkyText (fun y => y.1.1) (by kernel_rfl) (by kernel_rfl) (by kernel_rfl) (by kernel_rfl) (by kernel_rfl) (by kernel_rfl) (fun _ => rfl) (fun x => by kernel_rfl)
-- loop.example/g00051/impl.TafText
noncomputable def i_impl_TafText : Shape := ⟨[(0, .agg [.str, .int .i64, .int .i64, .int .i64, .int .i64, .int .i64, .int .i64, .str, .str, .int .i64, .sl (.pair (.int .i64) (.pair (.int .i64) (.pair (.int .i64) (.pair (.int .i64) (.pair (.int .i64) (.pair (.int .i64) (.pair .str (.pair .str (.int .i64)))))))))])], []⟩
noncomputable def o_impl_TafText : Shape := ⟨[(0, .c (.str))], []⟩
noncomputable def s_impl_TafText_5 : Shape := ⟨[(3, .c (.ref 0)), (27, .c (.sl (.pair (.int .i64) (.pair (.int .i64) (.pair (.int .i64) (.pair (.int .i64) (.pair (.int .i64) (.pair (.int .i64) (.pair .str (.pair .str (.int .i64))))))))))), (28, .c (.int .i64)), (29, .c (.int .i64))], [.lst 9 .str]⟩
noncomputable def impl_TafText_L5 : Nat → (List (Int × Int × Int × Int × Int × Int × ByteArray × ByteArray × Int)) → Int → Int → (List ByteArray) → Option (ByteArray)
  | 0, _, _, _, _ => none
  | k + 1, a0, a1, a2, a3 =>
  bif decide (a2 < a1) then
   bif decide (0 ≤ a2) then
    bif decide (a2 < (↑a0.length : Int)) then
     bif (rd K9_0 a0 a2).fst == 1 then
      (impl_dayHourMinute (rd K9_0 a0 a2).snd.fst).bind fun val =>
       bif decide ((bs [70, 77]).size + ByteArray.size val ≤ 9223372036854775807) then
        bif decide (a3.length + [bs [70, 77] ++ val].length ≤ maxBytes / 16) then
         (impl_SkyText (rd K9_0 a0 a2).snd.snd.snd.fst (rd K9_0 a0 a2).snd.snd.snd.snd.fst (rd K9_0 a0 a2).snd.snd.snd.snd.snd.fst (rd K9_0 a0 a2).snd.snd.snd.snd.snd.snd.fst (rd K9_0 a0 a2).snd.snd.snd.snd.snd.snd.snd.fst
            (rd K9_0 a0 a2).snd.snd.snd.snd.snd.snd.snd.snd).bind
          fun val_1 => bif decide ((a3 ++ [bs [70, 77] ++ val]).length + [val_1].length ≤ maxBytes / 16) then impl_TafText_L5 k a0 a1 (IntKind.i64.wrap (a2 + 1)) (a3 ++ [bs [70, 77] ++ val] ++ [val_1]) else none
        else none
       else none
     else
      bif decide (0 ≤ (rd K9_0 a0 a2).fst) then
       bif decide ((rd K9_0 a0 a2).fst < (↑5 : Int)) then
        (impl_spanText (rd K9_0 a0 a2).snd.fst (rd K9_0 a0 a2).snd.snd.fst).bind fun val =>
         bif decide (a3.length + [rd Kind.str [bs [], bs [], bs [66, 69, 67, 77, 71], bs [84, 69, 77, 80, 79], bs [80, 82, 79, 66, 51, 48]] (rd K9_0 a0 a2).fst, val].length ≤ maxBytes / 16) then
          (impl_SkyText (rd K9_0 a0 a2).snd.snd.snd.fst (rd K9_0 a0 a2).snd.snd.snd.snd.fst (rd K9_0 a0 a2).snd.snd.snd.snd.snd.fst (rd K9_0 a0 a2).snd.snd.snd.snd.snd.snd.fst (rd K9_0 a0 a2).snd.snd.snd.snd.snd.snd.snd.fst
             (rd K9_0 a0 a2).snd.snd.snd.snd.snd.snd.snd.snd).bind
           fun val_1 => bif decide ((a3 ++ [rd Kind.str [bs [], bs [], bs [66, 69, 67, 77, 71], bs [84, 69, 77, 80, 79], bs [80, 82, 79, 66, 51, 48]] (rd K9_0 a0 a2).fst, val]).length + [val_1].length ≤ maxBytes / 16) then impl_TafText_L5 k a0 a1 (IntKind.i64.wrap (a2 + 1)) (a3 ++ [rd Kind.str [bs [], bs [], bs [66, 69, 67, 77, 71], bs [84, 69, 77, 80, 79], bs [80, 82, 79, 66, 51, 48]] (rd K9_0 a0 a2).fst, val] ++ [val_1]) else none
         else none
       else none
      else none
    else none
   else none
  else (dJoin a3 (bs [32])).bind fun val => bif decide (ByteArray.size val + (bs [61]).size ≤ 9223372036854775807) then some (val ++ bs [61]) else none
noncomputable def j_impl_TafText : List (Nat × (Nat → Cut (ByteArray))) := [(5, fun k => ⟨s_impl_TafText_5, fun x => impl_TafText_L5 k x.1.2.1 x.1.2.2.1 x.1.2.2.2.1 x.2.1⟩)]
noncomputable def impl_TafText_F (k : Nat) (a0 : ByteArray) (a1 : Int) (a2 : Int) (a3 : Int) (a4 : Int) (a5 : Int) (a6 : Int) (a7 : ByteArray) (a8 : ByteArray) (a9 : Int) (a10 : List (Int × Int × Int × Int × Int × Int × ByteArray × ByteArray × Int)) : Option (ByteArray) :=
  (impl_TafOk a0 a1 a2 a3 a4 a5 a6 a7 a8 a9 a10).bind fun val => bif !val then some (bs []) else (impl_dayHourMinute a1).bind fun val => bif decide (ByteArray.size val + (bs [90]).size ≤ 9223372036854775807) then (impl_spanText a2 a3).bind fun val_1 => (impl_SkyText a4 a5 a6 a7 a8 a9).bind fun val_2 => impl_TafText_L5 k a10 (↑a10.length : Int) 0 [bs [84, 65, 70], a0, val ++ bs [90], val_1, val_2] else none
noncomputable def impl_TafText (a0 : ByteArray) (a1 : Int) (a2 : Int) (a3 : Int) (a4 : Int) (a5 : Int) (a6 : Int) (a7 : ByteArray) (a8 : ByteArray) (a9 : Int) (a10 : List (Int × Int × Int × Int × Int × Int × ByteArray × ByteArray × Int)) : Option (ByteArray) := evF fun k => impl_TafText_F k a0 a1 a2 a3 a4 a5 a6 a7 a8 a9 a10
noncomputable def g_impl_TafText : Sg := ⟨i_impl_TafText, o_impl_TafText, ByteArray, fun y => ((y, ()), ()), fun x => impl_TafText x.1.1.1 x.1.1.2.1 x.1.1.2.2.1 x.1.1.2.2.2.1 x.1.1.2.2.2.2.1 x.1.1.2.2.2.2.2.1 x.1.1.2.2.2.2.2.2.1 x.1.1.2.2.2.2.2.2.2.1 x.1.1.2.2.2.2.2.2.2.2.1 x.1.1.2.2.2.2.2.2.2.2.2.1 x.1.1.2.2.2.2.2.2.2.2.2.2.1⟩
noncomputable def C_impl_TafText : Ctx := ⟨65, tiOf Tryd.prog, gl, sgOf [(63, g_impl_TafOk), (113, g_impl_dayHourMinute), (114, g_impl_spanText), (33, g_impl_SkyText), (87, gJoin)]⟩
noncomputable def r_impl_TafText : AExit → Env → Option (ByteArray) := retK C_impl_TafText 0 o_impl_TafText (fun y => y.1.1) Tryd.f55.results.toList
theorem e_impl_TafText : Sound Tryd.prog gl 55 g_impl_TafText :=
  sound_cuts (C := C_impl_TafText) ⟨fun _ _ h => h, by kernel_rfl⟩ (sgOf_all' ⟨⟨by kernel_rfl, (Sound.mono gl_SA (by rfl) e_impl_TafOk)⟩, ⟨by kernel_rfl, e_impl_dayHourMinute⟩, ⟨by kernel_rfl, e_impl_spanText⟩, ⟨by kernel_rfl, e_impl_SkyText⟩, ⟨by kernel_rfl, eJoin⟩, trivial⟩) 55 Tryd.f55 g_impl_TafText (fun y => y.1.1) j_impl_TafText 1 (by kernel_rfl) (by kernel_rfl) (by kernel_rfl) (by kernel_rfl) (by kernel_rfl) (by kernel_rfl) (fun _ => rfl) (by kernel_rfl) (by kernel_rfl)
    ⟨trivial, s_impl_TafText_5, fun k x => impl_TafText_L5 k x.1.2.1 x.1.2.2.1 x.1.2.2.2.1 x.2.1, ⟨fun k => by kernel_rfl, fun k y => by kernel_rfl, fun y => by kernel_rfl⟩⟩
    (fun k x => impl_TafText_F k x.1.1.1 x.1.1.2.1 x.1.1.2.2.1 x.1.1.2.2.2.1 x.1.1.2.2.2.2.1 x.1.1.2.2.2.2.2.1 x.1.1.2.2.2.2.2.2.1 x.1.1.2.2.2.2.2.2.2.1 x.1.1.2.2.2.2.2.2.2.2.1 x.1.1.2.2.2.2.2.2.2.2.2.1 x.1.1.2.2.2.2.2.2.2.2.2.2.1) (fun x => rfl) (fun k x => by kernel_rfl)
-- loop.example/g00051/laws.FnExactTafText
noncomputable def i_laws_FnExactTafText : Shape := ⟨[(0, .agg [.str, .int .i64, .int .i64, .int .i64, .int .i64, .int .i64, .int .i64, .str, .str, .int .i64, .sl (.pair (.int .i64) (.pair (.int .i64) (.pair (.int .i64) (.pair (.int .i64) (.pair (.int .i64) (.pair (.int .i64) (.pair .str (.pair .str (.int .i64)))))))))])], []⟩
noncomputable def o_laws_FnExactTafText : Shape := ⟨[(0, .c (.bool))], []⟩
noncomputable def laws_FnExactTafText (a0 : ByteArray) (a1 : Int) (a2 : Int) (a3 : Int) (a4 : Int) (a5 : Int) (a6 : Int) (a7 : ByteArray) (a8 : ByteArray) (a9 : Int) (a10 : List (Int × Int × Int × Int × Int × Int × ByteArray × ByteArray × Int)) : Option (Bool) :=
  (laws_szTaf a0 a1 a2 a3 a4 a5 a6 a7 a8 a9 a10 1048576).bind fun val =>
   bif decide (val < 0) then some true
   else
    (laws_toTaf a0 a1 a2 a3 a4 a5 a6 a7 a8 a9 a10).bind fun val =>
     (spec_TafText val.fst val.snd.fst val.snd.snd.fst val.snd.snd.snd.fst val.snd.snd.snd.snd.fst val.snd.snd.snd.snd.snd.fst val.snd.snd.snd.snd.snd.snd.fst val.snd.snd.snd.snd.snd.snd.snd.fst val.snd.snd.snd.snd.snd.snd.snd.snd.fst val.snd.snd.snd.snd.snd.snd.snd.snd.snd.fst val.snd.snd.snd.snd.snd.snd.snd.snd.snd.snd).bind fun val =>
      (laws_toTaf a0 a1 a2 a3 a4 a5 a6 a7 a8 a9 a10).bind fun val_1 => (impl_TafText val_1.fst val_1.snd.fst val_1.snd.snd.fst val_1.snd.snd.snd.fst val_1.snd.snd.snd.snd.fst val_1.snd.snd.snd.snd.snd.fst val_1.snd.snd.snd.snd.snd.snd.fst val_1.snd.snd.snd.snd.snd.snd.snd.fst val_1.snd.snd.snd.snd.snd.snd.snd.snd.fst val_1.snd.snd.snd.snd.snd.snd.snd.snd.snd.fst val_1.snd.snd.snd.snd.snd.snd.snd.snd.snd.snd).bind fun val_2 => bif !ByteArray.toList val_2 == ByteArray.toList val then some false else (laws_toTaf a0 a1 a2 a3 a4 a5 a6 a7 a8 a9 a10).bind fun val => (laws_eqTaf val_1.fst val_1.snd.fst val_1.snd.snd.fst val_1.snd.snd.snd.fst val_1.snd.snd.snd.snd.fst val_1.snd.snd.snd.snd.snd.fst val_1.snd.snd.snd.snd.snd.snd.fst val_1.snd.snd.snd.snd.snd.snd.snd.fst val_1.snd.snd.snd.snd.snd.snd.snd.snd.fst val_1.snd.snd.snd.snd.snd.snd.snd.snd.snd.fst val_1.snd.snd.snd.snd.snd.snd.snd.snd.snd.snd val.fst val.snd.fst val.snd.snd.fst val.snd.snd.snd.fst val.snd.snd.snd.snd.fst val.snd.snd.snd.snd.snd.fst val.snd.snd.snd.snd.snd.snd.fst val.snd.snd.snd.snd.snd.snd.snd.fst val.snd.snd.snd.snd.snd.snd.snd.snd.fst val.snd.snd.snd.snd.snd.snd.snd.snd.snd.fst val.snd.snd.snd.snd.snd.snd.snd.snd.snd.snd).bind fun val => bif !val then some false else some true
noncomputable def g_laws_FnExactTafText : Sg := ⟨i_laws_FnExactTafText, o_laws_FnExactTafText, Bool, fun y => ((y, ()), ()), fun x => laws_FnExactTafText x.1.1.1 x.1.1.2.1 x.1.1.2.2.1 x.1.1.2.2.2.1 x.1.1.2.2.2.2.1 x.1.1.2.2.2.2.2.1 x.1.1.2.2.2.2.2.2.1 x.1.1.2.2.2.2.2.2.2.1 x.1.1.2.2.2.2.2.2.2.2.1 x.1.1.2.2.2.2.2.2.2.2.2.1 x.1.1.2.2.2.2.2.2.2.2.2.2.1⟩
noncomputable def C_laws_FnExactTafText : Ctx := ⟨27, tiOf Tryd.prog, gl, sgOf [(14, g_laws_szTaf), (16, g_laws_toTaf), (54, g_spec_TafText), (55, g_impl_TafText), (20, g_laws_eqTaf)]⟩
noncomputable def r_laws_FnExactTafText : AExit → Env → Option (Bool) := retK C_laws_FnExactTafText 0 o_laws_FnExactTafText (fun y => y.1.1) Tryd.f12.results.toList
theorem e_laws_FnExactTafText : Sound Tryd.prog gl 12 g_laws_FnExactTafText :=
  sound_plain (C := C_laws_FnExactTafText) ⟨fun _ _ h => h, by kernel_rfl⟩ (sgOf_all' ⟨⟨by kernel_rfl, (Sound.mono gl_SA (by rfl) e_laws_szTaf)⟩, ⟨by kernel_rfl, (Sound.mono gl_SA (by rfl) e_laws_toTaf)⟩, ⟨by kernel_rfl, e_spec_TafText⟩, ⟨by kernel_rfl, e_impl_TafText⟩, ⟨by kernel_rfl, (Sound.mono gl_SA (by rfl) e_laws_eqTaf)⟩, trivial⟩) 12 Tryd.f12 g_laws_FnExactTafText (fun y => y.1.1) (by kernel_rfl) (by kernel_rfl) (by kernel_rfl) (by kernel_rfl) (by kernel_rfl) (by kernel_rfl) (fun _ => rfl) (fun x => by kernel_rfl)
end Go.Proofs.YtmcmkdiefpepnaaDoor.TT
