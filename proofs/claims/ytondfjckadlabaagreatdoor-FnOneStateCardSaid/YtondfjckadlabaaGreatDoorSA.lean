/-
  Part of a proof by the engine: texts that a program of ours printed, or plain lemmas on them. No condition but what each theorem says.
-/
import Derived.Test.YtondfjckadlabaaGreatDoorDT
import Derived.Test.YtondfjckadlabaaGreatDoorEng5
import Derived.Test.YtondfjckadlabaaGreatDoorProg
import Derived.KernelRfl
import Derived.Test.YtondfjckadlabaaGreatDoorDoors1
import Derived.Test.YtondfjckadlabaaGreatDoorDoors2
set_option linter.unusedVariables false
set_option linter.unusedSimpArgs false
set_option maxRecDepth 100000
namespace Go.Proofs.YtondfjckadlabaaGreatDoor.SA
open Go Go.Eng Go.Proofs
open Go.Proofs.YtondfjckadlabaaGreatDoor.EX
open Go.Proofs.YtondfjckadlabaaGreatDoor.DT hiding gl
def L_impl_weathers : List ByteArray := [bs [78, 83, 87], bs [82, 65], bs [45, 82, 65], bs [43, 82, 65], bs [83, 78], bs [45, 83, 78], bs [43, 83, 78], bs [84, 83, 82, 65], bs [70, 71], bs [66, 82]]
def L_impl_covers : List ByteArray := [bs [70, 69, 87], bs [83, 67, 84], bs [66, 75, 78], bs [79, 86, 67]]
noncomputable def gl : Nat → Option (List Cell) := glOf [(1, [.sl .str L_impl_weathers]), (2, [.sl .str L_impl_covers]), (5, L_strconv_uint64pow10.map (Cell.int .u64))]
theorem gl_DT : ∀ g cs, Go.Proofs.YtondfjckadlabaaGreatDoor.DT.gl g = some cs → gl g = some cs := glOf_mono (by intro p hp; simp only [List.mem_cons, List.not_mem_nil, or_false] at hp; subst hp <;> rfl)
abbrev K9_SA0 : Kind := (.pair (.int .i64) (.pair (.int .i64) (.pair (.int .i64) (.pair (.int .i64) (.pair (.int .i64) (.pair (.int .i64) (.pair .str (.pair .str (.int .i64)))))))))
abbrev K6_SA1 : Kind := (.pair (.int .i64) (.pair (.int .i64) (.pair (.int .i64) (.pair .str (.pair .str (.int .i64))))))
-- loop.example/g00051/impl.capitals
noncomputable def i_impl_capitals : Shape := ⟨[(0, .c (.str)), (1, .c (.int .i64))], []⟩
noncomputable def o_impl_capitals : Shape := ⟨[(0, .c (.bool))], []⟩
noncomputable def s_impl_capitals_2 : Shape := ⟨[(0, .c (.str)), (1, .c (.int .i64)), (5, .c (.int .i64))], []⟩
noncomputable def impl_capitals_L2 : Nat → ByteArray → Int → Int → Option (Bool)
  | 0, _, _, _ => none
  | k + 1, a0, a1, a2 =>
  bif decide (a2 < (↑a0.size : Int)) then bif decide (0 ≤ a2) then bif decide (a2 < (↑a0.size : Int)) then bif decide (bt a0 a2 < 65) then some false else bif decide (0 ≤ a2) then bif decide (a2 < (↑a0.size : Int)) then bif decide (bt a0 a2 > 90) then some false else impl_capitals_L2 k a0 a1 (IntKind.i64.wrap (a2 + 1)) else none else none else none else none else some ((↑a0.size : Int) == a1)
noncomputable def j_impl_capitals : List (Nat × (Nat → Cut (Bool))) := [(2, fun k => ⟨s_impl_capitals_2, fun x => impl_capitals_L2 k x.1.1 x.1.2.1 x.1.2.2.1⟩)]
noncomputable def impl_capitals_F (k : Nat) (a0 : ByteArray) (a1 : Int) : Option (Bool) :=
  impl_capitals_L2 k a0 a1 0
noncomputable def impl_capitals (a0 : ByteArray) (a1 : Int) : Option (Bool) := evF fun k => impl_capitals_F k a0 a1
noncomputable def g_impl_capitals : Sg := ⟨i_impl_capitals, o_impl_capitals, Bool, fun y => ((y, ()), ()), fun x => impl_capitals x.1.1 x.1.2.1⟩
noncomputable def C_impl_capitals : Ctx := ⟨26, tiOf Tryz.prog, gl, sgOf [], []⟩
theorem e_impl_capitals : Sound Tryz.prog gl 175 g_impl_capitals :=
  sound_cuts (C := C_impl_capitals) ⟨fun _ _ h => h, by kernel_rfl⟩ (sgOf_all' trivial) 175 Tryz.f175 g_impl_capitals (fun y => y.1.1) j_impl_capitals 1 (by kernel_rfl) (by kernel_rfl) (by kernel_rfl) (by kernel_rfl) (by kernel_rfl) (by kernel_rfl) (fun _ => rfl) (by kernel_rfl) (by kernel_rfl)
    ⟨trivial, s_impl_capitals_2, fun k x => impl_capitals_L2 k x.1.1 x.1.2.1 x.1.2.2.1, ⟨fun k => by kernel_rfl, fun k y => by kernel_rfl, fun y => by kernel_rfl⟩⟩
    (fun k x => impl_capitals_F k x.1.1 x.1.2.1) (fun x => rfl) (fun k x => by kernel_rfl)
-- loop.example/g00051/impl.centreOk
noncomputable def i_impl_centreOk : Shape := ⟨[(0, .c (.str))], []⟩
noncomputable def o_impl_centreOk : Shape := ⟨[(0, .c (.bool))], []⟩
noncomputable def s_impl_centreOk_4 : Shape := ⟨[(0, .c (.str)), (3, .c (.int .i64))], []⟩
noncomputable def impl_centreOk_L4 : Nat → ByteArray → Int → Option (Bool)
  | 0, _, _ => none
  | k + 1, a0, a1 =>
  bif decide (a1 < 4) then bif decide (0 ≤ IntKind.i64.wrap (a1 + 1)) && decide (IntKind.i64.wrap (a1 + 1) ≤ (↑a0.size : Int)) then bif decide (0 ≤ a1) && decide (a1 ≤ IntKind.i64.wrap (a1 + 1)) then (impl_capitals (a0.extract a1.toNat (IntKind.i64.wrap (a1 + 1)).toNat) 1).bind fun val => bif !val then bif decide (0 ≤ IntKind.i64.wrap (a1 + 1)) && decide (IntKind.i64.wrap (a1 + 1) ≤ (↑a0.size : Int)) then bif decide (0 ≤ a1) && decide (a1 ≤ IntKind.i64.wrap (a1 + 1)) then (impl_digits (a0.extract a1.toNat (IntKind.i64.wrap (a1 + 1)).toNat)).bind fun val => bif !val then some false else impl_centreOk_L4 k a0 (IntKind.i64.wrap (a1 + 1)) else none else none else impl_centreOk_L4 k a0 (IntKind.i64.wrap (a1 + 1)) else none else none else some true
noncomputable def j_impl_centreOk : List (Nat × (Nat → Cut (Bool))) := [(4, fun k => ⟨s_impl_centreOk_4, fun x => impl_centreOk_L4 k x.1.1 x.1.2.1⟩)]
noncomputable def impl_centreOk_F (k : Nat) (a0 : ByteArray) : Option (Bool) :=
  bif (↑a0.size : Int) != 4 then some false else bif decide (0 ≤ 1) && decide (1 ≤ (↑a0.size : Int)) then (impl_capitals (a0.extract (Int.toNat 0) (Int.toNat 1)) 1).bind fun val => bif !val then some false else impl_centreOk_L4 k a0 1 else none
noncomputable def impl_centreOk (a0 : ByteArray) : Option (Bool) := evF fun k => impl_centreOk_F k a0
noncomputable def g_impl_centreOk : Sg := ⟨i_impl_centreOk, o_impl_centreOk, Bool, fun y => ((y, ()), ()), fun x => impl_centreOk x.1.1⟩
noncomputable def C_impl_centreOk : Ctx := ⟨33, tiOf Tryz.prog, gl, sgOf [(175, g_impl_capitals), (131, g_impl_digits)], []⟩
theorem e_impl_centreOk : Sound Tryz.prog gl 80 g_impl_centreOk :=
  sound_cuts (C := C_impl_centreOk) ⟨fun _ _ h => h, by kernel_rfl⟩ (sgOf_all' ⟨.inl ⟨by kernel_rfl, e_impl_capitals⟩, .inl ⟨by kernel_rfl, (Sound.mono gl_DT (by rfl) e_impl_digits)⟩, trivial⟩) 80 Tryz.f80 g_impl_centreOk (fun y => y.1.1) j_impl_centreOk 1 (by kernel_rfl) (by kernel_rfl) (by kernel_rfl) (by kernel_rfl) (by kernel_rfl) (by kernel_rfl) (fun _ => rfl) (by kernel_rfl) (by kernel_rfl)
    ⟨trivial, s_impl_centreOk_4, fun k x => impl_centreOk_L4 k x.1.1 x.1.2.1, ⟨fun k => by kernel_rfl, fun k y => by kernel_rfl, fun y => by kernel_rfl⟩⟩
    (fun k x => impl_centreOk_F k x.1.1) (fun x => rfl) (fun k x => by kernel_rfl)
-- loop.example/g00051/impl.spanOk
noncomputable def i_impl_spanOk : Shape := ⟨[(0, .agg [.int .i64, .int .i64])], []⟩
noncomputable def o_impl_spanOk : Shape := ⟨[(0, .c (.bool))], []⟩
noncomputable def impl_spanOk (a0 : Int) (a1 : Int) : Option (Bool) :=
  (impl_isTime a0).bind fun val => bif val then (impl_isTime a1).bind fun val => bif val then some (decide (a0 ≤ a1)) else some false else some false
noncomputable def g_impl_spanOk : Sg := ⟨i_impl_spanOk, o_impl_spanOk, Bool, fun y => ((y, ()), ()), fun x => impl_spanOk x.1.1.1 x.1.1.2.1⟩
noncomputable def C_impl_spanOk : Ctx := ⟨18, tiOf Tryz.prog, gl, sgOf [(81, g_impl_isTime)], []⟩
theorem e_impl_spanOk : Sound Tryz.prog gl 82 g_impl_spanOk :=
  sound_plain (C := C_impl_spanOk) ⟨fun _ _ h => h, by kernel_rfl⟩ (sgOf_all' ⟨.inl ⟨by kernel_rfl, (Sound.mono gl_DT (by rfl) e_impl_isTime)⟩, trivial⟩) 82 Tryz.f82 g_impl_spanOk (fun y => y.1.1) (by kernel_rfl) (by kernel_rfl) (by kernel_rfl) (by kernel_rfl) (by kernel_rfl) (by kernel_rfl) (fun _ => rfl) (fun x => by kernel_rfl)
-- loop.example/g00051/impl.away
noncomputable def i_impl_away : Shape := ⟨[(0, .c (.int .i64)), (1, .c (.int .i64))], []⟩
noncomputable def o_impl_away : Shape := ⟨[(0, .c (.int .i64))], []⟩
noncomputable def impl_away (a0 : Int) (a1 : Int) : Option (Int) :=
  some (if IntKind.i64.wrap (a1 - a0) > IntKind.i64.wrap (a0 - a1) then IntKind.i64.wrap (a1 - a0) else IntKind.i64.wrap (a0 - a1))
noncomputable def g_impl_away : Sg := ⟨i_impl_away, o_impl_away, Int, fun y => ((y, ()), ()), fun x => impl_away x.1.1 x.1.2.1⟩
noncomputable def C_impl_away : Ctx := ⟨12, tiOf Tryz.prog, gl, sgOf [], []⟩
theorem e_impl_away : Sound Tryz.prog gl 84 g_impl_away :=
  sound_plain (C := C_impl_away) ⟨fun _ _ h => h, by kernel_rfl⟩ (sgOf_all' trivial) 84 Tryz.f84 g_impl_away (fun y => y.1.1) (by kernel_rfl) (by kernel_rfl) (by kernel_rfl) (by kernel_rfl) (by kernel_rfl) (by kernel_rfl) (fun _ => rfl) (fun x => by kernel_rfl)
-- slices.Index[[]string,string]
noncomputable def i_slices_Index_Lstring_string : Shape := ⟨[(0, .c (.sl .str)), (1, .c (.str))], []⟩
noncomputable def o_slices_Index_Lstring_string : Shape := ⟨[(0, .c (.int .i64))], []⟩
noncomputable def s_slices_Index_Lstring_string_2 : Shape := ⟨[(0, .c (.sl .str)), (1, .c (.str)), (7, .c (.int .i64)), (8, .c (.int .i64))], []⟩
noncomputable def slices_Index_Lstring_string_L2 : Nat → (List ByteArray) → ByteArray → Int → Int → Option (Int)
  | 0, _, _, _, _ => none
  | k + 1, a0, a1, a2, a3 =>
  bif decide (a3 < a2) then bif decide (0 ≤ a3) then bif decide (a3 < (↑a0.length : Int)) then bif a1.toList == ByteArray.toList (rd Kind.str a0 a3) then some a3 else slices_Index_Lstring_string_L2 k a0 a1 a2 (IntKind.i64.wrap (a3 + 1)) else none else none else some (-1)
noncomputable def j_slices_Index_Lstring_string : List (Nat × (Nat → Cut (Int))) := [(2, fun k => ⟨s_slices_Index_Lstring_string_2, fun x => slices_Index_Lstring_string_L2 k x.1.1 x.1.2.1 x.1.2.2.1 x.1.2.2.2.1⟩)]
noncomputable def slices_Index_Lstring_string_F (k : Nat) (a0 : List ByteArray) (a1 : ByteArray) : Option (Int) :=
  slices_Index_Lstring_string_L2 k a0 a1 (↑a0.length : Int) 0
noncomputable def slices_Index_Lstring_string (a0 : List ByteArray) (a1 : ByteArray) : Option (Int) := evF fun k => slices_Index_Lstring_string_F k a0 a1
noncomputable def g_slices_Index_Lstring_string : Sg := ⟨i_slices_Index_Lstring_string, o_slices_Index_Lstring_string, Int, fun y => ((y, ()), ()), fun x => slices_Index_Lstring_string x.1.1 x.1.2.1⟩
noncomputable def C_slices_Index_Lstring_string : Ctx := ⟨19, tiOf Tryz.prog, gl, sgOf [], []⟩
theorem e_slices_Index_Lstring_string : Sound Tryz.prog gl 62 g_slices_Index_Lstring_string :=
  sound_cuts (C := C_slices_Index_Lstring_string) ⟨fun _ _ h => h, by kernel_rfl⟩ (sgOf_all' trivial) 62 Tryz.f62 g_slices_Index_Lstring_string (fun y => y.1.1) j_slices_Index_Lstring_string 1 (by kernel_rfl) (by kernel_rfl) (by kernel_rfl) (by kernel_rfl) (by kernel_rfl) (by kernel_rfl) (fun _ => rfl) (by kernel_rfl) (by kernel_rfl)
    ⟨trivial, s_slices_Index_Lstring_string_2, fun k x => slices_Index_Lstring_string_L2 k x.1.1 x.1.2.1 x.1.2.2.1 x.1.2.2.2.1, ⟨fun k => by kernel_rfl, fun k y => by kernel_rfl, fun y => by kernel_rfl⟩⟩
    (fun k x => slices_Index_Lstring_string_F k x.1.1 x.1.2.1) (fun x => rfl) (fun k x => by kernel_rfl)
-- slices.Contains[[]string,string]
noncomputable def i_slices_Contains_Lstring_string : Shape := ⟨[(0, .c (.sl .str)), (1, .c (.str))], []⟩
noncomputable def o_slices_Contains_Lstring_string : Shape := ⟨[(0, .c (.bool))], []⟩
noncomputable def slices_Contains_Lstring_string (a0 : List ByteArray) (a1 : ByteArray) : Option (Bool) :=
  (slices_Index_Lstring_string a0 a1).bind fun val => some (decide (val ≥ 0))
noncomputable def g_slices_Contains_Lstring_string : Sg := ⟨i_slices_Contains_Lstring_string, o_slices_Contains_Lstring_string, Bool, fun y => ((y, ()), ()), fun x => slices_Contains_Lstring_string x.1.1 x.1.2.1⟩
noncomputable def C_slices_Contains_Lstring_string : Ctx := ⟨9, tiOf Tryz.prog, gl, sgOf [(62, g_slices_Index_Lstring_string)], []⟩
theorem e_slices_Contains_Lstring_string : Sound Tryz.prog gl 176 g_slices_Contains_Lstring_string :=
  sound_plain (C := C_slices_Contains_Lstring_string) ⟨fun _ _ h => h, by kernel_rfl⟩ (sgOf_all' ⟨.inl ⟨by kernel_rfl, e_slices_Index_Lstring_string⟩, trivial⟩) 176 Tryz.f176 g_slices_Contains_Lstring_string (fun y => y.1.1) (by kernel_rfl) (by kernel_rfl) (by kernel_rfl) (by kernel_rfl) (by kernel_rfl) (by kernel_rfl) (fun _ => rfl) (fun x => by kernel_rfl)
-- loop.example/g00051/impl.SkyOk
noncomputable def i_impl_SkyOk : Shape := ⟨[(0, .agg [.int .i64, .int .i64, .int .i64, .str, .str, .int .i64])], []⟩
noncomputable def o_impl_SkyOk : Shape := ⟨[(0, .c (.bool))], []⟩
noncomputable def impl_SkyOk (a0 : Int) (a1 : Int) (a2 : Int) (a3 : ByteArray) (a4 : ByteArray) (a5 : Int) : Option (Bool) :=
  bif a0 == -1 then bif a1 != 0 then some false else (impl_in a2 (-1) 9999).bind fun val => bif !val then some false else bif !a3.toList == (bs []).toList then (slices_Contains_Lstring_string L_impl_weathers a3).bind fun val => bif !val then some false else bif a4.toList == (bs []).toList then some (a5 == 0) else bif a4.toList == (bs [83, 75, 67]).toList then some (a5 == 0) else (slices_Contains_Lstring_string L_impl_covers a4).bind fun val => bif val then (impl_in a5 1 200).bind fun val => some val else some false else bif a4.toList == (bs []).toList then some (a5 == 0) else bif a4.toList == (bs [83, 75, 67]).toList then some (a5 == 0) else (slices_Contains_Lstring_string L_impl_covers a4).bind fun val => bif val then (impl_in a5 1 200).bind fun val => some val else some false
  else
   bif a0 == 0 then bif a1 != 0 then some false else (impl_in a2 (-1) 9999).bind fun val => bif !val then some false else bif !a3.toList == (bs []).toList then (slices_Contains_Lstring_string L_impl_weathers a3).bind fun val => bif !val then some false else bif a4.toList == (bs []).toList then some (a5 == 0) else bif a4.toList == (bs [83, 75, 67]).toList then some (a5 == 0) else (slices_Contains_Lstring_string L_impl_covers a4).bind fun val => bif val then (impl_in a5 1 200).bind fun val => some val else some false else bif a4.toList == (bs []).toList then some (a5 == 0) else bif a4.toList == (bs [83, 75, 67]).toList then some (a5 == 0) else (slices_Contains_Lstring_string L_impl_covers a4).bind fun val => bif val then (impl_in a5 1 200).bind fun val => some val else some false
   else
    (impl_in a0 1 36).bind fun val =>
     bif !val then bif a0 != 99 then some false else (impl_in a1 1 99).bind fun val => bif !val then some false else (impl_in a2 (-1) 9999).bind fun val => bif !val then some false else bif !a3.toList == (bs []).toList then (slices_Contains_Lstring_string L_impl_weathers a3).bind fun val => bif !val then some false else bif a4.toList == (bs []).toList then some (a5 == 0) else bif a4.toList == (bs [83, 75, 67]).toList then some (a5 == 0) else (slices_Contains_Lstring_string L_impl_covers a4).bind fun val => bif val then (impl_in a5 1 200).bind fun val => some val else some false else bif a4.toList == (bs []).toList then some (a5 == 0) else bif a4.toList == (bs [83, 75, 67]).toList then some (a5 == 0) else (slices_Contains_Lstring_string L_impl_covers a4).bind fun val => bif val then (impl_in a5 1 200).bind fun val => some val else some false
     else (impl_in a1 1 99).bind fun val => bif !val then some false else (impl_in a2 (-1) 9999).bind fun val => bif !val then some false else bif !a3.toList == (bs []).toList then (slices_Contains_Lstring_string L_impl_weathers a3).bind fun val => bif !val then some false else bif a4.toList == (bs []).toList then some (a5 == 0) else bif a4.toList == (bs [83, 75, 67]).toList then some (a5 == 0) else (slices_Contains_Lstring_string L_impl_covers a4).bind fun val => bif val then (impl_in a5 1 200).bind fun val => some val else some false else bif a4.toList == (bs []).toList then some (a5 == 0) else bif a4.toList == (bs [83, 75, 67]).toList then some (a5 == 0) else (slices_Contains_Lstring_string L_impl_covers a4).bind fun val => bif val then (impl_in a5 1 200).bind fun val => some val else some false
noncomputable def g_impl_SkyOk : Sg := ⟨i_impl_SkyOk, o_impl_SkyOk, Bool, fun y => ((y, ()), ()), fun x => impl_SkyOk x.1.1.1 x.1.1.2.1 x.1.1.2.2.1 x.1.1.2.2.2.1 x.1.1.2.2.2.2.1 x.1.1.2.2.2.2.2.1⟩
noncomputable def C_impl_SkyOk : Ctx := ⟨67, tiOf Tryz.prog, gl, sgOf [(83, g_impl_in), (176, g_slices_Contains_Lstring_string)], []⟩
theorem e_impl_SkyOk : Sound Tryz.prog gl 86 g_impl_SkyOk :=
  sound_plain (C := C_impl_SkyOk) ⟨fun _ _ h => h, by kernel_rfl⟩ (sgOf_all' ⟨.inl ⟨by kernel_rfl, (Sound.mono gl_DT (by rfl) e_impl_in)⟩, .inl ⟨by kernel_rfl, e_slices_Contains_Lstring_string⟩, trivial⟩) 86 Tryz.f86 g_impl_SkyOk (fun y => y.1.1) (by kernel_rfl) (by kernel_rfl) (by kernel_rfl) (by kernel_rfl) (by kernel_rfl) (by kernel_rfl) (fun _ => rfl) (fun x => by kernel_rfl)
-- loop.example/g00051/impl.said
noncomputable def i_impl_said : Shape := ⟨[(0, .agg [.int .i64, .int .i64, .int .i64, .str, .str, .int .i64])], []⟩
noncomputable def o_impl_said : Shape := ⟨[(0, .agg [.bool, .bool, .bool, .bool])], []⟩
noncomputable def impl_said (a0 : Int) (a1 : Int) (a2 : Int) (a3 : ByteArray) (a4 : ByteArray) (a5 : Int) : Option (Bool × Bool × Bool × Bool) :=
  some (a0 != -1, a2 != -1, !a3.toList == (bs []).toList, !a4.toList == (bs []).toList)
noncomputable def g_impl_said : Sg := ⟨i_impl_said, o_impl_said, Bool × Bool × Bool × Bool, fun y => (((y.1, y.2.1, y.2.2.1, y.2.2.2, ()), ()), ()), fun x => impl_said x.1.1.1 x.1.1.2.1 x.1.1.2.2.1 x.1.1.2.2.2.1 x.1.1.2.2.2.2.1 x.1.1.2.2.2.2.2.1⟩
noncomputable def C_impl_said : Ctx := ⟨16, tiOf Tryz.prog, gl, sgOf [], []⟩
theorem e_impl_said : Sound Tryz.prog gl 87 g_impl_said :=
  sound_plain (C := C_impl_said) ⟨fun _ _ h => h, by kernel_rfl⟩ (sgOf_all' trivial) 87 Tryz.f87 g_impl_said (fun y => (y.1.1.1, y.1.1.2.1, y.1.1.2.2.1, y.1.1.2.2.2.1)) (by kernel_rfl) (by kernel_rfl) (by kernel_rfl) (by kernel_rfl) (by kernel_rfl) (by kernel_rfl) (fun _ => rfl) (fun x => by kernel_rfl)
-- loop.example/g00051/impl.full
noncomputable def i_impl_full : Shape := ⟨[(0, .agg [.int .i64, .int .i64, .int .i64, .str, .str, .int .i64])], []⟩
noncomputable def o_impl_full : Shape := ⟨[(0, .c (.bool))], []⟩
noncomputable def impl_full (a0 : Int) (a1 : Int) (a2 : Int) (a3 : ByteArray) (a4 : ByteArray) (a5 : Int) : Option (Bool) :=
  (impl_SkyOk a0 a1 a2 a3 a4 a5).bind fun val => bif val then (impl_said a0 a1 a2 a3 a4 a5).bind fun val => some (val.fst == true && (val.snd.fst == true && (val.snd.snd.fst == true && val.snd.snd.snd == true))) else some false
noncomputable def g_impl_full : Sg := ⟨i_impl_full, o_impl_full, Bool, fun y => ((y, ()), ()), fun x => impl_full x.1.1.1 x.1.1.2.1 x.1.1.2.2.1 x.1.1.2.2.2.1 x.1.1.2.2.2.2.1 x.1.1.2.2.2.2.2.1⟩
noncomputable def C_impl_full : Ctx := ⟨11, tiOf Tryz.prog, gl, sgOf [(86, g_impl_SkyOk), (87, g_impl_said)], []⟩
theorem e_impl_full : Sound Tryz.prog gl 85 g_impl_full :=
  sound_plain (C := C_impl_full) ⟨fun _ _ h => h, by kernel_rfl⟩ (sgOf_all' ⟨.inl ⟨by kernel_rfl, e_impl_SkyOk⟩, .inl ⟨by kernel_rfl, e_impl_said⟩, trivial⟩) 85 Tryz.f85 g_impl_full (fun y => y.1.1) (by kernel_rfl) (by kernel_rfl) (by kernel_rfl) (by kernel_rfl) (by kernel_rfl) (by kernel_rfl) (fun _ => rfl) (fun x => by kernel_rfl)
-- loop.example/g00051/impl.TafOk
noncomputable def i_impl_TafOk : Shape := ⟨[(0, .agg [.str, .int .i64, .int .i64, .int .i64, .int .i64, .int .i64, .int .i64, .str, .str, .int .i64, .sl (.pair (.int .i64) (.pair (.int .i64) (.pair (.int .i64) (.pair (.int .i64) (.pair (.int .i64) (.pair (.int .i64) (.pair .str (.pair .str (.int .i64)))))))))])], []⟩
noncomputable def o_impl_TafOk : Shape := ⟨[(0, .c (.bool))], []⟩
noncomputable def s_impl_TafOk_6 : Shape := ⟨[(1, .c (.ptr 0 0)), (3, .c (.ptr 1 0)), (4, .c (.int .i64)), (66, .c (.sl (.pair (.int .i64) (.pair (.int .i64) (.pair (.int .i64) (.pair (.int .i64) (.pair (.int .i64) (.pair (.int .i64) (.pair .str (.pair .str (.int .i64))))))))))), (67, .c (.int .i64)), (68, .c (.int .i64))], [.box 28 [.str, .int .i64, .int .i64, .int .i64, .int .i64, .int .i64, .int .i64, .str, .str, .int .i64, .sl (.pair (.int .i64) (.pair (.int .i64) (.pair (.int .i64) (.pair (.int .i64) (.pair (.int .i64) (.pair (.int .i64) (.pair .str (.pair .str (.int .i64)))))))))], .box 23 [.int .i64, .int .i64]]⟩
noncomputable def impl_TafOk_L6 : Nat → Int → (List (Int × Int × Int × Int × Int × Int × ByteArray × ByteArray × Int)) → Int → Int → ByteArray → Int → Int → Int → Int → Int → Int → ByteArray → ByteArray → Int → (List (Int × Int × Int × Int × Int × Int × ByteArray × ByteArray × Int)) → Int → Int → Option (Bool)
  | 0, _, _, _, _, _, _, _, _, _, _, _, _, _, _, _, _, _ => none
  | k + 1, a0, a1, a2, a3, a4, a5, a6, a7, a8, a9, a10, a11, a12, a13, a14, a15, a16 =>
  bif decide (a3 < a2) then
   bif decide (0 ≤ a3) then
    bif decide (a3 < (↑a1.length : Int)) then
     (impl_in (rd K9_SA0 a1 a3).fst 1 4).bind fun val =>
      bif !val then some false
      else
       (impl_SkyOk (rd K9_SA0 a1 a3).snd.snd.snd.fst (rd K9_SA0 a1 a3).snd.snd.snd.snd.fst (rd K9_SA0 a1 a3).snd.snd.snd.snd.snd.fst (rd K9_SA0 a1 a3).snd.snd.snd.snd.snd.snd.fst (rd K9_SA0 a1 a3).snd.snd.snd.snd.snd.snd.snd.fst
          (rd K9_SA0 a1 a3).snd.snd.snd.snd.snd.snd.snd.snd).bind
        fun val =>
        bif !val then some false
        else
         (impl_said (rd K9_SA0 a1 a3).snd.snd.snd.fst (rd K9_SA0 a1 a3).snd.snd.snd.snd.fst (rd K9_SA0 a1 a3).snd.snd.snd.snd.snd.fst (rd K9_SA0 a1 a3).snd.snd.snd.snd.snd.snd.fst (rd K9_SA0 a1 a3).snd.snd.snd.snd.snd.snd.snd.fst
            (rd K9_SA0 a1 a3).snd.snd.snd.snd.snd.snd.snd.snd).bind
          fun val =>
          bif val.fst == false && (val.snd.fst == false && (val.snd.snd.fst == false && val.snd.snd.snd == false)) then some false
          else
           bif decide (a3 > 0) then
            bif decide (0 ≤ IntKind.i64.wrap (a3 - 1)) then
             bif decide (IntKind.i64.wrap (a3 - 1) < (↑a14.length : Int)) then
              bif decide ((rd K9_SA0 a1 a3).snd.fst < (rd K9_SA0 a14 (IntKind.i64.wrap (a3 - 1))).snd.fst) then some false
              else
               bif (rd K9_SA0 a1 a3).fst == 1 then
                bif decide ((rd K9_SA0 a1 a3).snd.fst < a15) then some false
                else
                 bif decide ((rd K9_SA0 a1 a3).snd.fst ≥ a16) then some false
                 else
                  bif (rd K9_SA0 a1 a3).snd.snd.fst != 0 then some false
                  else
                   (impl_full (rd K9_SA0 a1 a3).snd.snd.snd.fst (rd K9_SA0 a1 a3).snd.snd.snd.snd.fst (rd K9_SA0 a1 a3).snd.snd.snd.snd.snd.fst (rd K9_SA0 a1 a3).snd.snd.snd.snd.snd.snd.fst (rd K9_SA0 a1 a3).snd.snd.snd.snd.snd.snd.snd.fst
                      (rd K9_SA0 a1 a3).snd.snd.snd.snd.snd.snd.snd.snd).bind
                    fun val =>
                    bif !val then some false
                    else
                     bif (rd K9_SA0 a1 a3).fst == 1 then
                      bif decide ((rd K9_SA0 a1 a3).snd.fst < a0) then some false else impl_TafOk_L6 k (if (rd K9_SA0 a1 a3).snd.snd.fst > (rd K9_SA0 a1 a3).snd.fst then (rd K9_SA0 a1 a3).snd.snd.fst else (rd K9_SA0 a1 a3).snd.fst) a1 a2 (IntKind.i64.wrap (a3 + 1)) a4 a5 a6 a7 a8 a9 a10 a11 a12 a13 a14 a15 a16
                     else
                      bif (rd K9_SA0 a1 a3).fst == 2 then
                       bif decide ((rd K9_SA0 a1 a3).snd.fst < a0) then some false else impl_TafOk_L6 k (if (rd K9_SA0 a1 a3).snd.snd.fst > (rd K9_SA0 a1 a3).snd.fst then (rd K9_SA0 a1 a3).snd.snd.fst else (rd K9_SA0 a1 a3).snd.fst) a1 a2 (IntKind.i64.wrap (a3 + 1)) a4 a5 a6 a7 a8 a9 a10 a11 a12 a13 a14 a15 a16
                      else impl_TafOk_L6 k a0 a1 a2 (IntKind.i64.wrap (a3 + 1)) a4 a5 a6 a7 a8 a9 a10 a11 a12 a13 a14 a15 a16
               else
                bif decide ((rd K9_SA0 a1 a3).snd.fst < a15) then some false
                else
                 bif decide ((rd K9_SA0 a1 a3).snd.fst ≥ (rd K9_SA0 a1 a3).snd.snd.fst) then some false
                 else
                  bif decide ((rd K9_SA0 a1 a3).snd.snd.fst > a16) then some false
                  else
                   bif Int.tmod (rd K9_SA0 a1 a3).snd.fst 60 != 0 then some false
                   else
                    bif Int.tmod (rd K9_SA0 a1 a3).snd.snd.fst 60 != 0 then some false
                    else
                     bif (rd K9_SA0 a1 a3).fst == 1 then
                      bif decide ((rd K9_SA0 a1 a3).snd.fst < a0) then some false else impl_TafOk_L6 k (if (rd K9_SA0 a1 a3).snd.snd.fst > (rd K9_SA0 a1 a3).snd.fst then (rd K9_SA0 a1 a3).snd.snd.fst else (rd K9_SA0 a1 a3).snd.fst) a1 a2 (IntKind.i64.wrap (a3 + 1)) a4 a5 a6 a7 a8 a9 a10 a11 a12 a13 a14 a15 a16
                     else
                      bif (rd K9_SA0 a1 a3).fst == 2 then
                       bif decide ((rd K9_SA0 a1 a3).snd.fst < a0) then some false else impl_TafOk_L6 k (if (rd K9_SA0 a1 a3).snd.snd.fst > (rd K9_SA0 a1 a3).snd.fst then (rd K9_SA0 a1 a3).snd.snd.fst else (rd K9_SA0 a1 a3).snd.fst) a1 a2 (IntKind.i64.wrap (a3 + 1)) a4 a5 a6 a7 a8 a9 a10 a11 a12 a13 a14 a15 a16
                      else impl_TafOk_L6 k a0 a1 a2 (IntKind.i64.wrap (a3 + 1)) a4 a5 a6 a7 a8 a9 a10 a11 a12 a13 a14 a15 a16
             else none
            else none
           else
            bif (rd K9_SA0 a1 a3).fst == 1 then
             bif decide ((rd K9_SA0 a1 a3).snd.fst < a15) then some false
             else
              bif decide ((rd K9_SA0 a1 a3).snd.fst ≥ a16) then some false
              else
               bif (rd K9_SA0 a1 a3).snd.snd.fst != 0 then some false
               else
                (impl_full (rd K9_SA0 a1 a3).snd.snd.snd.fst (rd K9_SA0 a1 a3).snd.snd.snd.snd.fst (rd K9_SA0 a1 a3).snd.snd.snd.snd.snd.fst (rd K9_SA0 a1 a3).snd.snd.snd.snd.snd.snd.fst (rd K9_SA0 a1 a3).snd.snd.snd.snd.snd.snd.snd.fst
                   (rd K9_SA0 a1 a3).snd.snd.snd.snd.snd.snd.snd.snd).bind
                 fun val =>
                 bif !val then some false
                 else
                  bif (rd K9_SA0 a1 a3).fst == 1 then
                   bif decide ((rd K9_SA0 a1 a3).snd.fst < a0) then some false else impl_TafOk_L6 k (if (rd K9_SA0 a1 a3).snd.snd.fst > (rd K9_SA0 a1 a3).snd.fst then (rd K9_SA0 a1 a3).snd.snd.fst else (rd K9_SA0 a1 a3).snd.fst) a1 a2 (IntKind.i64.wrap (a3 + 1)) a4 a5 a6 a7 a8 a9 a10 a11 a12 a13 a14 a15 a16
                  else
                   bif (rd K9_SA0 a1 a3).fst == 2 then
                    bif decide ((rd K9_SA0 a1 a3).snd.fst < a0) then some false else impl_TafOk_L6 k (if (rd K9_SA0 a1 a3).snd.snd.fst > (rd K9_SA0 a1 a3).snd.fst then (rd K9_SA0 a1 a3).snd.snd.fst else (rd K9_SA0 a1 a3).snd.fst) a1 a2 (IntKind.i64.wrap (a3 + 1)) a4 a5 a6 a7 a8 a9 a10 a11 a12 a13 a14 a15 a16
                   else impl_TafOk_L6 k a0 a1 a2 (IntKind.i64.wrap (a3 + 1)) a4 a5 a6 a7 a8 a9 a10 a11 a12 a13 a14 a15 a16
            else
             bif decide ((rd K9_SA0 a1 a3).snd.fst < a15) then some false
             else
              bif decide ((rd K9_SA0 a1 a3).snd.fst ≥ (rd K9_SA0 a1 a3).snd.snd.fst) then some false
              else
               bif decide ((rd K9_SA0 a1 a3).snd.snd.fst > a16) then some false
               else
                bif Int.tmod (rd K9_SA0 a1 a3).snd.fst 60 != 0 then some false
                else
                 bif Int.tmod (rd K9_SA0 a1 a3).snd.snd.fst 60 != 0 then some false
                 else
                  bif (rd K9_SA0 a1 a3).fst == 1 then
                   bif decide ((rd K9_SA0 a1 a3).snd.fst < a0) then some false else impl_TafOk_L6 k (if (rd K9_SA0 a1 a3).snd.snd.fst > (rd K9_SA0 a1 a3).snd.fst then (rd K9_SA0 a1 a3).snd.snd.fst else (rd K9_SA0 a1 a3).snd.fst) a1 a2 (IntKind.i64.wrap (a3 + 1)) a4 a5 a6 a7 a8 a9 a10 a11 a12 a13 a14 a15 a16
                  else
                   bif (rd K9_SA0 a1 a3).fst == 2 then
                    bif decide ((rd K9_SA0 a1 a3).snd.fst < a0) then some false else impl_TafOk_L6 k (if (rd K9_SA0 a1 a3).snd.snd.fst > (rd K9_SA0 a1 a3).snd.fst then (rd K9_SA0 a1 a3).snd.snd.fst else (rd K9_SA0 a1 a3).snd.fst) a1 a2 (IntKind.i64.wrap (a3 + 1)) a4 a5 a6 a7 a8 a9 a10 a11 a12 a13 a14 a15 a16
                   else impl_TafOk_L6 k a0 a1 a2 (IntKind.i64.wrap (a3 + 1)) a4 a5 a6 a7 a8 a9 a10 a11 a12 a13 a14 a15 a16
    else none
   else none
  else some true
noncomputable def j_impl_TafOk : List (Nat × (Nat → Cut (Bool))) := [(6, fun k => ⟨s_impl_TafOk_6, fun x => impl_TafOk_L6 k x.1.2.2.1 x.1.2.2.2.1 x.1.2.2.2.2.1 x.1.2.2.2.2.2.1 x.2.1.1 x.2.1.2.1 x.2.1.2.2.1 x.2.1.2.2.2.1 x.2.1.2.2.2.2.1 x.2.1.2.2.2.2.2.1 x.2.1.2.2.2.2.2.2.1 x.2.1.2.2.2.2.2.2.2.1 x.2.1.2.2.2.2.2.2.2.2.1 x.2.1.2.2.2.2.2.2.2.2.2.1 x.2.1.2.2.2.2.2.2.2.2.2.2.1 x.2.2.1.1 x.2.2.1.2.1⟩)]
noncomputable def impl_TafOk_F (k : Nat) (a0 : ByteArray) (a1 : Int) (a2 : Int) (a3 : Int) (a4 : Int) (a5 : Int) (a6 : Int) (a7 : ByteArray) (a8 : ByteArray) (a9 : Int) (a10 : List (Int × Int × Int × Int × Int × Int × ByteArray × ByteArray × Int)) : Option (Bool) :=
  (impl_centreOk a0).bind fun val => bif !val then some false else (impl_isTime a1).bind fun val => bif !val then some false else (impl_spanOk a2 a3).bind fun val => bif !val then some false else bif a2.tmod 60 != 0 then some false else bif a3.tmod 60 != 0 then some false else (impl_in (IntKind.i64.wrap (a3 - a2)) 60 2160).bind fun val => bif !val then some false else (impl_away a2 a1).bind fun val => bif decide (val > 1440) then some false else (impl_full a4 a5 a6 a7 a8 a9).bind fun val => bif !val then some false else bif decide ((↑a10.length : Int) > 10) then some false else impl_TafOk_L6 k (-1) a10 (↑a10.length : Int) 0 a0 a1 a2 a3 a4 a5 a6 a7 a8 a9 a10 a2 a3
noncomputable def impl_TafOk (a0 : ByteArray) (a1 : Int) (a2 : Int) (a3 : Int) (a4 : Int) (a5 : Int) (a6 : Int) (a7 : ByteArray) (a8 : ByteArray) (a9 : Int) (a10 : List (Int × Int × Int × Int × Int × Int × ByteArray × ByteArray × Int)) : Option (Bool) := evF fun k => impl_TafOk_F k a0 a1 a2 a3 a4 a5 a6 a7 a8 a9 a10
noncomputable def g_impl_TafOk : Sg := ⟨i_impl_TafOk, o_impl_TafOk, Bool, fun y => ((y, ()), ()), fun x => impl_TafOk x.1.1.1 x.1.1.2.1 x.1.1.2.2.1 x.1.1.2.2.2.1 x.1.1.2.2.2.2.1 x.1.1.2.2.2.2.2.1 x.1.1.2.2.2.2.2.2.1 x.1.1.2.2.2.2.2.2.2.1 x.1.1.2.2.2.2.2.2.2.2.1 x.1.1.2.2.2.2.2.2.2.2.2.1 x.1.1.2.2.2.2.2.2.2.2.2.2.1⟩
noncomputable def C_impl_TafOk : Ctx := ⟨181, tiOf Tryz.prog, gl, sgOf [(80, g_impl_centreOk), (81, g_impl_isTime), (82, g_impl_spanOk), (83, g_impl_in), (84, g_impl_away), (85, g_impl_full), (86, g_impl_SkyOk), (87, g_impl_said)], []⟩
theorem e_impl_TafOk : Sound Tryz.prog gl 20 g_impl_TafOk :=
  sound_cuts (C := C_impl_TafOk) ⟨fun _ _ h => h, by kernel_rfl⟩ (sgOf_all' ⟨.inl ⟨by kernel_rfl, e_impl_centreOk⟩, .inl ⟨by kernel_rfl, (Sound.mono gl_DT (by rfl) e_impl_isTime)⟩, .inl ⟨by kernel_rfl, e_impl_spanOk⟩, .inl ⟨by kernel_rfl, (Sound.mono gl_DT (by rfl) e_impl_in)⟩, .inl ⟨by kernel_rfl, e_impl_away⟩, .inl ⟨by kernel_rfl, e_impl_full⟩, .inl ⟨by kernel_rfl, e_impl_SkyOk⟩, .inl ⟨by kernel_rfl, e_impl_said⟩, trivial⟩) 20 Tryz.f20 g_impl_TafOk (fun y => y.1.1) j_impl_TafOk 1 (by kernel_rfl) (by kernel_rfl) (by kernel_rfl) (by kernel_rfl) (by kernel_rfl) (by kernel_rfl) (fun _ => rfl) (by kernel_rfl) (by kernel_rfl)
    ⟨trivial, s_impl_TafOk_6, fun k x => impl_TafOk_L6 k x.1.2.2.1 x.1.2.2.2.1 x.1.2.2.2.2.1 x.1.2.2.2.2.2.1 x.2.1.1 x.2.1.2.1 x.2.1.2.2.1 x.2.1.2.2.2.1 x.2.1.2.2.2.2.1 x.2.1.2.2.2.2.2.1 x.2.1.2.2.2.2.2.2.1 x.2.1.2.2.2.2.2.2.2.1 x.2.1.2.2.2.2.2.2.2.2.1 x.2.1.2.2.2.2.2.2.2.2.2.1 x.2.1.2.2.2.2.2.2.2.2.2.2.1 x.2.2.1.1 x.2.2.1.2.1, ⟨fun k => by kernel_rfl, fun k y => by kernel_rfl, fun y => by kernel_rfl⟩⟩
    (fun k x => impl_TafOk_F k x.1.1.1 x.1.1.2.1 x.1.1.2.2.1 x.1.1.2.2.2.1 x.1.1.2.2.2.2.1 x.1.1.2.2.2.2.2.1 x.1.1.2.2.2.2.2.2.1 x.1.1.2.2.2.2.2.2.2.1 x.1.1.2.2.2.2.2.2.2.2.1 x.1.1.2.2.2.2.2.2.2.2.2.1 x.1.1.2.2.2.2.2.2.2.2.2.2.1) (fun x => rfl) (fun k x => by kernel_rfl)
-- loop.example/g00051/spec.l4Letters
noncomputable def i_spec_l4Letters : Shape := ⟨[(0, .c (.str))], []⟩
noncomputable def o_spec_l4Letters : Shape := ⟨[(0, .c (.bool))], []⟩
noncomputable def s_spec_l4Letters_2 : Shape := ⟨[(0, .c (.str)), (3, .c (.int .i64))], []⟩
noncomputable def spec_l4Letters_L2 : Nat → ByteArray → Int → Option (Bool)
  | 0, _, _ => none
  | k + 1, a0, a1 =>
  bif decide (a1 < (↑a0.size : Int)) then bif decide (0 ≤ a1) then bif decide (a1 < (↑a0.size : Int)) then bif decide (bt a0 a1 < 65) then some false else bif decide (0 ≤ a1) then bif decide (a1 < (↑a0.size : Int)) then bif decide (bt a0 a1 > 90) then some false else spec_l4Letters_L2 k a0 (IntKind.i64.wrap (a1 + 1)) else none else none else none else none else some true
noncomputable def j_spec_l4Letters : List (Nat × (Nat → Cut (Bool))) := [(2, fun k => ⟨s_spec_l4Letters_2, fun x => spec_l4Letters_L2 k x.1.1 x.1.2.1⟩)]
noncomputable def spec_l4Letters_F (k : Nat) (a0 : ByteArray) : Option (Bool) :=
  spec_l4Letters_L2 k a0 0
noncomputable def spec_l4Letters (a0 : ByteArray) : Option (Bool) := evF fun k => spec_l4Letters_F k a0
noncomputable def g_spec_l4Letters : Sg := ⟨i_spec_l4Letters, o_spec_l4Letters, Bool, fun y => ((y, ()), ()), fun x => spec_l4Letters x.1.1⟩
noncomputable def C_spec_l4Letters : Ctx := ⟨20, tiOf Tryz.prog, gl, sgOf [], []⟩
theorem e_spec_l4Letters : Sound Tryz.prog gl 173 g_spec_l4Letters :=
  sound_cuts (C := C_spec_l4Letters) ⟨fun _ _ h => h, by kernel_rfl⟩ (sgOf_all' trivial) 173 Tryz.f173 g_spec_l4Letters (fun y => y.1.1) j_spec_l4Letters 1 (by kernel_rfl) (by kernel_rfl) (by kernel_rfl) (by kernel_rfl) (by kernel_rfl) (by kernel_rfl) (fun _ => rfl) (by kernel_rfl) (by kernel_rfl)
    ⟨trivial, s_spec_l4Letters_2, fun k x => spec_l4Letters_L2 k x.1.1 x.1.2.1, ⟨fun k => by kernel_rfl, fun k y => by kernel_rfl, fun y => by kernel_rfl⟩⟩
    (fun k x => spec_l4Letters_F k x.1.1) (fun x => rfl) (fun k x => by kernel_rfl)
-- loop.example/g00051/spec.l1Digit
noncomputable def i_spec_l1Digit : Shape := ⟨[(0, .c (.int .u8))], []⟩
noncomputable def o_spec_l1Digit : Shape := ⟨[(0, .c (.bool))], []⟩
noncomputable def spec_l1Digit (a0 : Int) : Option (Bool) :=
  bif decide (a0 ≥ 48) then some (decide (a0 ≤ 57)) else some false
noncomputable def g_spec_l1Digit : Sg := ⟨i_spec_l1Digit, o_spec_l1Digit, Bool, fun y => ((y, ()), ()), fun x => spec_l1Digit x.1.1⟩
noncomputable def C_spec_l1Digit : Ctx := ⟨9, tiOf Tryz.prog, gl, sgOf [], []⟩
theorem e_spec_l1Digit : Sound Tryz.prog gl 174 g_spec_l1Digit :=
  sound_plain (C := C_spec_l1Digit) ⟨fun _ _ h => h, by kernel_rfl⟩ (sgOf_all' trivial) 174 Tryz.f174 g_spec_l1Digit (fun y => y.1.1) (by kernel_rfl) (by kernel_rfl) (by kernel_rfl) (by kernel_rfl) (by kernel_rfl) (by kernel_rfl) (fun _ => rfl) (fun x => by kernel_rfl)
-- loop.example/g00051/spec.l4CentreOk
noncomputable def i_spec_l4CentreOk : Shape := ⟨[(0, .c (.str))], []⟩
noncomputable def o_spec_l4CentreOk : Shape := ⟨[(0, .c (.bool))], []⟩
noncomputable def s_spec_l4CentreOk_4 : Shape := ⟨[(0, .c (.str)), (3, .c (.int .i64))], []⟩
noncomputable def spec_l4CentreOk_L4 : Nat → ByteArray → Int → Option (Bool)
  | 0, _, _ => none
  | k + 1, a0, a1 =>
  bif decide (a1 < 4) then bif decide (0 ≤ a1) then bif decide (a1 < (↑a0.size : Int)) then (spec_l1Digit (bt a0 a1)).bind fun val => bif !val then bif decide (0 ≤ IntKind.i64.wrap (a1 + 1)) && decide (IntKind.i64.wrap (a1 + 1) ≤ (↑a0.size : Int)) then bif decide (0 ≤ a1) && decide (a1 ≤ IntKind.i64.wrap (a1 + 1)) then (spec_l4Letters (a0.extract a1.toNat (IntKind.i64.wrap (a1 + 1)).toNat)).bind fun val => bif !val then some false else spec_l4CentreOk_L4 k a0 (IntKind.i64.wrap (a1 + 1)) else none else none else spec_l4CentreOk_L4 k a0 (IntKind.i64.wrap (a1 + 1)) else none else none else some true
noncomputable def j_spec_l4CentreOk : List (Nat × (Nat → Cut (Bool))) := [(4, fun k => ⟨s_spec_l4CentreOk_4, fun x => spec_l4CentreOk_L4 k x.1.1 x.1.2.1⟩)]
noncomputable def spec_l4CentreOk_F (k : Nat) (a0 : ByteArray) : Option (Bool) :=
  bif (↑a0.size : Int) != 4 then some false else bif decide (0 ≤ 1) && decide (1 ≤ (↑a0.size : Int)) then (spec_l4Letters (a0.extract (Int.toNat 0) (Int.toNat 1))).bind fun val => bif !val then some false else spec_l4CentreOk_L4 k a0 1 else none
noncomputable def spec_l4CentreOk (a0 : ByteArray) : Option (Bool) := evF fun k => spec_l4CentreOk_F k a0
noncomputable def g_spec_l4CentreOk : Sg := ⟨i_spec_l4CentreOk, o_spec_l4CentreOk, Bool, fun y => ((y, ()), ()), fun x => spec_l4CentreOk x.1.1⟩
noncomputable def C_spec_l4CentreOk : Ctx := ⟨31, tiOf Tryz.prog, gl, sgOf [(173, g_spec_l4Letters), (174, g_spec_l1Digit)], []⟩
theorem e_spec_l4CentreOk : Sound Tryz.prog gl 74 g_spec_l4CentreOk :=
  sound_cuts (C := C_spec_l4CentreOk) ⟨fun _ _ h => h, by kernel_rfl⟩ (sgOf_all' ⟨.inl ⟨by kernel_rfl, e_spec_l4Letters⟩, .inl ⟨by kernel_rfl, e_spec_l1Digit⟩, trivial⟩) 74 Tryz.f74 g_spec_l4CentreOk (fun y => y.1.1) j_spec_l4CentreOk 1 (by kernel_rfl) (by kernel_rfl) (by kernel_rfl) (by kernel_rfl) (by kernel_rfl) (by kernel_rfl) (fun _ => rfl) (by kernel_rfl) (by kernel_rfl)
    ⟨trivial, s_spec_l4CentreOk_4, fun k x => spec_l4CentreOk_L4 k x.1.1 x.1.2.1, ⟨fun k => by kernel_rfl, fun k y => by kernel_rfl, fun y => by kernel_rfl⟩⟩
    (fun k x => spec_l4CentreOk_F k x.1.1) (fun x => rfl) (fun k x => by kernel_rfl)
-- loop.example/g00051/spec.l2SpanOk
noncomputable def i_spec_l2SpanOk : Shape := ⟨[(0, .agg [.int .i64, .int .i64])], []⟩
noncomputable def o_spec_l2SpanOk : Shape := ⟨[(0, .c (.bool))], []⟩
noncomputable def spec_l2SpanOk (a0 : Int) (a1 : Int) : Option (Bool) :=
  (spec_l2Time a0).bind fun val => bif val then (spec_l2Time a1).bind fun val => bif val then some (decide (a0 ≤ a1)) else some false else some false
noncomputable def g_spec_l2SpanOk : Sg := ⟨i_spec_l2SpanOk, o_spec_l2SpanOk, Bool, fun y => ((y, ()), ()), fun x => spec_l2SpanOk x.1.1.1 x.1.1.2.1⟩
noncomputable def C_spec_l2SpanOk : Ctx := ⟨18, tiOf Tryz.prog, gl, sgOf [(75, g_spec_l2Time)], []⟩
theorem e_spec_l2SpanOk : Sound Tryz.prog gl 76 g_spec_l2SpanOk :=
  sound_plain (C := C_spec_l2SpanOk) ⟨fun _ _ h => h, by kernel_rfl⟩ (sgOf_all' ⟨.inl ⟨by kernel_rfl, (Sound.mono gl_DT (by rfl) e_spec_l2Time)⟩, trivial⟩) 76 Tryz.f76 g_spec_l2SpanOk (fun y => y.1.1) (by kernel_rfl) (by kernel_rfl) (by kernel_rfl) (by kernel_rfl) (by kernel_rfl) (by kernel_rfl) (fun _ => rfl) (fun x => by kernel_rfl)
-- loop.example/g00051/spec.l21WindOk
noncomputable def i_spec_l21WindOk : Shape := ⟨[(0, .agg [.int .i64, .int .i64, .int .i64, .str, .str, .int .i64])], []⟩
noncomputable def o_spec_l21WindOk : Shape := ⟨[(0, .c (.bool))], []⟩
noncomputable def spec_l21WindOk (a0 : Int) (a1 : Int) (a2 : Int) (a3 : ByteArray) (a4 : ByteArray) (a5 : Int) : Option (Bool) :=
  bif a0 == -1 then some (a1 == 0) else bif a0 == 0 then some (a1 == 0) else (spec_l2In a0 1 36).bind fun val => bif val then (spec_l2In a1 1 99).bind fun val => some val else bif a0 == 99 then (spec_l2In a1 1 99).bind fun val => some val else some false
noncomputable def g_spec_l21WindOk : Sg := ⟨i_spec_l21WindOk, o_spec_l21WindOk, Bool, fun y => ((y, ()), ()), fun x => spec_l21WindOk x.1.1.1 x.1.1.2.1 x.1.1.2.2.1 x.1.1.2.2.2.1 x.1.1.2.2.2.2.1 x.1.1.2.2.2.2.2.1⟩
noncomputable def C_spec_l21WindOk : Ctx := ⟨27, tiOf Tryz.prog, gl, sgOf [(77, g_spec_l2In)], []⟩
theorem e_spec_l21WindOk : Sound Tryz.prog gl 97 g_spec_l21WindOk :=
  sound_plain (C := C_spec_l21WindOk) ⟨fun _ _ h => h, by kernel_rfl⟩ (sgOf_all' ⟨.inl ⟨by kernel_rfl, (Sound.mono gl_DT (by rfl) e_spec_l2In)⟩, trivial⟩) 97 Tryz.f97 g_spec_l21WindOk (fun y => y.1.1) (by kernel_rfl) (by kernel_rfl) (by kernel_rfl) (by kernel_rfl) (by kernel_rfl) (by kernel_rfl) (fun _ => rfl) (fun x => by kernel_rfl)
-- loop.example/g00051/spec.l21WeatherOk
noncomputable def i_spec_l21WeatherOk : Shape := ⟨[(0, .c (.str))], []⟩
noncomputable def o_spec_l21WeatherOk : Shape := ⟨[(0, .c (.bool))], []⟩
noncomputable def spec_l21WeatherOk (a0 : ByteArray) : Option (Bool) :=
  bif a0.toList == (bs []).toList then some true else bif a0.toList == (bs [78, 83, 87]).toList then some true else bif a0.toList == (bs [82, 65]).toList then some true else bif a0.toList == (bs [45, 82, 65]).toList then some true else bif a0.toList == (bs [43, 82, 65]).toList then some true else bif a0.toList == (bs [83, 78]).toList then some true else bif a0.toList == (bs [45, 83, 78]).toList then some true else bif a0.toList == (bs [43, 83, 78]).toList then some true else bif a0.toList == (bs [84, 83, 82, 65]).toList then some true else bif a0.toList == (bs [70, 71]).toList then some true else bif a0.toList == (bs [66, 82]).toList then some true else some false
noncomputable def g_spec_l21WeatherOk : Sg := ⟨i_spec_l21WeatherOk, o_spec_l21WeatherOk, Bool, fun y => ((y, ()), ()), fun x => spec_l21WeatherOk x.1.1⟩
noncomputable def C_spec_l21WeatherOk : Ctx := ⟨16, tiOf Tryz.prog, gl, sgOf [], []⟩
theorem e_spec_l21WeatherOk : Sound Tryz.prog gl 98 g_spec_l21WeatherOk :=
  sound_plain (C := C_spec_l21WeatherOk) ⟨fun _ _ h => h, by kernel_rfl⟩ (sgOf_all' trivial) 98 Tryz.f98 g_spec_l21WeatherOk (fun y => y.1.1) (by kernel_rfl) (by kernel_rfl) (by kernel_rfl) (by kernel_rfl) (by kernel_rfl) (by kernel_rfl) (fun _ => rfl) (fun x => by kernel_rfl)
-- loop.example/g00051/spec.l21CloudOk
noncomputable def i_spec_l21CloudOk : Shape := ⟨[(0, .agg [.int .i64, .int .i64, .int .i64, .str, .str, .int .i64])], []⟩
noncomputable def o_spec_l21CloudOk : Shape := ⟨[(0, .c (.bool))], []⟩
noncomputable def spec_l21CloudOk (a0 : Int) (a1 : Int) (a2 : Int) (a3 : ByteArray) (a4 : ByteArray) (a5 : Int) : Option (Bool) :=
  bif a4.toList == (bs []).toList then some (a5 == 0) else bif a4.toList == (bs [83, 75, 67]).toList then some (a5 == 0) else bif a4.toList == (bs [70, 69, 87]).toList then (spec_l2In a5 1 200).bind fun val => some val else bif a4.toList == (bs [83, 67, 84]).toList then (spec_l2In a5 1 200).bind fun val => some val else bif a4.toList == (bs [66, 75, 78]).toList then (spec_l2In a5 1 200).bind fun val => some val else bif a4.toList == (bs [79, 86, 67]).toList then (spec_l2In a5 1 200).bind fun val => some val else some false
noncomputable def g_spec_l21CloudOk : Sg := ⟨i_spec_l21CloudOk, o_spec_l21CloudOk, Bool, fun y => ((y, ()), ()), fun x => spec_l21CloudOk x.1.1.1 x.1.1.2.1 x.1.1.2.2.1 x.1.1.2.2.2.1 x.1.1.2.2.2.2.1 x.1.1.2.2.2.2.2.1⟩
noncomputable def C_spec_l21CloudOk : Ctx := ⟨19, tiOf Tryz.prog, gl, sgOf [(77, g_spec_l2In)], []⟩
theorem e_spec_l21CloudOk : Sound Tryz.prog gl 99 g_spec_l21CloudOk :=
  sound_plain (C := C_spec_l21CloudOk) ⟨fun _ _ h => h, by kernel_rfl⟩ (sgOf_all' ⟨.inl ⟨by kernel_rfl, (Sound.mono gl_DT (by rfl) e_spec_l2In)⟩, trivial⟩) 99 Tryz.f99 g_spec_l21CloudOk (fun y => y.1.1) (by kernel_rfl) (by kernel_rfl) (by kernel_rfl) (by kernel_rfl) (by kernel_rfl) (by kernel_rfl) (fun _ => rfl) (fun x => by kernel_rfl)
-- loop.example/g00051/spec.SkyOk
noncomputable def i_spec_SkyOk : Shape := ⟨[(0, .agg [.int .i64, .int .i64, .int .i64, .str, .str, .int .i64])], []⟩
noncomputable def o_spec_SkyOk : Shape := ⟨[(0, .c (.bool))], []⟩
noncomputable def spec_SkyOk (a0 : Int) (a1 : Int) (a2 : Int) (a3 : ByteArray) (a4 : ByteArray) (a5 : Int) : Option (Bool) :=
  (spec_l21WindOk a0 a1 a2 a3 a4 a5).bind fun val => bif val then (spec_l2In a2 (-1) 9999).bind fun val => bif val then (spec_l21WeatherOk a3).bind fun val => bif val then (spec_l21CloudOk a0 a1 a2 a3 a4 a5).bind fun val => some val else some false else some false else some false
noncomputable def g_spec_SkyOk : Sg := ⟨i_spec_SkyOk, o_spec_SkyOk, Bool, fun y => ((y, ()), ()), fun x => spec_SkyOk x.1.1.1 x.1.1.2.1 x.1.1.2.2.1 x.1.1.2.2.2.1 x.1.1.2.2.2.2.1 x.1.1.2.2.2.2.2.1⟩
noncomputable def C_spec_SkyOk : Ctx := ⟨19, tiOf Tryz.prog, gl, sgOf [(97, g_spec_l21WindOk), (77, g_spec_l2In), (98, g_spec_l21WeatherOk), (99, g_spec_l21CloudOk)], []⟩
theorem e_spec_SkyOk : Sound Tryz.prog gl 28 g_spec_SkyOk :=
  sound_plain (C := C_spec_SkyOk) ⟨fun _ _ h => h, by kernel_rfl⟩ (sgOf_all' ⟨.inl ⟨by kernel_rfl, e_spec_l21WindOk⟩, .inl ⟨by kernel_rfl, (Sound.mono gl_DT (by rfl) e_spec_l2In)⟩, .inl ⟨by kernel_rfl, e_spec_l21WeatherOk⟩, .inl ⟨by kernel_rfl, e_spec_l21CloudOk⟩, trivial⟩) 28 Tryz.f28 g_spec_SkyOk (fun y => y.1.1) (by kernel_rfl) (by kernel_rfl) (by kernel_rfl) (by kernel_rfl) (by kernel_rfl) (by kernel_rfl) (fun _ => rfl) (fun x => by kernel_rfl)
-- loop.example/g00051/spec.l21Full
noncomputable def i_spec_l21Full : Shape := ⟨[(0, .agg [.int .i64, .int .i64, .int .i64, .str, .str, .int .i64])], []⟩
noncomputable def o_spec_l21Full : Shape := ⟨[(0, .c (.bool))], []⟩
noncomputable def spec_l21Full (a0 : Int) (a1 : Int) (a2 : Int) (a3 : ByteArray) (a4 : ByteArray) (a5 : Int) : Option (Bool) :=
  (spec_SkyOk a0 a1 a2 a3 a4 a5).bind fun val => bif val then bif a0 != -1 then bif a2 != -1 then bif !a3.toList == (bs []).toList then some !a4.toList == (bs []).toList else some false else some false else some false else some false
noncomputable def g_spec_l21Full : Sg := ⟨i_spec_l21Full, o_spec_l21Full, Bool, fun y => ((y, ()), ()), fun x => spec_l21Full x.1.1.1 x.1.1.2.1 x.1.1.2.2.1 x.1.1.2.2.2.1 x.1.1.2.2.2.2.1 x.1.1.2.2.2.2.2.1⟩
noncomputable def C_spec_l21Full : Ctx := ⟨25, tiOf Tryz.prog, gl, sgOf [(28, g_spec_SkyOk)], []⟩
theorem e_spec_l21Full : Sound Tryz.prog gl 78 g_spec_l21Full :=
  sound_plain (C := C_spec_l21Full) ⟨fun _ _ h => h, by kernel_rfl⟩ (sgOf_all' ⟨.inl ⟨by kernel_rfl, e_spec_SkyOk⟩, trivial⟩) 78 Tryz.f78 g_spec_l21Full (fun y => y.1.1) (by kernel_rfl) (by kernel_rfl) (by kernel_rfl) (by kernel_rfl) (by kernel_rfl) (by kernel_rfl) (fun _ => rfl) (fun x => by kernel_rfl)
-- loop.example/g00051/spec.l21Unsaid
noncomputable def i_spec_l21Unsaid : Shape := ⟨[], []⟩
noncomputable def o_spec_l21Unsaid : Shape := ⟨[(0, .agg [.int .i64, .int .i64, .int .i64, .str, .str, .int .i64])], []⟩
noncomputable def spec_l21Unsaid : Option (Int × Int × Int × ByteArray × ByteArray × Int) :=
  some (-1, 0, -1, bs [], bs [], 0)
noncomputable def g_spec_l21Unsaid : Sg := ⟨i_spec_l21Unsaid, o_spec_l21Unsaid, Int × Int × Int × ByteArray × ByteArray × Int, fun y => (((y.1, y.2.1, y.2.2.1, y.2.2.2.1, y.2.2.2.2.1, y.2.2.2.2.2, ()), ()), ()), fun x => spec_l21Unsaid ⟩
noncomputable def C_spec_l21Unsaid : Ctx := ⟨2, tiOf Tryz.prog, gl, sgOf [], []⟩
theorem e_spec_l21Unsaid : Sound Tryz.prog gl 156 g_spec_l21Unsaid :=
  sound_plain (C := C_spec_l21Unsaid) ⟨fun _ _ h => h, by kernel_rfl⟩ (sgOf_all' trivial) 156 Tryz.f156 g_spec_l21Unsaid (fun y => (y.1.1.1, y.1.1.2.1, y.1.1.2.2.1, y.1.1.2.2.2.1, y.1.1.2.2.2.2.1, y.1.1.2.2.2.2.2.1)) (by kernel_rfl) (by kernel_rfl) (by kernel_rfl) (by kernel_rfl) (by kernel_rfl) (by kernel_rfl) (fun _ => rfl) (fun x => by kernel_rfl)
-- loop.example/g00051/spec.l21ChangeOk
noncomputable def i_spec_l21ChangeOk : Shape := ⟨[(0, .agg [.str, .int .i64, .int .i64, .int .i64, .int .i64, .int .i64, .int .i64, .str, .str, .int .i64, .sl (.pair (.int .i64) (.pair (.int .i64) (.pair (.int .i64) (.pair (.int .i64) (.pair (.int .i64) (.pair (.int .i64) (.pair .str (.pair .str (.int .i64)))))))))]), (1, .agg [.int .i64, .int .i64, .int .i64, .int .i64, .int .i64, .int .i64, .str, .str, .int .i64])], []⟩
noncomputable def o_spec_l21ChangeOk : Shape := ⟨[(0, .c (.bool))], []⟩
noncomputable def spec_l21ChangeOk (a0 : ByteArray) (a1 : Int) (a2 : Int) (a3 : Int) (a4 : Int) (a5 : Int) (a6 : Int) (a7 : ByteArray) (a8 : ByteArray) (a9 : Int) (a10 : List (Int × Int × Int × Int × Int × Int × ByteArray × ByteArray × Int)) (a11 : Int) (a12 : Int) (a13 : Int) (a14 : Int) (a15 : Int) (a16 : Int) (a17 : ByteArray) (a18 : ByteArray) (a19 : Int) : Option (Bool) :=
  (spec_SkyOk a14 a15 a16 a17 a18 a19).bind fun val => bif !val then some false else spec_l21Unsaid.bind fun val => bif a14 == val.fst && (a15 == val.snd.fst && (a16 == val.snd.snd.fst && (a17.toList == val.snd.snd.snd.fst.toList && (a18.toList == val.snd.snd.snd.snd.fst.toList && a19 == val.snd.snd.snd.snd.snd)))) then some false else bif a11 == 1 then bif a13 == 0 then (spec_l2In a12 a2 (IntKind.i64.wrap (a3 - 1))).bind fun val => bif val then (spec_l21Full a14 a15 a16 a17 a18 a19).bind fun val => some val else some false else some false else (spec_l2In a11 2 4).bind fun val => bif val then bif a12.tmod 60 == 0 then bif a13.tmod 60 == 0 then bif decide (a2 ≤ a12) then bif decide (a12 < a13) then some (decide (a13 ≤ a3)) else some false else some false else some false else some false else some false
noncomputable def g_spec_l21ChangeOk : Sg := ⟨i_spec_l21ChangeOk, o_spec_l21ChangeOk, Bool, fun y => ((y, ()), ()), fun x => spec_l21ChangeOk x.1.1.1 x.1.1.2.1 x.1.1.2.2.1 x.1.1.2.2.2.1 x.1.1.2.2.2.2.1 x.1.1.2.2.2.2.2.1 x.1.1.2.2.2.2.2.2.1 x.1.1.2.2.2.2.2.2.2.1 x.1.1.2.2.2.2.2.2.2.2.1 x.1.1.2.2.2.2.2.2.2.2.2.1 x.1.1.2.2.2.2.2.2.2.2.2.2.1 x.1.2.1.1 x.1.2.1.2.1 x.1.2.1.2.2.1 x.1.2.1.2.2.2.1 x.1.2.1.2.2.2.2.1 x.1.2.1.2.2.2.2.2.1 x.1.2.1.2.2.2.2.2.2.1 x.1.2.1.2.2.2.2.2.2.2.1 x.1.2.1.2.2.2.2.2.2.2.2.1⟩
noncomputable def C_spec_l21ChangeOk : Ctx := ⟨76, tiOf Tryz.prog, gl, sgOf [(28, g_spec_SkyOk), (156, g_spec_l21Unsaid), (77, g_spec_l2In), (78, g_spec_l21Full)], []⟩
theorem e_spec_l21ChangeOk : Sound Tryz.prog gl 79 g_spec_l21ChangeOk :=
  sound_plain (C := C_spec_l21ChangeOk) ⟨fun _ _ h => h, by kernel_rfl⟩ (sgOf_all' ⟨.inl ⟨by kernel_rfl, e_spec_SkyOk⟩, .inl ⟨by kernel_rfl, e_spec_l21Unsaid⟩, .inl ⟨by kernel_rfl, (Sound.mono gl_DT (by rfl) e_spec_l2In)⟩, .inl ⟨by kernel_rfl, e_spec_l21Full⟩, trivial⟩) 79 Tryz.f79 g_spec_l21ChangeOk (fun y => y.1.1) (by kernel_rfl) (by kernel_rfl) (by kernel_rfl) (by kernel_rfl) (by kernel_rfl) (by kernel_rfl) (fun _ => rfl) (fun x => by kernel_rfl)
-- loop.example/g00051/spec.TafOk
noncomputable def i_spec_TafOk : Shape := ⟨[(0, .agg [.str, .int .i64, .int .i64, .int .i64, .int .i64, .int .i64, .int .i64, .str, .str, .int .i64, .sl (.pair (.int .i64) (.pair (.int .i64) (.pair (.int .i64) (.pair (.int .i64) (.pair (.int .i64) (.pair (.int .i64) (.pair .str (.pair .str (.int .i64)))))))))])], []⟩
noncomputable def o_spec_TafOk : Shape := ⟨[(0, .c (.bool))], []⟩
noncomputable def s_spec_TafOk_6 : Shape := ⟨[(1, .c (.ptr 0 0)), (4, .c (.int .i64)), (5, .c (.int .i64))], [.box 28 [.str, .int .i64, .int .i64, .int .i64, .int .i64, .int .i64, .int .i64, .str, .str, .int .i64, .sl (.pair (.int .i64) (.pair (.int .i64) (.pair (.int .i64) (.pair (.int .i64) (.pair (.int .i64) (.pair (.int .i64) (.pair .str (.pair .str (.int .i64)))))))))]]⟩
noncomputable def spec_TafOk_L6 : Nat → Int → Int → ByteArray → Int → Int → Int → Int → Int → Int → ByteArray → ByteArray → Int → (List (Int × Int × Int × Int × Int × Int × ByteArray × ByteArray × Int)) → Option (Bool)
  | 0, _, _, _, _, _, _, _, _, _, _, _, _, _ => none
  | k + 1, a0, a1, a2, a3, a4, a5, a6, a7, a8, a9, a10, a11, a12 =>
  bif decide (a1 < (↑a12.length : Int)) then
   bif decide (0 ≤ a1) then
    bif decide (a1 < (↑a12.length : Int)) then
     (spec_l21ChangeOk a2 a3 a4 a5 a6 a7 a8 a9 a10 a11 a12 (rd K9_SA0 a12 a1).fst (rd K9_SA0 a12 a1).snd.fst (rd K9_SA0 a12 a1).snd.snd.fst (rd K9_SA0 a12 a1).snd.snd.snd.fst (rd K9_SA0 a12 a1).snd.snd.snd.snd.fst
        (rd K9_SA0 a12 a1).snd.snd.snd.snd.snd.fst (rd K9_SA0 a12 a1).snd.snd.snd.snd.snd.snd.fst (rd K9_SA0 a12 a1).snd.snd.snd.snd.snd.snd.snd.fst (rd K9_SA0 a12 a1).snd.snd.snd.snd.snd.snd.snd.snd).bind
      fun val =>
      bif !val then some false
      else
       bif decide (a1 > 0) then
        bif decide (0 ≤ IntKind.i64.wrap (a1 - 1)) then
         bif decide (IntKind.i64.wrap (a1 - 1) < (↑a12.length : Int)) then
          bif decide ((rd K9_SA0 a12 a1).snd.fst < (rd K9_SA0 a12 (IntKind.i64.wrap (a1 - 1))).snd.fst) then some false
          else
           bif (rd K9_SA0 a12 a1).fst == 1 then
            bif decide ((rd K9_SA0 a12 a1).snd.fst < a0) then some false else spec_TafOk_L6 k (if (rd K9_SA0 a12 a1).snd.snd.fst > (rd K9_SA0 a12 a1).snd.fst then (rd K9_SA0 a12 a1).snd.snd.fst else (rd K9_SA0 a12 a1).snd.fst) (IntKind.i64.wrap (a1 + 1)) a2 a3 a4 a5 a6 a7 a8 a9 a10 a11 a12
           else
            bif (rd K9_SA0 a12 a1).fst == 2 then
             bif decide ((rd K9_SA0 a12 a1).snd.fst < a0) then some false else spec_TafOk_L6 k (if (rd K9_SA0 a12 a1).snd.snd.fst > (rd K9_SA0 a12 a1).snd.fst then (rd K9_SA0 a12 a1).snd.snd.fst else (rd K9_SA0 a12 a1).snd.fst) (IntKind.i64.wrap (a1 + 1)) a2 a3 a4 a5 a6 a7 a8 a9 a10 a11 a12
            else spec_TafOk_L6 k a0 (IntKind.i64.wrap (a1 + 1)) a2 a3 a4 a5 a6 a7 a8 a9 a10 a11 a12
         else none
        else none
       else
        bif (rd K9_SA0 a12 a1).fst == 1 then
         bif decide ((rd K9_SA0 a12 a1).snd.fst < a0) then some false else spec_TafOk_L6 k (if (rd K9_SA0 a12 a1).snd.snd.fst > (rd K9_SA0 a12 a1).snd.fst then (rd K9_SA0 a12 a1).snd.snd.fst else (rd K9_SA0 a12 a1).snd.fst) (IntKind.i64.wrap (a1 + 1)) a2 a3 a4 a5 a6 a7 a8 a9 a10 a11 a12
        else
         bif (rd K9_SA0 a12 a1).fst == 2 then
          bif decide ((rd K9_SA0 a12 a1).snd.fst < a0) then some false else spec_TafOk_L6 k (if (rd K9_SA0 a12 a1).snd.snd.fst > (rd K9_SA0 a12 a1).snd.fst then (rd K9_SA0 a12 a1).snd.snd.fst else (rd K9_SA0 a12 a1).snd.fst) (IntKind.i64.wrap (a1 + 1)) a2 a3 a4 a5 a6 a7 a8 a9 a10 a11 a12
         else spec_TafOk_L6 k a0 (IntKind.i64.wrap (a1 + 1)) a2 a3 a4 a5 a6 a7 a8 a9 a10 a11 a12
    else none
   else none
  else some true
noncomputable def j_spec_TafOk : List (Nat × (Nat → Cut (Bool))) := [(6, fun k => ⟨s_spec_TafOk_6, fun x => spec_TafOk_L6 k x.1.2.1 x.1.2.2.1 x.2.1.1 x.2.1.2.1 x.2.1.2.2.1 x.2.1.2.2.2.1 x.2.1.2.2.2.2.1 x.2.1.2.2.2.2.2.1 x.2.1.2.2.2.2.2.2.1 x.2.1.2.2.2.2.2.2.2.1 x.2.1.2.2.2.2.2.2.2.2.1 x.2.1.2.2.2.2.2.2.2.2.2.1 x.2.1.2.2.2.2.2.2.2.2.2.2.1⟩)]
noncomputable def spec_TafOk_F (k : Nat) (a0 : ByteArray) (a1 : Int) (a2 : Int) (a3 : Int) (a4 : Int) (a5 : Int) (a6 : Int) (a7 : ByteArray) (a8 : ByteArray) (a9 : Int) (a10 : List (Int × Int × Int × Int × Int × Int × ByteArray × ByteArray × Int)) : Option (Bool) :=
  (spec_l4CentreOk a0).bind fun val => bif !val then some false else (spec_l2Time a1).bind fun val => bif !val then some false else (spec_l2SpanOk a2 a3).bind fun val => bif !val then some false else bif a2.tmod 60 != 0 then some false else bif a3.tmod 60 != 0 then some false else (spec_l2In (IntKind.i64.wrap (a3 - a2)) 60 2160).bind fun val => bif !val then some false else (spec_l2In (IntKind.i64.wrap (a2 - a1)) (-1440) 1440).bind fun val => bif !val then some false else (spec_l21Full a4 a5 a6 a7 a8 a9).bind fun val => bif !val then some false else bif decide ((↑a10.length : Int) > 10) then some false else spec_TafOk_L6 k 0 0 a0 a1 a2 a3 a4 a5 a6 a7 a8 a9 a10
noncomputable def spec_TafOk (a0 : ByteArray) (a1 : Int) (a2 : Int) (a3 : Int) (a4 : Int) (a5 : Int) (a6 : Int) (a7 : ByteArray) (a8 : ByteArray) (a9 : Int) (a10 : List (Int × Int × Int × Int × Int × Int × ByteArray × ByteArray × Int)) : Option (Bool) := evF fun k => spec_TafOk_F k a0 a1 a2 a3 a4 a5 a6 a7 a8 a9 a10
noncomputable def g_spec_TafOk : Sg := ⟨i_spec_TafOk, o_spec_TafOk, Bool, fun y => ((y, ()), ()), fun x => spec_TafOk x.1.1.1 x.1.1.2.1 x.1.1.2.2.1 x.1.1.2.2.2.1 x.1.1.2.2.2.2.1 x.1.1.2.2.2.2.2.1 x.1.1.2.2.2.2.2.2.1 x.1.1.2.2.2.2.2.2.2.1 x.1.1.2.2.2.2.2.2.2.2.1 x.1.1.2.2.2.2.2.2.2.2.2.1 x.1.1.2.2.2.2.2.2.2.2.2.2.1⟩
noncomputable def C_spec_TafOk : Ctx := ⟨115, tiOf Tryz.prog, gl, sgOf [(74, g_spec_l4CentreOk), (75, g_spec_l2Time), (76, g_spec_l2SpanOk), (77, g_spec_l2In), (78, g_spec_l21Full), (79, g_spec_l21ChangeOk)], []⟩
theorem e_spec_TafOk : Sound Tryz.prog gl 19 g_spec_TafOk :=
  sound_cuts (C := C_spec_TafOk) ⟨fun _ _ h => h, by kernel_rfl⟩ (sgOf_all' ⟨.inl ⟨by kernel_rfl, e_spec_l4CentreOk⟩, .inl ⟨by kernel_rfl, (Sound.mono gl_DT (by rfl) e_spec_l2Time)⟩, .inl ⟨by kernel_rfl, e_spec_l2SpanOk⟩, .inl ⟨by kernel_rfl, (Sound.mono gl_DT (by rfl) e_spec_l2In)⟩, .inl ⟨by kernel_rfl, e_spec_l21Full⟩, .inl ⟨by kernel_rfl, e_spec_l21ChangeOk⟩, trivial⟩) 19 Tryz.f19 g_spec_TafOk (fun y => y.1.1) j_spec_TafOk 1 (by kernel_rfl) (by kernel_rfl) (by kernel_rfl) (by kernel_rfl) (by kernel_rfl) (by kernel_rfl) (fun _ => rfl) (by kernel_rfl) (by kernel_rfl)
    ⟨trivial, s_spec_TafOk_6, fun k x => spec_TafOk_L6 k x.1.2.1 x.1.2.2.1 x.2.1.1 x.2.1.2.1 x.2.1.2.2.1 x.2.1.2.2.2.1 x.2.1.2.2.2.2.1 x.2.1.2.2.2.2.2.1 x.2.1.2.2.2.2.2.2.1 x.2.1.2.2.2.2.2.2.2.1 x.2.1.2.2.2.2.2.2.2.2.1 x.2.1.2.2.2.2.2.2.2.2.2.1 x.2.1.2.2.2.2.2.2.2.2.2.2.1, ⟨fun k => by kernel_rfl, fun k y => by kernel_rfl, fun y => by kernel_rfl⟩⟩
    (fun k x => spec_TafOk_F k x.1.1.1 x.1.1.2.1 x.1.1.2.2.1 x.1.1.2.2.2.1 x.1.1.2.2.2.2.1 x.1.1.2.2.2.2.2.1 x.1.1.2.2.2.2.2.2.1 x.1.1.2.2.2.2.2.2.2.1 x.1.1.2.2.2.2.2.2.2.2.1 x.1.1.2.2.2.2.2.2.2.2.2.1 x.1.1.2.2.2.2.2.2.2.2.2.2.1) (fun x => rfl) (fun k x => by kernel_rfl)
-- loop.example/g00051/impl.Laid
noncomputable def i_impl_Laid : Shape := ⟨[(0, .agg [.int .i64, .int .i64, .int .i64, .str, .str, .int .i64]), (1, .agg [.int .i64, .int .i64, .int .i64, .str, .str, .int .i64])], []⟩
noncomputable def o_impl_Laid : Shape := ⟨[(0, .agg [.int .i64, .int .i64, .int .i64, .str, .str, .int .i64])], []⟩
noncomputable def impl_Laid (a0 : Int) (a1 : Int) (a2 : Int) (a3 : ByteArray) (a4 : ByteArray) (a5 : Int) (a6 : Int) (a7 : Int) (a8 : Int) (a9 : ByteArray) (a10 : ByteArray) (a11 : Int) : Option (Int × Int × Int × ByteArray × ByteArray × Int) :=
  (impl_SkyOk a0 a1 a2 a3 a4 a5).bind fun val => bif !val then some (0, 0, 0, bs [], bs [], 0) else (impl_SkyOk a6 a7 a8 a9 a10 a11).bind fun val => bif !val then some (0, 0, 0, bs [], bs [], 0) else (impl_said a6 a7 a8 a9 a10 a11).bind fun val => bif val.fst then bif val.snd.fst then bif val.snd.snd.fst then bif val.snd.snd.snd then some (a6, a7, a8, a9, a10, a11) else some (a6, a7, a8, a9, a4, a5) else bif val.snd.snd.snd then some (a6, a7, a8, a3, a10, a11) else some (a6, a7, a8, a3, a4, a5) else bif val.snd.snd.fst then bif val.snd.snd.snd then some (a6, a7, a2, a9, a10, a11) else some (a6, a7, a2, a9, a4, a5) else bif val.snd.snd.snd then some (a6, a7, a2, a3, a10, a11) else some (a6, a7, a2, a3, a4, a5) else bif val.snd.fst then bif val.snd.snd.fst then bif val.snd.snd.snd then some (a0, a1, a8, a9, a10, a11) else some (a0, a1, a8, a9, a4, a5) else bif val.snd.snd.snd then some (a0, a1, a8, a3, a10, a11) else some (a0, a1, a8, a3, a4, a5) else bif val.snd.snd.fst then bif val.snd.snd.snd then some (a0, a1, a2, a9, a10, a11) else some (a0, a1, a2, a9, a4, a5) else bif val.snd.snd.snd then some (a0, a1, a2, a3, a10, a11) else some (a0, a1, a2, a3, a4, a5)
noncomputable def g_impl_Laid : Sg := ⟨i_impl_Laid, o_impl_Laid, Int × Int × Int × ByteArray × ByteArray × Int, fun y => (((y.1, y.2.1, y.2.2.1, y.2.2.2.1, y.2.2.2.2.1, y.2.2.2.2.2, ()), ()), ()), fun x => impl_Laid x.1.1.1 x.1.1.2.1 x.1.1.2.2.1 x.1.1.2.2.2.1 x.1.1.2.2.2.2.1 x.1.1.2.2.2.2.2.1 x.1.2.1.1 x.1.2.1.2.1 x.1.2.1.2.2.1 x.1.2.1.2.2.2.1 x.1.2.1.2.2.2.2.1 x.1.2.1.2.2.2.2.2.1⟩
noncomputable def C_impl_Laid : Ctx := ⟨44, tiOf Tryz.prog, gl, sgOf [(86, g_impl_SkyOk), (87, g_impl_said)], []⟩
theorem e_impl_Laid : Sound Tryz.prog gl 96 g_impl_Laid :=
  sound_plain (C := C_impl_Laid) ⟨fun _ _ h => h, by kernel_rfl⟩ (sgOf_all' ⟨.inl ⟨by kernel_rfl, e_impl_SkyOk⟩, .inl ⟨by kernel_rfl, e_impl_said⟩, trivial⟩) 96 Tryz.f96 g_impl_Laid (fun y => (y.1.1.1, y.1.1.2.1, y.1.1.2.2.1, y.1.1.2.2.2.1, y.1.1.2.2.2.2.1, y.1.1.2.2.2.2.2.1)) (by kernel_rfl) (by kernel_rfl) (by kernel_rfl) (by kernel_rfl) (by kernel_rfl) (by kernel_rfl) (fun _ => rfl) (fun x => by kernel_rfl)
-- loop.example/g00051/impl.StateAt
noncomputable def i_impl_StateAt : Shape := ⟨[(0, .agg [.str, .int .i64, .int .i64, .int .i64, .int .i64, .int .i64, .int .i64, .str, .str, .int .i64, .sl (.pair (.int .i64) (.pair (.int .i64) (.pair (.int .i64) (.pair (.int .i64) (.pair (.int .i64) (.pair (.int .i64) (.pair .str (.pair .str (.int .i64)))))))))]), (1, .c (.int .i64))], []⟩
noncomputable def o_impl_StateAt : Shape := ⟨[(0, .tup [(true, [.int .i64, .int .i64, .int .i64, .str, .str, .int .i64]), (false, [.ref 0]), (false, [.bool])])], [.lst 25 (.pair (.int .i64) (.pair (.int .i64) (.pair (.int .i64) (.pair .str (.pair .str (.int .i64))))))]⟩
noncomputable def s_impl_StateAt_5 : Shape := ⟨[(1, .c (.int .i64)), (2, .c (.ptr 0 0)), (4, .c (.ptr 1 0)), (7, .c (.ptr 2 0)), (34, .c (.sl (.pair (.int .i64) (.pair (.int .i64) (.pair (.int .i64) (.pair (.int .i64) (.pair (.int .i64) (.pair (.int .i64) (.pair .str (.pair .str (.int .i64))))))))))), (35, .c (.int .i64)), (36, .c (.int .i64))], [.box 28 [.str, .int .i64, .int .i64, .int .i64, .int .i64, .int .i64, .int .i64, .str, .str, .int .i64, .sl (.pair (.int .i64) (.pair (.int .i64) (.pair (.int .i64) (.pair (.int .i64) (.pair (.int .i64) (.pair (.int .i64) (.pair .str (.pair .str (.int .i64)))))))))], .box 25 [.int .i64, .int .i64, .int .i64, .str, .str, .int .i64], .box 25 [.int .i64, .int .i64, .int .i64, .str, .str, .int .i64]]⟩
noncomputable def s_impl_StateAt_14 : Shape := ⟨[(1, .c (.int .i64)), (4, .c (.ptr 0 0)), (7, .c (.ptr 1 0)), (10, .c (.ref 2)), (69, .c (.sl (.pair (.int .i64) (.pair (.int .i64) (.pair (.int .i64) (.pair (.int .i64) (.pair (.int .i64) (.pair (.int .i64) (.pair .str (.pair .str (.int .i64))))))))))), (70, .c (.int .i64)), (71, .c (.int .i64))], [.box 25 [.int .i64, .int .i64, .int .i64, .str, .str, .int .i64], .box 25 [.int .i64, .int .i64, .int .i64, .str, .str, .int .i64], .lst 25 (.pair (.int .i64) (.pair (.int .i64) (.pair (.int .i64) (.pair .str (.pair .str (.int .i64))))))]⟩
mutual
noncomputable def impl_StateAt_L5 : Nat → Int → (List (Int × Int × Int × Int × Int × Int × ByteArray × ByteArray × Int)) → Int → Int → ByteArray → Int → Int → Int → Int → Int → Int → ByteArray → ByteArray → Int → (List (Int × Int × Int × Int × Int × Int × ByteArray × ByteArray × Int)) → Int → Int → Int → ByteArray → ByteArray → Int → Int → Int → Int → ByteArray → ByteArray → Int → Option (Int × Int × Int × ByteArray × ByteArray × Int × Bool × (List (Int × Int × Int × ByteArray × ByteArray × Int)))
  | 0, _, _, _, _, _, _, _, _, _, _, _, _, _, _, _, _, _, _, _, _, _, _, _, _, _, _, _ => none
  | k + 1, a0, a1, a2, a3, a4, a5, a6, a7, a8, a9, a10, a11, a12, a13, a14, a15, a16, a17, a18, a19, a20, a21, a22, a23, a24, a25, a26 =>
  bif decide (a3 < a2) then
   bif decide (0 ≤ a3) then
    bif decide (a3 < (↑a1.length : Int)) then
     bif (rd K9_SA0 a1 a3).fst == 1 then
      bif decide ((rd K9_SA0 a1 a3).snd.fst ≤ a0) then
       impl_StateAt_L5 k a0 a1 a2 (IntKind.i64.wrap (a3 + 1)) a4 a5 a6 a7 a8 a9 a10 a11 a12 a13 a14 a15 a16 a17 a18 a19 a20 (rd K9_SA0 a1 a3).snd.snd.snd.fst (rd K9_SA0 a1 a3).snd.snd.snd.snd.fst (rd K9_SA0 a1 a3).snd.snd.snd.snd.snd.fst (rd K9_SA0 a1 a3).snd.snd.snd.snd.snd.snd.fst (rd K9_SA0 a1 a3).snd.snd.snd.snd.snd.snd.snd.fst
        (rd K9_SA0 a1 a3).snd.snd.snd.snd.snd.snd.snd.snd
      else
       bif (rd K9_SA0 a1 a3).fst == 2 then
        bif decide ((rd K9_SA0 a1 a3).snd.snd.fst ≤ a0) then
         (impl_Laid a21 a22 a23 a24 a25 a26 (rd K9_SA0 a1 a3).snd.snd.snd.fst (rd K9_SA0 a1 a3).snd.snd.snd.snd.fst (rd K9_SA0 a1 a3).snd.snd.snd.snd.snd.fst (rd K9_SA0 a1 a3).snd.snd.snd.snd.snd.snd.fst (rd K9_SA0 a1 a3).snd.snd.snd.snd.snd.snd.snd.fst
            (rd K9_SA0 a1 a3).snd.snd.snd.snd.snd.snd.snd.snd).bind
          fun val => impl_StateAt_L5 k a0 a1 a2 (IntKind.i64.wrap (a3 + 1)) a4 a5 a6 a7 a8 a9 a10 a11 a12 a13 a14 a15 a16 a17 a18 a19 a20 val.fst val.snd.fst val.snd.snd.fst val.snd.snd.snd.fst val.snd.snd.snd.snd.fst val.snd.snd.snd.snd.snd
        else impl_StateAt_L5 k a0 a1 a2 (IntKind.i64.wrap (a3 + 1)) a4 a5 a6 a7 a8 a9 a10 a11 a12 a13 a14 a15 a16 a17 a18 a19 a20 a21 a22 a23 a24 a25 a26
       else impl_StateAt_L5 k a0 a1 a2 (IntKind.i64.wrap (a3 + 1)) a4 a5 a6 a7 a8 a9 a10 a11 a12 a13 a14 a15 a16 a17 a18 a19 a20 a21 a22 a23 a24 a25 a26
     else
      bif (rd K9_SA0 a1 a3).fst == 2 then
       bif decide ((rd K9_SA0 a1 a3).snd.snd.fst ≤ a0) then
        (impl_Laid a21 a22 a23 a24 a25 a26 (rd K9_SA0 a1 a3).snd.snd.snd.fst (rd K9_SA0 a1 a3).snd.snd.snd.snd.fst (rd K9_SA0 a1 a3).snd.snd.snd.snd.snd.fst (rd K9_SA0 a1 a3).snd.snd.snd.snd.snd.snd.fst (rd K9_SA0 a1 a3).snd.snd.snd.snd.snd.snd.snd.fst
           (rd K9_SA0 a1 a3).snd.snd.snd.snd.snd.snd.snd.snd).bind
         fun val => impl_StateAt_L5 k a0 a1 a2 (IntKind.i64.wrap (a3 + 1)) a4 a5 a6 a7 a8 a9 a10 a11 a12 a13 a14 a15 a16 a17 a18 a19 a20 val.fst val.snd.fst val.snd.snd.fst val.snd.snd.snd.fst val.snd.snd.snd.snd.fst val.snd.snd.snd.snd.snd
       else impl_StateAt_L5 k a0 a1 a2 (IntKind.i64.wrap (a3 + 1)) a4 a5 a6 a7 a8 a9 a10 a11 a12 a13 a14 a15 a16 a17 a18 a19 a20 a21 a22 a23 a24 a25 a26
      else impl_StateAt_L5 k a0 a1 a2 (IntKind.i64.wrap (a3 + 1)) a4 a5 a6 a7 a8 a9 a10 a11 a12 a13 a14 a15 a16 a17 a18 a19 a20 a21 a22 a23 a24 a25 a26
    else none
   else none
  else impl_StateAt_L14 k a0 a14 (↑a14.length : Int) 0 a15 a16 a17 a18 a19 a20 a21 a22 a23 a24 a25 a26 []
noncomputable def impl_StateAt_L14 : Nat → Int → (List (Int × Int × Int × Int × Int × Int × ByteArray × ByteArray × Int)) → Int → Int → Int → Int → Int → ByteArray → ByteArray → Int → Int → Int → Int → ByteArray → ByteArray → Int → (List (Int × Int × Int × ByteArray × ByteArray × Int)) → Option (Int × Int × Int × ByteArray × ByteArray × Int × Bool × (List (Int × Int × Int × ByteArray × ByteArray × Int)))
  | 0, _, _, _, _, _, _, _, _, _, _, _, _, _, _, _, _, _ => none
  | k + 1, a0, a1, a2, a3, a4, a5, a6, a7, a8, a9, a10, a11, a12, a13, a14, a15, a16 =>
  bif decide (a3 < a2) then
   bif decide (0 ≤ a3) then
    bif decide (a3 < (↑a1.length : Int)) then
     bif (rd K9_SA0 a1 a3).fst != 1 then
      bif decide ((rd K9_SA0 a1 a3).snd.fst ≤ a0) then
       bif decide (a0 < (rd K9_SA0 a1 a3).snd.snd.fst) then
        (impl_Laid a10 a11 a12 a13 a14 a15 (rd K9_SA0 a1 a3).snd.snd.snd.fst (rd K9_SA0 a1 a3).snd.snd.snd.snd.fst (rd K9_SA0 a1 a3).snd.snd.snd.snd.snd.fst (rd K9_SA0 a1 a3).snd.snd.snd.snd.snd.snd.fst (rd K9_SA0 a1 a3).snd.snd.snd.snd.snd.snd.snd.fst
           (rd K9_SA0 a1 a3).snd.snd.snd.snd.snd.snd.snd.snd).bind
         fun val => bif decide (a16.length + [(val.fst, val.snd.fst, val.snd.snd.fst, val.snd.snd.snd.fst, val.snd.snd.snd.snd.fst, val.snd.snd.snd.snd.snd)].length ≤ maxBytes / 64) then impl_StateAt_L14 k a0 a1 a2 (IntKind.i64.wrap (a3 + 1)) a4 a5 a6 a7 a8 a9 a10 a11 a12 a13 a14 a15 (a16 ++ [(val.fst, val.snd.fst, val.snd.snd.fst, val.snd.snd.snd.fst, val.snd.snd.snd.snd.fst, val.snd.snd.snd.snd.snd)]) else none
       else impl_StateAt_L14 k a0 a1 a2 (IntKind.i64.wrap (a3 + 1)) a4 a5 a6 a7 a8 a9 a10 a11 a12 a13 a14 a15 a16
      else impl_StateAt_L14 k a0 a1 a2 (IntKind.i64.wrap (a3 + 1)) a4 a5 a6 a7 a8 a9 a10 a11 a12 a13 a14 a15 a16
     else impl_StateAt_L14 k a0 a1 a2 (IntKind.i64.wrap (a3 + 1)) a4 a5 a6 a7 a8 a9 a10 a11 a12 a13 a14 a15 a16
    else none
   else none
  else some (a10, a11, a12, a13, a14, a15, true, a16)
end
noncomputable def j_impl_StateAt : List (Nat × (Nat → Cut (Int × Int × Int × ByteArray × ByteArray × Int × Bool × (List (Int × Int × Int × ByteArray × ByteArray × Int))))) := [(5, fun k => ⟨s_impl_StateAt_5, fun x => impl_StateAt_L5 k x.1.1 x.1.2.2.2.2.1 x.1.2.2.2.2.2.1 x.1.2.2.2.2.2.2.1 x.2.1.1 x.2.1.2.1 x.2.1.2.2.1 x.2.1.2.2.2.1 x.2.1.2.2.2.2.1 x.2.1.2.2.2.2.2.1 x.2.1.2.2.2.2.2.2.1 x.2.1.2.2.2.2.2.2.2.1 x.2.1.2.2.2.2.2.2.2.2.1 x.2.1.2.2.2.2.2.2.2.2.2.1 x.2.1.2.2.2.2.2.2.2.2.2.2.1 x.2.2.1.1 x.2.2.1.2.1 x.2.2.1.2.2.1 x.2.2.1.2.2.2.1 x.2.2.1.2.2.2.2.1 x.2.2.1.2.2.2.2.2.1 x.2.2.2.1.1 x.2.2.2.1.2.1 x.2.2.2.1.2.2.1 x.2.2.2.1.2.2.2.1 x.2.2.2.1.2.2.2.2.1 x.2.2.2.1.2.2.2.2.2.1⟩), (14, fun k => ⟨s_impl_StateAt_14, fun x => impl_StateAt_L14 k x.1.1 x.1.2.2.2.2.1 x.1.2.2.2.2.2.1 x.1.2.2.2.2.2.2.1 x.2.1.1 x.2.1.2.1 x.2.1.2.2.1 x.2.1.2.2.2.1 x.2.1.2.2.2.2.1 x.2.1.2.2.2.2.2.1 x.2.2.1.1 x.2.2.1.2.1 x.2.2.1.2.2.1 x.2.2.1.2.2.2.1 x.2.2.1.2.2.2.2.1 x.2.2.1.2.2.2.2.2.1 x.2.2.2.1⟩)]
noncomputable def impl_StateAt_F (k : Nat) (a0 : ByteArray) (a1 : Int) (a2 : Int) (a3 : Int) (a4 : Int) (a5 : Int) (a6 : Int) (a7 : ByteArray) (a8 : ByteArray) (a9 : Int) (a10 : List (Int × Int × Int × Int × Int × Int × ByteArray × ByteArray × Int)) (a11 : Int) : Option (Int × Int × Int × ByteArray × ByteArray × Int × Bool × (List (Int × Int × Int × ByteArray × ByteArray × Int))) :=
  (impl_TafOk a0 a1 a2 a3 a4 a5 a6 a7 a8 a9 a10).bind fun val => bif !val then some (0, 0, 0, bs [], bs [], 0, false, []) else bif decide (a11 < a2) then some (0, 0, 0, bs [], bs [], 0, false, []) else bif decide (a11 ≥ a3) then some (0, 0, 0, bs [], bs [], 0, false, []) else impl_StateAt_L5 k a11 a10 (↑a10.length : Int) 0 a0 a1 a2 a3 a4 a5 a6 a7 a8 a9 a10 0 0 0 (bs []) (bs []) 0 a4 a5 a6 a7 a8 a9
noncomputable def impl_StateAt (a0 : ByteArray) (a1 : Int) (a2 : Int) (a3 : Int) (a4 : Int) (a5 : Int) (a6 : Int) (a7 : ByteArray) (a8 : ByteArray) (a9 : Int) (a10 : List (Int × Int × Int × Int × Int × Int × ByteArray × ByteArray × Int)) (a11 : Int) : Option (Int × Int × Int × ByteArray × ByteArray × Int × Bool × (List (Int × Int × Int × ByteArray × ByteArray × Int))) := evF fun k => impl_StateAt_F k a0 a1 a2 a3 a4 a5 a6 a7 a8 a9 a10 a11
noncomputable def g_impl_StateAt : Sg := ⟨i_impl_StateAt, o_impl_StateAt, Int × Int × Int × ByteArray × ByteArray × Int × Bool × (List (Int × Int × Int × ByteArray × ByteArray × Int)), fun y => ((((y.1, y.2.1, y.2.2.1, y.2.2.2.1, y.2.2.2.2.1, y.2.2.2.2.2.1, ()), ((), ()), (y.2.2.2.2.2.2.1, ()), ()), ()), (y.2.2.2.2.2.2.2, ())), fun x => impl_StateAt x.1.1.1 x.1.1.2.1 x.1.1.2.2.1 x.1.1.2.2.2.1 x.1.1.2.2.2.2.1 x.1.1.2.2.2.2.2.1 x.1.1.2.2.2.2.2.2.1 x.1.1.2.2.2.2.2.2.2.1 x.1.1.2.2.2.2.2.2.2.2.1 x.1.1.2.2.2.2.2.2.2.2.2.1 x.1.1.2.2.2.2.2.2.2.2.2.2.1 x.1.2.1⟩
noncomputable def C_impl_StateAt : Ctx := ⟨100, tiOf Tryz.prog, gl, sgOf [(20, g_impl_TafOk), (96, g_impl_Laid)], []⟩
theorem e_impl_StateAt : Sound Tryz.prog gl 27 g_impl_StateAt :=
  sound_cuts (C := C_impl_StateAt) ⟨fun _ _ h => h, by kernel_rfl⟩ (sgOf_all' ⟨.inl ⟨by kernel_rfl, e_impl_TafOk⟩, .inl ⟨by kernel_rfl, e_impl_Laid⟩, trivial⟩) 27 Tryz.f27 g_impl_StateAt (fun y => (y.1.1.1.1, y.1.1.1.2.1, y.1.1.1.2.2.1, y.1.1.1.2.2.2.1, y.1.1.1.2.2.2.2.1, y.1.1.1.2.2.2.2.2.1, y.1.1.2.2.1.1, y.2.1)) j_impl_StateAt 2 (by kernel_rfl) (by kernel_rfl) (by kernel_rfl) (by kernel_rfl) (by kernel_rfl) (by kernel_rfl) (fun _ => rfl) (by kernel_rfl) (by kernel_rfl)
    ⟨⟨trivial, s_impl_StateAt_5, fun k x => impl_StateAt_L5 k x.1.1 x.1.2.2.2.2.1 x.1.2.2.2.2.2.1 x.1.2.2.2.2.2.2.1 x.2.1.1 x.2.1.2.1 x.2.1.2.2.1 x.2.1.2.2.2.1 x.2.1.2.2.2.2.1 x.2.1.2.2.2.2.2.1 x.2.1.2.2.2.2.2.2.1 x.2.1.2.2.2.2.2.2.2.1 x.2.1.2.2.2.2.2.2.2.2.1 x.2.1.2.2.2.2.2.2.2.2.2.1 x.2.1.2.2.2.2.2.2.2.2.2.2.1 x.2.2.1.1 x.2.2.1.2.1 x.2.2.1.2.2.1 x.2.2.1.2.2.2.1 x.2.2.1.2.2.2.2.1 x.2.2.1.2.2.2.2.2.1 x.2.2.2.1.1 x.2.2.2.1.2.1 x.2.2.2.1.2.2.1 x.2.2.2.1.2.2.2.1 x.2.2.2.1.2.2.2.2.1 x.2.2.2.1.2.2.2.2.2.1, ⟨fun k => by kernel_rfl, fun k y => by kernel_rfl, fun y => by kernel_rfl⟩⟩, s_impl_StateAt_14, fun k x => impl_StateAt_L14 k x.1.1 x.1.2.2.2.2.1 x.1.2.2.2.2.2.1 x.1.2.2.2.2.2.2.1 x.2.1.1 x.2.1.2.1 x.2.1.2.2.1 x.2.1.2.2.2.1 x.2.1.2.2.2.2.1 x.2.1.2.2.2.2.2.1 x.2.2.1.1 x.2.2.1.2.1 x.2.2.1.2.2.1 x.2.2.1.2.2.2.1 x.2.2.1.2.2.2.2.1 x.2.2.1.2.2.2.2.2.1 x.2.2.2.1, ⟨fun k => by kernel_rfl, fun k y => by kernel_rfl, fun y => by kernel_rfl⟩⟩
    (fun k x => impl_StateAt_F k x.1.1.1 x.1.1.2.1 x.1.1.2.2.1 x.1.1.2.2.2.1 x.1.1.2.2.2.2.1 x.1.1.2.2.2.2.2.1 x.1.1.2.2.2.2.2.2.1 x.1.1.2.2.2.2.2.2.2.1 x.1.1.2.2.2.2.2.2.2.2.1 x.1.1.2.2.2.2.2.2.2.2.2.1 x.1.1.2.2.2.2.2.2.2.2.2.2.1 x.1.2.1) (fun x => rfl) (fun k x => by kernel_rfl)
-- loop.example/g00051/spec.Laid
noncomputable def i_spec_Laid : Shape := ⟨[(0, .agg [.int .i64, .int .i64, .int .i64, .str, .str, .int .i64]), (1, .agg [.int .i64, .int .i64, .int .i64, .str, .str, .int .i64])], []⟩
noncomputable def o_spec_Laid : Shape := ⟨[(0, .agg [.int .i64, .int .i64, .int .i64, .str, .str, .int .i64])], []⟩
noncomputable def spec_Laid (a0 : Int) (a1 : Int) (a2 : Int) (a3 : ByteArray) (a4 : ByteArray) (a5 : Int) (a6 : Int) (a7 : Int) (a8 : Int) (a9 : ByteArray) (a10 : ByteArray) (a11 : Int) : Option (Int × Int × Int × ByteArray × ByteArray × Int) :=
  (spec_SkyOk a0 a1 a2 a3 a4 a5).bind fun val => bif !val then some (0, 0, 0, bs [], bs [], 0) else (spec_SkyOk a6 a7 a8 a9 a10 a11).bind fun val => bif !val then some (0, 0, 0, bs [], bs [], 0) else bif a6 != -1 then bif a8 != -1 then bif !a9.toList == (bs []).toList then bif !a10.toList == (bs []).toList then some (a6, a7, a8, a9, a10, a11) else some (a6, a7, a8, a9, a4, a5) else bif !a10.toList == (bs []).toList then some (a6, a7, a8, a3, a10, a11) else some (a6, a7, a8, a3, a4, a5) else bif !a9.toList == (bs []).toList then bif !a10.toList == (bs []).toList then some (a6, a7, a2, a9, a10, a11) else some (a6, a7, a2, a9, a4, a5) else bif !a10.toList == (bs []).toList then some (a6, a7, a2, a3, a10, a11) else some (a6, a7, a2, a3, a4, a5) else bif a8 != -1 then bif !a9.toList == (bs []).toList then bif !a10.toList == (bs []).toList then some (a0, a1, a8, a9, a10, a11) else some (a0, a1, a8, a9, a4, a5) else bif !a10.toList == (bs []).toList then some (a0, a1, a8, a3, a10, a11) else some (a0, a1, a8, a3, a4, a5) else bif !a9.toList == (bs []).toList then bif !a10.toList == (bs []).toList then some (a0, a1, a2, a9, a10, a11) else some (a0, a1, a2, a9, a4, a5) else bif !a10.toList == (bs []).toList then some (a0, a1, a2, a3, a10, a11) else some (a0, a1, a2, a3, a4, a5)
noncomputable def g_spec_Laid : Sg := ⟨i_spec_Laid, o_spec_Laid, Int × Int × Int × ByteArray × ByteArray × Int, fun y => (((y.1, y.2.1, y.2.2.1, y.2.2.2.1, y.2.2.2.2.1, y.2.2.2.2.2, ()), ()), ()), fun x => spec_Laid x.1.1.1 x.1.1.2.1 x.1.1.2.2.1 x.1.1.2.2.2.1 x.1.1.2.2.2.2.1 x.1.1.2.2.2.2.2.1 x.1.2.1.1 x.1.2.1.2.1 x.1.2.1.2.2.1 x.1.2.1.2.2.2.1 x.1.2.1.2.2.2.2.1 x.1.2.1.2.2.2.2.2.1⟩
noncomputable def C_spec_Laid : Ctx := ⟨45, tiOf Tryz.prog, gl, sgOf [(28, g_spec_SkyOk)], []⟩
theorem e_spec_Laid : Sound Tryz.prog gl 184 g_spec_Laid :=
  sound_plain (C := C_spec_Laid) ⟨fun _ _ h => h, by kernel_rfl⟩ (sgOf_all' ⟨.inl ⟨by kernel_rfl, e_spec_SkyOk⟩, trivial⟩) 184 Tryz.f184 g_spec_Laid (fun y => (y.1.1.1, y.1.1.2.1, y.1.1.2.2.1, y.1.1.2.2.2.1, y.1.1.2.2.2.2.1, y.1.1.2.2.2.2.2.1)) (by kernel_rfl) (by kernel_rfl) (by kernel_rfl) (by kernel_rfl) (by kernel_rfl) (by kernel_rfl) (fun _ => rfl) (fun x => by kernel_rfl)
-- loop.example/g00051/spec.StateAt
noncomputable def i_spec_StateAt : Shape := ⟨[(0, .agg [.str, .int .i64, .int .i64, .int .i64, .int .i64, .int .i64, .int .i64, .str, .str, .int .i64, .sl (.pair (.int .i64) (.pair (.int .i64) (.pair (.int .i64) (.pair (.int .i64) (.pair (.int .i64) (.pair (.int .i64) (.pair .str (.pair .str (.int .i64)))))))))]), (1, .c (.int .i64))], []⟩
noncomputable def o_spec_StateAt : Shape := ⟨[(0, .tup [(true, [.int .i64, .int .i64, .int .i64, .str, .str, .int .i64]), (false, [.ref 0]), (false, [.bool])])], [.lst 25 (.pair (.int .i64) (.pair (.int .i64) (.pair (.int .i64) (.pair .str (.pair .str (.int .i64))))))]⟩
noncomputable def s_spec_StateAt_6 : Shape := ⟨[(1, .c (.int .i64)), (2, .c (.ptr 0 0)), (4, .c (.ptr 1 0)), (7, .c (.ref 2)), (8, .c (.ptr 3 0)), (9, .c (.int .i64))], [.box 28 [.str, .int .i64, .int .i64, .int .i64, .int .i64, .int .i64, .int .i64, .str, .str, .int .i64, .sl (.pair (.int .i64) (.pair (.int .i64) (.pair (.int .i64) (.pair (.int .i64) (.pair (.int .i64) (.pair (.int .i64) (.pair .str (.pair .str (.int .i64)))))))))], .box 25 [.int .i64, .int .i64, .int .i64, .str, .str, .int .i64], .lst 25 (.pair (.int .i64) (.pair (.int .i64) (.pair (.int .i64) (.pair .str (.pair .str (.int .i64)))))), .box 25 [.int .i64, .int .i64, .int .i64, .str, .str, .int .i64]]⟩
noncomputable def s_spec_StateAt_14 : Shape := ⟨[(1, .c (.int .i64)), (2, .c (.ptr 0 0)), (4, .c (.ptr 1 0)), (7, .c (.ref 2)), (8, .c (.ptr 3 0)), (11, .c (.int .i64))], [.box 28 [.str, .int .i64, .int .i64, .int .i64, .int .i64, .int .i64, .int .i64, .str, .str, .int .i64, .sl (.pair (.int .i64) (.pair (.int .i64) (.pair (.int .i64) (.pair (.int .i64) (.pair (.int .i64) (.pair (.int .i64) (.pair .str (.pair .str (.int .i64)))))))))], .box 25 [.int .i64, .int .i64, .int .i64, .str, .str, .int .i64], .lst 25 (.pair (.int .i64) (.pair (.int .i64) (.pair (.int .i64) (.pair .str (.pair .str (.int .i64)))))), .box 25 [.int .i64, .int .i64, .int .i64, .str, .str, .int .i64]]⟩
mutual
noncomputable def spec_StateAt_L6 : Nat → Int → Int → ByteArray → Int → Int → Int → Int → Int → Int → ByteArray → ByteArray → Int → (List (Int × Int × Int × Int × Int × Int × ByteArray × ByteArray × Int)) → Int → Int → Int → ByteArray → ByteArray → Int → (List (Int × Int × Int × ByteArray × ByteArray × Int)) → Int → Int → Int → ByteArray → ByteArray → Int → Option (Int × Int × Int × ByteArray × ByteArray × Int × Bool × (List (Int × Int × Int × ByteArray × ByteArray × Int)))
  | 0, _, _, _, _, _, _, _, _, _, _, _, _, _, _, _, _, _, _, _, _, _, _, _, _, _, _ => none
  | k + 1, a0, a1, a2, a3, a4, a5, a6, a7, a8, a9, a10, a11, a12, a13, a14, a15, a16, a17, a18, a19, a20, a21, a22, a23, a24, a25 =>
  bif decide (a1 < (↑a12.length : Int)) then
   bif decide (0 ≤ a1) then
    bif decide (a1 < (↑a12.length : Int)) then
     bif (rd K9_SA0 a12 a1).fst == 1 then
      bif decide ((rd K9_SA0 a12 a1).snd.fst ≤ a0) then
       bif (rd K9_SA0 a12 a1).fst == 2 then
        bif decide ((rd K9_SA0 a12 a1).snd.snd.fst ≤ a0) then
         (spec_Laid (rd K9_SA0 a12 a1).snd.snd.snd.fst (rd K9_SA0 a12 a1).snd.snd.snd.snd.fst (rd K9_SA0 a12 a1).snd.snd.snd.snd.snd.fst (rd K9_SA0 a12 a1).snd.snd.snd.snd.snd.snd.fst (rd K9_SA0 a12 a1).snd.snd.snd.snd.snd.snd.snd.fst
            (rd K9_SA0 a12 a1).snd.snd.snd.snd.snd.snd.snd.snd (rd K9_SA0 a12 a1).snd.snd.snd.fst (rd K9_SA0 a12 a1).snd.snd.snd.snd.fst (rd K9_SA0 a12 a1).snd.snd.snd.snd.snd.fst (rd K9_SA0 a12 a1).snd.snd.snd.snd.snd.snd.fst
            (rd K9_SA0 a12 a1).snd.snd.snd.snd.snd.snd.snd.fst (rd K9_SA0 a12 a1).snd.snd.snd.snd.snd.snd.snd.snd).bind
          fun val => spec_StateAt_L6 k a0 (IntKind.i64.wrap (a1 + 1)) a2 a3 a4 a5 a6 a7 a8 a9 a10 a11 a12 a13 a14 a15 a16 a17 a18 a19 val.fst val.snd.fst val.snd.snd.fst val.snd.snd.snd.fst val.snd.snd.snd.snd.fst val.snd.snd.snd.snd.snd
        else
         spec_StateAt_L6 k a0 (IntKind.i64.wrap (a1 + 1)) a2 a3 a4 a5 a6 a7 a8 a9 a10 a11 a12 a13 a14 a15 a16 a17 a18 a19 (rd K9_SA0 a12 a1).snd.snd.snd.fst (rd K9_SA0 a12 a1).snd.snd.snd.snd.fst (rd K9_SA0 a12 a1).snd.snd.snd.snd.snd.fst (rd K9_SA0 a12 a1).snd.snd.snd.snd.snd.snd.fst (rd K9_SA0 a12 a1).snd.snd.snd.snd.snd.snd.snd.fst
          (rd K9_SA0 a12 a1).snd.snd.snd.snd.snd.snd.snd.snd
       else
        spec_StateAt_L6 k a0 (IntKind.i64.wrap (a1 + 1)) a2 a3 a4 a5 a6 a7 a8 a9 a10 a11 a12 a13 a14 a15 a16 a17 a18 a19 (rd K9_SA0 a12 a1).snd.snd.snd.fst (rd K9_SA0 a12 a1).snd.snd.snd.snd.fst (rd K9_SA0 a12 a1).snd.snd.snd.snd.snd.fst (rd K9_SA0 a12 a1).snd.snd.snd.snd.snd.snd.fst (rd K9_SA0 a12 a1).snd.snd.snd.snd.snd.snd.snd.fst
         (rd K9_SA0 a12 a1).snd.snd.snd.snd.snd.snd.snd.snd
      else
       bif (rd K9_SA0 a12 a1).fst == 2 then
        bif decide ((rd K9_SA0 a12 a1).snd.snd.fst ≤ a0) then
         (spec_Laid a20 a21 a22 a23 a24 a25 (rd K9_SA0 a12 a1).snd.snd.snd.fst (rd K9_SA0 a12 a1).snd.snd.snd.snd.fst (rd K9_SA0 a12 a1).snd.snd.snd.snd.snd.fst (rd K9_SA0 a12 a1).snd.snd.snd.snd.snd.snd.fst (rd K9_SA0 a12 a1).snd.snd.snd.snd.snd.snd.snd.fst
            (rd K9_SA0 a12 a1).snd.snd.snd.snd.snd.snd.snd.snd).bind
          fun val => spec_StateAt_L6 k a0 (IntKind.i64.wrap (a1 + 1)) a2 a3 a4 a5 a6 a7 a8 a9 a10 a11 a12 a13 a14 a15 a16 a17 a18 a19 val.fst val.snd.fst val.snd.snd.fst val.snd.snd.snd.fst val.snd.snd.snd.snd.fst val.snd.snd.snd.snd.snd
        else spec_StateAt_L6 k a0 (IntKind.i64.wrap (a1 + 1)) a2 a3 a4 a5 a6 a7 a8 a9 a10 a11 a12 a13 a14 a15 a16 a17 a18 a19 a20 a21 a22 a23 a24 a25
       else spec_StateAt_L6 k a0 (IntKind.i64.wrap (a1 + 1)) a2 a3 a4 a5 a6 a7 a8 a9 a10 a11 a12 a13 a14 a15 a16 a17 a18 a19 a20 a21 a22 a23 a24 a25
     else
      bif (rd K9_SA0 a12 a1).fst == 2 then
       bif decide ((rd K9_SA0 a12 a1).snd.snd.fst ≤ a0) then
        (spec_Laid a20 a21 a22 a23 a24 a25 (rd K9_SA0 a12 a1).snd.snd.snd.fst (rd K9_SA0 a12 a1).snd.snd.snd.snd.fst (rd K9_SA0 a12 a1).snd.snd.snd.snd.snd.fst (rd K9_SA0 a12 a1).snd.snd.snd.snd.snd.snd.fst (rd K9_SA0 a12 a1).snd.snd.snd.snd.snd.snd.snd.fst
           (rd K9_SA0 a12 a1).snd.snd.snd.snd.snd.snd.snd.snd).bind
         fun val => spec_StateAt_L6 k a0 (IntKind.i64.wrap (a1 + 1)) a2 a3 a4 a5 a6 a7 a8 a9 a10 a11 a12 a13 a14 a15 a16 a17 a18 a19 val.fst val.snd.fst val.snd.snd.fst val.snd.snd.snd.fst val.snd.snd.snd.snd.fst val.snd.snd.snd.snd.snd
       else spec_StateAt_L6 k a0 (IntKind.i64.wrap (a1 + 1)) a2 a3 a4 a5 a6 a7 a8 a9 a10 a11 a12 a13 a14 a15 a16 a17 a18 a19 a20 a21 a22 a23 a24 a25
      else spec_StateAt_L6 k a0 (IntKind.i64.wrap (a1 + 1)) a2 a3 a4 a5 a6 a7 a8 a9 a10 a11 a12 a13 a14 a15 a16 a17 a18 a19 a20 a21 a22 a23 a24 a25
    else none
   else none
  else spec_StateAt_L14 k a0 0 a2 a3 a4 a5 a6 a7 a8 a9 a10 a11 a12 a13 a14 a15 a16 a17 a18 a19 a20 a21 a22 a23 a24 a25
noncomputable def spec_StateAt_L14 : Nat → Int → Int → ByteArray → Int → Int → Int → Int → Int → Int → ByteArray → ByteArray → Int → (List (Int × Int × Int × Int × Int × Int × ByteArray × ByteArray × Int)) → Int → Int → Int → ByteArray → ByteArray → Int → (List (Int × Int × Int × ByteArray × ByteArray × Int)) → Int → Int → Int → ByteArray → ByteArray → Int → Option (Int × Int × Int × ByteArray × ByteArray × Int × Bool × (List (Int × Int × Int × ByteArray × ByteArray × Int)))
  | 0, _, _, _, _, _, _, _, _, _, _, _, _, _, _, _, _, _, _, _, _, _, _, _, _, _, _ => none
  | k + 1, a0, a1, a2, a3, a4, a5, a6, a7, a8, a9, a10, a11, a12, a13, a14, a15, a16, a17, a18, a19, a20, a21, a22, a23, a24, a25 =>
  bif decide (a1 < (↑a12.length : Int)) then
   bif decide (0 ≤ a1) then
    bif decide (a1 < (↑a12.length : Int)) then
     bif (rd K9_SA0 a12 a1).fst != 1 then
      bif decide ((rd K9_SA0 a12 a1).snd.fst ≤ a0) then
       bif decide (a0 < (rd K9_SA0 a12 a1).snd.snd.fst) then
        (spec_Laid a20 a21 a22 a23 a24 a25 (rd K9_SA0 a12 a1).snd.snd.snd.fst (rd K9_SA0 a12 a1).snd.snd.snd.snd.fst (rd K9_SA0 a12 a1).snd.snd.snd.snd.snd.fst (rd K9_SA0 a12 a1).snd.snd.snd.snd.snd.snd.fst (rd K9_SA0 a12 a1).snd.snd.snd.snd.snd.snd.snd.fst
           (rd K9_SA0 a12 a1).snd.snd.snd.snd.snd.snd.snd.snd).bind
         fun val => bif decide (a19.length + [(val.fst, val.snd.fst, val.snd.snd.fst, val.snd.snd.snd.fst, val.snd.snd.snd.snd.fst, val.snd.snd.snd.snd.snd)].length ≤ maxBytes / 64) then spec_StateAt_L14 k a0 (IntKind.i64.wrap (a1 + 1)) a2 a3 a4 a5 a6 a7 a8 a9 a10 a11 a12 a13 a14 a15 a16 a17 a18 (a19 ++ [(val.fst, val.snd.fst, val.snd.snd.fst, val.snd.snd.snd.fst, val.snd.snd.snd.snd.fst, val.snd.snd.snd.snd.snd)]) a20 a21 a22 a23 a24 a25 else none
       else spec_StateAt_L14 k a0 (IntKind.i64.wrap (a1 + 1)) a2 a3 a4 a5 a6 a7 a8 a9 a10 a11 a12 a13 a14 a15 a16 a17 a18 a19 a20 a21 a22 a23 a24 a25
      else spec_StateAt_L14 k a0 (IntKind.i64.wrap (a1 + 1)) a2 a3 a4 a5 a6 a7 a8 a9 a10 a11 a12 a13 a14 a15 a16 a17 a18 a19 a20 a21 a22 a23 a24 a25
     else spec_StateAt_L14 k a0 (IntKind.i64.wrap (a1 + 1)) a2 a3 a4 a5 a6 a7 a8 a9 a10 a11 a12 a13 a14 a15 a16 a17 a18 a19 a20 a21 a22 a23 a24 a25
    else none
   else none
  else some (a20, a21, a22, a23, a24, a25, true, a19)
end
noncomputable def j_spec_StateAt : List (Nat × (Nat → Cut (Int × Int × Int × ByteArray × ByteArray × Int × Bool × (List (Int × Int × Int × ByteArray × ByteArray × Int))))) := [(6, fun k => ⟨s_spec_StateAt_6, fun x => spec_StateAt_L6 k x.1.1 x.1.2.2.2.2.2.1 x.2.1.1 x.2.1.2.1 x.2.1.2.2.1 x.2.1.2.2.2.1 x.2.1.2.2.2.2.1 x.2.1.2.2.2.2.2.1 x.2.1.2.2.2.2.2.2.1 x.2.1.2.2.2.2.2.2.2.1 x.2.1.2.2.2.2.2.2.2.2.1 x.2.1.2.2.2.2.2.2.2.2.2.1 x.2.1.2.2.2.2.2.2.2.2.2.2.1 x.2.2.1.1 x.2.2.1.2.1 x.2.2.1.2.2.1 x.2.2.1.2.2.2.1 x.2.2.1.2.2.2.2.1 x.2.2.1.2.2.2.2.2.1 x.2.2.2.1 x.2.2.2.2.1.1 x.2.2.2.2.1.2.1 x.2.2.2.2.1.2.2.1 x.2.2.2.2.1.2.2.2.1 x.2.2.2.2.1.2.2.2.2.1 x.2.2.2.2.1.2.2.2.2.2.1⟩), (14, fun k => ⟨s_spec_StateAt_14, fun x => spec_StateAt_L14 k x.1.1 x.1.2.2.2.2.2.1 x.2.1.1 x.2.1.2.1 x.2.1.2.2.1 x.2.1.2.2.2.1 x.2.1.2.2.2.2.1 x.2.1.2.2.2.2.2.1 x.2.1.2.2.2.2.2.2.1 x.2.1.2.2.2.2.2.2.2.1 x.2.1.2.2.2.2.2.2.2.2.1 x.2.1.2.2.2.2.2.2.2.2.2.1 x.2.1.2.2.2.2.2.2.2.2.2.2.1 x.2.2.1.1 x.2.2.1.2.1 x.2.2.1.2.2.1 x.2.2.1.2.2.2.1 x.2.2.1.2.2.2.2.1 x.2.2.1.2.2.2.2.2.1 x.2.2.2.1 x.2.2.2.2.1.1 x.2.2.2.2.1.2.1 x.2.2.2.2.1.2.2.1 x.2.2.2.2.1.2.2.2.1 x.2.2.2.2.1.2.2.2.2.1 x.2.2.2.2.1.2.2.2.2.2.1⟩)]
noncomputable def spec_StateAt_F (k : Nat) (a0 : ByteArray) (a1 : Int) (a2 : Int) (a3 : Int) (a4 : Int) (a5 : Int) (a6 : Int) (a7 : ByteArray) (a8 : ByteArray) (a9 : Int) (a10 : List (Int × Int × Int × Int × Int × Int × ByteArray × ByteArray × Int)) (a11 : Int) : Option (Int × Int × Int × ByteArray × ByteArray × Int × Bool × (List (Int × Int × Int × ByteArray × ByteArray × Int))) :=
  (spec_TafOk a0 a1 a2 a3 a4 a5 a6 a7 a8 a9 a10).bind fun val => bif !val then some (0, 0, 0, bs [], bs [], 0, false, []) else bif decide (a11 < a2) then some (0, 0, 0, bs [], bs [], 0, false, []) else bif decide (a11 ≥ a3) then some (0, 0, 0, bs [], bs [], 0, false, []) else spec_StateAt_L6 k a11 0 a0 a1 a2 a3 a4 a5 a6 a7 a8 a9 a10 0 0 0 (bs []) (bs []) 0 [] a4 a5 a6 a7 a8 a9
noncomputable def spec_StateAt (a0 : ByteArray) (a1 : Int) (a2 : Int) (a3 : Int) (a4 : Int) (a5 : Int) (a6 : Int) (a7 : ByteArray) (a8 : ByteArray) (a9 : Int) (a10 : List (Int × Int × Int × Int × Int × Int × ByteArray × ByteArray × Int)) (a11 : Int) : Option (Int × Int × Int × ByteArray × ByteArray × Int × Bool × (List (Int × Int × Int × ByteArray × ByteArray × Int))) := evF fun k => spec_StateAt_F k a0 a1 a2 a3 a4 a5 a6 a7 a8 a9 a10 a11
noncomputable def g_spec_StateAt : Sg := ⟨i_spec_StateAt, o_spec_StateAt, Int × Int × Int × ByteArray × ByteArray × Int × Bool × (List (Int × Int × Int × ByteArray × ByteArray × Int)), fun y => ((((y.1, y.2.1, y.2.2.1, y.2.2.2.1, y.2.2.2.2.1, y.2.2.2.2.2.1, ()), ((), ()), (y.2.2.2.2.2.2.1, ()), ()), ()), (y.2.2.2.2.2.2.2, ())), fun x => spec_StateAt x.1.1.1 x.1.1.2.1 x.1.1.2.2.1 x.1.1.2.2.2.1 x.1.1.2.2.2.2.1 x.1.1.2.2.2.2.2.1 x.1.1.2.2.2.2.2.2.1 x.1.1.2.2.2.2.2.2.2.1 x.1.1.2.2.2.2.2.2.2.2.1 x.1.1.2.2.2.2.2.2.2.2.2.1 x.1.1.2.2.2.2.2.2.2.2.2.2.1 x.1.2.1⟩
noncomputable def C_spec_StateAt : Ctx := ⟨107, tiOf Tryz.prog, gl, sgOf [(19, g_spec_TafOk), (184, g_spec_Laid)], []⟩
theorem e_spec_StateAt : Sound Tryz.prog gl 95 g_spec_StateAt :=
  sound_cuts (C := C_spec_StateAt) ⟨fun _ _ h => h, by kernel_rfl⟩ (sgOf_all' ⟨.inl ⟨by kernel_rfl, e_spec_TafOk⟩, .inl ⟨by kernel_rfl, e_spec_Laid⟩, trivial⟩) 95 Tryz.f95 g_spec_StateAt (fun y => (y.1.1.1.1, y.1.1.1.2.1, y.1.1.1.2.2.1, y.1.1.1.2.2.2.1, y.1.1.1.2.2.2.2.1, y.1.1.1.2.2.2.2.2.1, y.1.1.2.2.1.1, y.2.1)) j_spec_StateAt 2 (by kernel_rfl) (by kernel_rfl) (by kernel_rfl) (by kernel_rfl) (by kernel_rfl) (by kernel_rfl) (fun _ => rfl) (by kernel_rfl) (by kernel_rfl)
    ⟨⟨trivial, s_spec_StateAt_6, fun k x => spec_StateAt_L6 k x.1.1 x.1.2.2.2.2.2.1 x.2.1.1 x.2.1.2.1 x.2.1.2.2.1 x.2.1.2.2.2.1 x.2.1.2.2.2.2.1 x.2.1.2.2.2.2.2.1 x.2.1.2.2.2.2.2.2.1 x.2.1.2.2.2.2.2.2.2.1 x.2.1.2.2.2.2.2.2.2.2.1 x.2.1.2.2.2.2.2.2.2.2.2.1 x.2.1.2.2.2.2.2.2.2.2.2.2.1 x.2.2.1.1 x.2.2.1.2.1 x.2.2.1.2.2.1 x.2.2.1.2.2.2.1 x.2.2.1.2.2.2.2.1 x.2.2.1.2.2.2.2.2.1 x.2.2.2.1 x.2.2.2.2.1.1 x.2.2.2.2.1.2.1 x.2.2.2.2.1.2.2.1 x.2.2.2.2.1.2.2.2.1 x.2.2.2.2.1.2.2.2.2.1 x.2.2.2.2.1.2.2.2.2.2.1, ⟨fun k => by kernel_rfl, fun k y => by kernel_rfl, fun y => by kernel_rfl⟩⟩, s_spec_StateAt_14, fun k x => spec_StateAt_L14 k x.1.1 x.1.2.2.2.2.2.1 x.2.1.1 x.2.1.2.1 x.2.1.2.2.1 x.2.1.2.2.2.1 x.2.1.2.2.2.2.1 x.2.1.2.2.2.2.2.1 x.2.1.2.2.2.2.2.2.1 x.2.1.2.2.2.2.2.2.2.1 x.2.1.2.2.2.2.2.2.2.2.1 x.2.1.2.2.2.2.2.2.2.2.2.1 x.2.1.2.2.2.2.2.2.2.2.2.2.1 x.2.2.1.1 x.2.2.1.2.1 x.2.2.1.2.2.1 x.2.2.1.2.2.2.1 x.2.2.1.2.2.2.2.1 x.2.2.1.2.2.2.2.2.1 x.2.2.2.1 x.2.2.2.2.1.1 x.2.2.2.2.1.2.1 x.2.2.2.2.1.2.2.1 x.2.2.2.2.1.2.2.2.1 x.2.2.2.2.1.2.2.2.2.1 x.2.2.2.2.1.2.2.2.2.2.1, ⟨fun k => by kernel_rfl, fun k y => by kernel_rfl, fun y => by kernel_rfl⟩⟩
    (fun k x => spec_StateAt_F k x.1.1.1 x.1.1.2.1 x.1.1.2.2.1 x.1.1.2.2.2.1 x.1.1.2.2.2.2.1 x.1.1.2.2.2.2.2.1 x.1.1.2.2.2.2.2.2.1 x.1.1.2.2.2.2.2.2.2.1 x.1.1.2.2.2.2.2.2.2.2.1 x.1.1.2.2.2.2.2.2.2.2.2.1 x.1.1.2.2.2.2.2.2.2.2.2.2.1 x.1.2.1) (fun x => rfl) (fun k x => by kernel_rfl)
end Go.Proofs.YtondfjckadlabaaGreatDoor.SA
