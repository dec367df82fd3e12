/-
  Part of a proof by the engine: texts that a program of ours printed, or plain lemmas on them. No condition but what each theorem says.
-/
import Derived.Test.YtondfjckadlabaaGreatDoorDT
import Derived.Test.YtondfjckadlabaaGreatDoorSA
import Derived.Test.YtondfjckadlabaaGreatDoorEng5
import Derived.Test.YtondfjckadlabaaGreatDoorProg
import Derived.KernelRfl
import Derived.Test.YtondfjckadlabaaGreatDoorDoors1
import Derived.Test.YtondfjckadlabaaGreatDoorDoors2
set_option linter.unusedVariables false
set_option linter.unusedSimpArgs false
set_option maxRecDepth 100000
namespace Go.Proofs.YtondfjckadlabaaGreatDoor.TT
open Go Go.Eng Go.Proofs
open Go.Proofs.YtondfjckadlabaaGreatDoor.EX
open Go.Proofs.YtondfjckadlabaaGreatDoor.DT hiding gl
open Go.Proofs.YtondfjckadlabaaGreatDoor.SA hiding gl
def L_impl_changeWords : List ByteArray := [bs [], bs [], bs [66, 69, 67, 77, 71], bs [84, 69, 77, 80, 79], bs [80, 82, 79, 66, 51, 48]]
noncomputable def gl : Nat → Option (List Cell) := glOf [(0, L_impl_changeWords.map Cell.str), (1, [.sl .str L_impl_weathers]), (2, [.sl .str L_impl_covers]), (5, L_strconv_uint64pow10.map (Cell.int .u64))]
theorem gl_DT : ∀ g cs, Go.Proofs.YtondfjckadlabaaGreatDoor.DT.gl g = some cs → gl g = some cs := glOf_mono (by intro p hp; simp only [List.mem_cons, List.not_mem_nil, or_false] at hp; subst hp <;> rfl)
theorem gl_SA : ∀ g cs, Go.Proofs.YtondfjckadlabaaGreatDoor.SA.gl g = some cs → gl g = some cs := glOf_mono (by intro p hp; simp only [List.mem_cons, List.not_mem_nil, or_false] at hp; rcases hp with rfl | rfl | rfl <;> rfl)
-- loop.example/g00051/impl.dayHour
noncomputable def i_impl_dayHour : Shape := ⟨[(0, .c (.int .i64))], []⟩
noncomputable def o_impl_dayHour : Shape := ⟨[(0, .c (.str))], []⟩
noncomputable def impl_dayHour (a0 : Int) : Option (ByteArray) :=
  (impl_DateOf a0).bind fun val => (impl_fill val.snd.snd.fst 2).bind fun val_1 => (impl_fill val.snd.snd.snd.fst 2).bind fun val => bif decide (ByteArray.size val_1 + ByteArray.size val ≤ 9223372036854775807) then some (val_1 ++ val) else none
noncomputable def g_impl_dayHour : Sg := ⟨i_impl_dayHour, o_impl_dayHour, ByteArray, fun y => ((y, ()), ()), fun x => impl_dayHour x.1.1⟩
noncomputable def C_impl_dayHour : Ctx := ⟨17, tiOf Tryz.prog, gl, sgOf [(168, g_impl_DateOf), (140, g_impl_fill)], []⟩
theorem e_impl_dayHour : Sound Tryz.prog gl 169 g_impl_dayHour :=
  sound_plain (C := C_impl_dayHour) ⟨fun _ _ h => h, by kernel_rfl⟩ (sgOf_all' ⟨.inl ⟨by kernel_rfl, (Sound.mono gl_DT (by rfl) e_impl_DateOf)⟩, .inl ⟨by kernel_rfl, (Sound.mono gl_DT (by rfl) e_impl_fill)⟩, trivial⟩) 169 Tryz.f169 g_impl_dayHour (fun y => y.1.1) (by kernel_rfl) (by kernel_rfl) (by kernel_rfl) (by kernel_rfl) (by kernel_rfl) (by kernel_rfl) (fun _ => rfl) (fun x => by kernel_rfl)
-- loop.example/g00051/impl.dayHourMinute
noncomputable def i_impl_dayHourMinute : Shape := ⟨[(0, .c (.int .i64))], []⟩
noncomputable def o_impl_dayHourMinute : Shape := ⟨[(0, .c (.str))], []⟩
noncomputable def impl_dayHourMinute (a0 : Int) : Option (ByteArray) :=
  (impl_DateOf a0).bind fun val => (impl_dayHour a0).bind fun val_1 => (impl_fill val.snd.snd.snd.snd.fst 2).bind fun val => bif decide (ByteArray.size val_1 + ByteArray.size val ≤ 9223372036854775807) then some (val_1 ++ val) else none
noncomputable def g_impl_dayHourMinute : Sg := ⟨i_impl_dayHourMinute, o_impl_dayHourMinute, ByteArray, fun y => ((y, ()), ()), fun x => impl_dayHourMinute x.1.1⟩
noncomputable def C_impl_dayHourMinute : Ctx := ⟨16, tiOf Tryz.prog, gl, sgOf [(168, g_impl_DateOf), (169, g_impl_dayHour), (140, g_impl_fill)], []⟩
theorem e_impl_dayHourMinute : Sound Tryz.prog gl 70 g_impl_dayHourMinute :=
  sound_plain (C := C_impl_dayHourMinute) ⟨fun _ _ h => h, by kernel_rfl⟩ (sgOf_all' ⟨.inl ⟨by kernel_rfl, (Sound.mono gl_DT (by rfl) e_impl_DateOf)⟩, .inl ⟨by kernel_rfl, e_impl_dayHour⟩, .inl ⟨by kernel_rfl, (Sound.mono gl_DT (by rfl) e_impl_fill)⟩, trivial⟩) 70 Tryz.f70 g_impl_dayHourMinute (fun y => y.1.1) (by kernel_rfl) (by kernel_rfl) (by kernel_rfl) (by kernel_rfl) (by kernel_rfl) (by kernel_rfl) (fun _ => rfl) (fun x => by kernel_rfl)
-- loop.example/g00051/impl.spanText
noncomputable def i_impl_spanText : Shape := ⟨[(0, .c (.int .i64)), (1, .c (.int .i64))], []⟩
noncomputable def o_impl_spanText : Shape := ⟨[(0, .c (.str))], []⟩
noncomputable def impl_spanText (a0 : Int) (a1 : Int) : Option (ByteArray) :=
  (impl_dayHour a1).bind fun val => bif a1.tmod 1440 == 0 then (impl_dayHour (IntKind.i64.wrap (a1 - 1440))).bind fun val => bif decide (0 ≤ 2) && decide (2 ≤ (↑(ByteArray.size val) : Int)) then bif decide ((ByteArray.extract val (Int.toNat 0) (Int.toNat 2)).size + (bs [50, 52]).size ≤ 9223372036854775807) then (impl_dayHour a0).bind fun val_1 => bif decide (ByteArray.size val_1 + (bs [47]).size ≤ 9223372036854775807) then bif decide ((val_1 ++ bs [47]).size + (ByteArray.extract val (Int.toNat 0) (Int.toNat 2) ++ bs [50, 52]).size ≤ 9223372036854775807) then some (val_1 ++ bs [47] ++ (ByteArray.extract val (Int.toNat 0) (Int.toNat 2) ++ bs [50, 52])) else none else none else none else none else (impl_dayHour a0).bind fun val_1 => bif decide (ByteArray.size val_1 + (bs [47]).size ≤ 9223372036854775807) then bif decide ((val_1 ++ bs [47]).size + ByteArray.size val ≤ 9223372036854775807) then some (val_1 ++ bs [47] ++ val) else none else none
noncomputable def g_impl_spanText : Sg := ⟨i_impl_spanText, o_impl_spanText, ByteArray, fun y => ((y, ()), ()), fun x => impl_spanText x.1.1 x.1.2.1⟩
noncomputable def C_impl_spanText : Ctx := ⟨21, tiOf Tryz.prog, gl, sgOf [(169, g_impl_dayHour)], []⟩
theorem e_impl_spanText : Sound Tryz.prog gl 71 g_impl_spanText :=
  sound_plain (C := C_impl_spanText) ⟨fun _ _ h => h, by kernel_rfl⟩ (sgOf_all' ⟨.inl ⟨by kernel_rfl, e_impl_dayHour⟩, trivial⟩) 71 Tryz.f71 g_impl_spanText (fun y => y.1.1) (by kernel_rfl) (by kernel_rfl) (by kernel_rfl) (by kernel_rfl) (by kernel_rfl) (by kernel_rfl) (fun _ => rfl) (fun x => by kernel_rfl)
-- loop.example/g00051/impl.SkyText
noncomputable def i_impl_SkyText : Shape := ⟨[(0, .agg [.int .i64, .int .i64, .int .i64, .str, .str, .int .i64])], []⟩
noncomputable def o_impl_SkyText : Shape := ⟨[(0, .c (.str))], []⟩
noncomputable def impl_SkyText (a0 : Int) (a1 : Int) (a2 : Int) (a3 : ByteArray) (a4 : ByteArray) (a5 : Int) : Option (ByteArray) :=
  (impl_SkyOk a0 a1 a2 a3 a4 a5).bind fun val =>
   bif !val then some (bs [])
   else
    (impl_said a0 a1 a2 a3 a4 a5).bind fun val =>
     bif val.fst then
      (impl_fill (IntKind.i64.wrap (10 * a0)) 3).bind fun val_1 =>
       bif a0 == 99 then
        (impl_fill a1 2).bind fun val_2 =>
         bif decide ((bs [86, 82, 66]).size + ByteArray.size val_2 ≤ 9223372036854775807) then
          bif decide ((bs [86, 82, 66] ++ val_2).size + (bs [75, 84]).size ≤ 9223372036854775807) then
           bif val.snd.fst then (impl_fill a2 4).bind fun val_3 => bif val.snd.snd.fst then bif a4.toList == (bs [83, 75, 67]).toList then (dJoin ([] ++ [bs [86, 82, 66] ++ val_2 ++ bs [75, 84]] ++ [val_3] ++ [a3] ++ [bs [83, 75, 67]]) (bs [32])).bind fun val => some val else bif val.snd.snd.snd then (impl_fill a5 3).bind fun val => bif decide (a4.size + ByteArray.size val ≤ 9223372036854775807) then (dJoin ([] ++ [bs [86, 82, 66] ++ val_2 ++ bs [75, 84]] ++ [val_3] ++ [a3] ++ [a4 ++ val]) (bs [32])).bind fun val => some val else none else (dJoin ([] ++ [bs [86, 82, 66] ++ val_2 ++ bs [75, 84]] ++ [val_3] ++ [a3]) (bs [32])).bind fun val => some val else bif a4.toList == (bs [83, 75, 67]).toList then (dJoin ([] ++ [bs [86, 82, 66] ++ val_2 ++ bs [75, 84]] ++ [val_3] ++ [bs [83, 75, 67]]) (bs [32])).bind fun val => some val else bif val.snd.snd.snd then (impl_fill a5 3).bind fun val => bif decide (a4.size + ByteArray.size val ≤ 9223372036854775807) then (dJoin ([] ++ [bs [86, 82, 66] ++ val_2 ++ bs [75, 84]] ++ [val_3] ++ [a4 ++ val]) (bs [32])).bind fun val => some val else none else (dJoin ([] ++ [bs [86, 82, 66] ++ val_2 ++ bs [75, 84]] ++ [val_3]) (bs [32])).bind fun val => some val
           else bif val.snd.snd.fst then bif a4.toList == (bs [83, 75, 67]).toList then (dJoin ([] ++ [bs [86, 82, 66] ++ val_2 ++ bs [75, 84]] ++ [a3] ++ [bs [83, 75, 67]]) (bs [32])).bind fun val => some val else bif val.snd.snd.snd then (impl_fill a5 3).bind fun val => bif decide (a4.size + ByteArray.size val ≤ 9223372036854775807) then (dJoin ([] ++ [bs [86, 82, 66] ++ val_2 ++ bs [75, 84]] ++ [a3] ++ [a4 ++ val]) (bs [32])).bind fun val => some val else none else (dJoin ([] ++ [bs [86, 82, 66] ++ val_2 ++ bs [75, 84]] ++ [a3]) (bs [32])).bind fun val => some val else bif a4.toList == (bs [83, 75, 67]).toList then (dJoin ([] ++ [bs [86, 82, 66] ++ val_2 ++ bs [75, 84]] ++ [bs [83, 75, 67]]) (bs [32])).bind fun val => some val else bif val.snd.snd.snd then (impl_fill a5 3).bind fun val => bif decide (a4.size + ByteArray.size val ≤ 9223372036854775807) then (dJoin ([] ++ [bs [86, 82, 66] ++ val_2 ++ bs [75, 84]] ++ [a4 ++ val]) (bs [32])).bind fun val => some val else none else (dJoin ([] ++ [bs [86, 82, 66] ++ val_2 ++ bs [75, 84]]) (bs [32])).bind fun val => some val
          else none
         else none
       else
        (impl_fill a1 2).bind fun val_2 =>
         bif decide (ByteArray.size val_1 + ByteArray.size val_2 ≤ 9223372036854775807) then
          bif decide ((val_1 ++ val_2).size + (bs [75, 84]).size ≤ 9223372036854775807) then
           bif val.snd.fst then (impl_fill a2 4).bind fun val_3 => bif val.snd.snd.fst then bif a4.toList == (bs [83, 75, 67]).toList then (dJoin ([] ++ [val_1 ++ val_2 ++ bs [75, 84]] ++ [val_3] ++ [a3] ++ [bs [83, 75, 67]]) (bs [32])).bind fun val => some val else bif val.snd.snd.snd then (impl_fill a5 3).bind fun val => bif decide (a4.size + ByteArray.size val ≤ 9223372036854775807) then (dJoin ([] ++ [val_1 ++ val_2 ++ bs [75, 84]] ++ [val_3] ++ [a3] ++ [a4 ++ val]) (bs [32])).bind fun val => some val else none else (dJoin ([] ++ [val_1 ++ val_2 ++ bs [75, 84]] ++ [val_3] ++ [a3]) (bs [32])).bind fun val => some val else bif a4.toList == (bs [83, 75, 67]).toList then (dJoin ([] ++ [val_1 ++ val_2 ++ bs [75, 84]] ++ [val_3] ++ [bs [83, 75, 67]]) (bs [32])).bind fun val => some val else bif val.snd.snd.snd then (impl_fill a5 3).bind fun val => bif decide (a4.size + ByteArray.size val ≤ 9223372036854775807) then (dJoin ([] ++ [val_1 ++ val_2 ++ bs [75, 84]] ++ [val_3] ++ [a4 ++ val]) (bs [32])).bind fun val => some val else none else (dJoin ([] ++ [val_1 ++ val_2 ++ bs [75, 84]] ++ [val_3]) (bs [32])).bind fun val => some val
           else bif val.snd.snd.fst then bif a4.toList == (bs [83, 75, 67]).toList then (dJoin ([] ++ [val_1 ++ val_2 ++ bs [75, 84]] ++ [a3] ++ [bs [83, 75, 67]]) (bs [32])).bind fun val => some val else bif val.snd.snd.snd then (impl_fill a5 3).bind fun val => bif decide (a4.size + ByteArray.size val ≤ 9223372036854775807) then (dJoin ([] ++ [val_1 ++ val_2 ++ bs [75, 84]] ++ [a3] ++ [a4 ++ val]) (bs [32])).bind fun val => some val else none else (dJoin ([] ++ [val_1 ++ val_2 ++ bs [75, 84]] ++ [a3]) (bs [32])).bind fun val => some val else bif a4.toList == (bs [83, 75, 67]).toList then (dJoin ([] ++ [val_1 ++ val_2 ++ bs [75, 84]] ++ [bs [83, 75, 67]]) (bs [32])).bind fun val => some val else bif val.snd.snd.snd then (impl_fill a5 3).bind fun val => bif decide (a4.size + ByteArray.size val ≤ 9223372036854775807) then (dJoin ([] ++ [val_1 ++ val_2 ++ bs [75, 84]] ++ [a4 ++ val]) (bs [32])).bind fun val => some val else none else (dJoin ([] ++ [val_1 ++ val_2 ++ bs [75, 84]]) (bs [32])).bind fun val => some val
          else none
         else none
     else
      bif val.snd.fst then (impl_fill a2 4).bind fun val_1 => bif val.snd.snd.fst then bif a4.toList == (bs [83, 75, 67]).toList then (dJoin ([] ++ [val_1] ++ [a3] ++ [bs [83, 75, 67]]) (bs [32])).bind fun val => some val else bif val.snd.snd.snd then (impl_fill a5 3).bind fun val => bif decide (a4.size + ByteArray.size val ≤ 9223372036854775807) then (dJoin ([] ++ [val_1] ++ [a3] ++ [a4 ++ val]) (bs [32])).bind fun val => some val else none else (dJoin ([] ++ [val_1] ++ [a3]) (bs [32])).bind fun val => some val else bif a4.toList == (bs [83, 75, 67]).toList then (dJoin ([] ++ [val_1] ++ [bs [83, 75, 67]]) (bs [32])).bind fun val => some val else bif val.snd.snd.snd then (impl_fill a5 3).bind fun val => bif decide (a4.size + ByteArray.size val ≤ 9223372036854775807) then (dJoin ([] ++ [val_1] ++ [a4 ++ val]) (bs [32])).bind fun val => some val else none else (dJoin ([] ++ [val_1]) (bs [32])).bind fun val => some val
      else bif val.snd.snd.fst then bif a4.toList == (bs [83, 75, 67]).toList then (dJoin ([] ++ [a3] ++ [bs [83, 75, 67]]) (bs [32])).bind fun val => some val else bif val.snd.snd.snd then (impl_fill a5 3).bind fun val => bif decide (a4.size + ByteArray.size val ≤ 9223372036854775807) then (dJoin ([] ++ [a3] ++ [a4 ++ val]) (bs [32])).bind fun val => some val else none else (dJoin ([] ++ [a3]) (bs [32])).bind fun val => some val else bif a4.toList == (bs [83, 75, 67]).toList then (dJoin ([] ++ [bs [83, 75, 67]]) (bs [32])).bind fun val => some val else bif val.snd.snd.snd then (impl_fill a5 3).bind fun val => bif decide (a4.size + ByteArray.size val ≤ 9223372036854775807) then (dJoin ([] ++ [a4 ++ val]) (bs [32])).bind fun val => some val else none else (dJoin [] (bs [32])).bind fun val => some val
noncomputable def g_impl_SkyText : Sg := ⟨i_impl_SkyText, o_impl_SkyText, ByteArray, fun y => ((y, ()), ()), fun x => impl_SkyText x.1.1.1 x.1.1.2.1 x.1.1.2.2.1 x.1.1.2.2.2.1 x.1.1.2.2.2.2.1 x.1.1.2.2.2.2.2.1⟩
noncomputable def C_impl_SkyText : Ctx := ⟨64, tiOf Tryz.prog, gl, sgOf [(86, g_impl_SkyOk), (87, g_impl_said), (140, g_impl_fill), (73, gJoin)], []⟩
theorem e_impl_SkyText : Sound Tryz.prog gl 72 g_impl_SkyText :=
  sound_plain (C := C_impl_SkyText) ⟨fun _ _ h => h, by kernel_rfl⟩ (sgOf_all' ⟨.inl ⟨by kernel_rfl, (Sound.mono gl_SA (by rfl) e_impl_SkyOk)⟩, .inl ⟨by kernel_rfl, (Sound.mono gl_SA (by rfl) e_impl_said)⟩, .inl ⟨by kernel_rfl, (Sound.mono gl_DT (by rfl) e_impl_fill)⟩, .inl ⟨by kernel_rfl, eJoin⟩, trivial⟩) 72 Tryz.f72 g_impl_SkyText (fun y => y.1.1) (by kernel_rfl) (by kernel_rfl) (by kernel_rfl) (by kernel_rfl) (by kernel_rfl) (by kernel_rfl) (fun _ => rfl) (fun x => by kernel_rfl)
-- loop.example/g00051/impl.TafText
noncomputable def i_impl_TafText : Shape := ⟨[(0, .agg [.str, .int .i64, .int .i64, .int .i64, .int .i64, .int .i64, .int .i64, .str, .str, .int .i64, .sl (.pair (.int .i64) (.pair (.int .i64) (.pair (.int .i64) (.pair (.int .i64) (.pair (.int .i64) (.pair (.int .i64) (.pair .str (.pair .str (.int .i64)))))))))])], []⟩
noncomputable def o_impl_TafText : Shape := ⟨[(0, .c (.str))], []⟩
noncomputable def s_impl_TafText_5 : Shape := ⟨[(3, .c (.ref 0)), (27, .c (.sl (.pair (.int .i64) (.pair (.int .i64) (.pair (.int .i64) (.pair (.int .i64) (.pair (.int .i64) (.pair (.int .i64) (.pair .str (.pair .str (.int .i64))))))))))), (28, .c (.int .i64)), (29, .c (.int .i64))], [.lst 9 .str]⟩
noncomputable def impl_TafText_L5 : Nat → (List (Int × Int × Int × Int × Int × Int × ByteArray × ByteArray × Int)) → Int → Int → (List ByteArray) → Option (ByteArray)
  | 0, _, _, _, _ => none
  | k + 1, a0, a1, a2, a3 =>
  bif decide (a2 < a1) then
   bif decide (0 ≤ a2) then
    bif decide (a2 < (↑a0.length : Int)) then
     bif (rd K9_SA0 a0 a2).fst == 1 then
      (impl_dayHourMinute (rd K9_SA0 a0 a2).snd.fst).bind fun val =>
       bif decide ((bs [70, 77]).size + ByteArray.size val ≤ 9223372036854775807) then
        bif decide (a3.length + [bs [70, 77] ++ val].length ≤ maxBytes / 16) then
         (impl_SkyText (rd K9_SA0 a0 a2).snd.snd.snd.fst (rd K9_SA0 a0 a2).snd.snd.snd.snd.fst (rd K9_SA0 a0 a2).snd.snd.snd.snd.snd.fst (rd K9_SA0 a0 a2).snd.snd.snd.snd.snd.snd.fst (rd K9_SA0 a0 a2).snd.snd.snd.snd.snd.snd.snd.fst
            (rd K9_SA0 a0 a2).snd.snd.snd.snd.snd.snd.snd.snd).bind
          fun val_1 => bif decide ((a3 ++ [bs [70, 77] ++ val]).length + [val_1].length ≤ maxBytes / 16) then impl_TafText_L5 k a0 a1 (IntKind.i64.wrap (a2 + 1)) (a3 ++ [bs [70, 77] ++ val] ++ [val_1]) else none
        else none
       else none
     else
      bif decide (0 ≤ (rd K9_SA0 a0 a2).fst) then
       bif decide ((rd K9_SA0 a0 a2).fst < (↑5 : Int)) then
        (impl_spanText (rd K9_SA0 a0 a2).snd.fst (rd K9_SA0 a0 a2).snd.snd.fst).bind fun val =>
         bif decide (a3.length + [rd Kind.str [bs [], bs [], bs [66, 69, 67, 77, 71], bs [84, 69, 77, 80, 79], bs [80, 82, 79, 66, 51, 48]] (rd K9_SA0 a0 a2).fst, val].length ≤ maxBytes / 16) then
          (impl_SkyText (rd K9_SA0 a0 a2).snd.snd.snd.fst (rd K9_SA0 a0 a2).snd.snd.snd.snd.fst (rd K9_SA0 a0 a2).snd.snd.snd.snd.snd.fst (rd K9_SA0 a0 a2).snd.snd.snd.snd.snd.snd.fst (rd K9_SA0 a0 a2).snd.snd.snd.snd.snd.snd.snd.fst
             (rd K9_SA0 a0 a2).snd.snd.snd.snd.snd.snd.snd.snd).bind
           fun val_1 => bif decide ((a3 ++ [rd Kind.str [bs [], bs [], bs [66, 69, 67, 77, 71], bs [84, 69, 77, 80, 79], bs [80, 82, 79, 66, 51, 48]] (rd K9_SA0 a0 a2).fst, val]).length + [val_1].length ≤ maxBytes / 16) then impl_TafText_L5 k a0 a1 (IntKind.i64.wrap (a2 + 1)) (a3 ++ [rd Kind.str [bs [], bs [], bs [66, 69, 67, 77, 71], bs [84, 69, 77, 80, 79], bs [80, 82, 79, 66, 51, 48]] (rd K9_SA0 a0 a2).fst, val] ++ [val_1]) else none
         else none
       else none
      else none
    else none
   else none
  else (dJoin a3 (bs [32])).bind fun val => bif decide (ByteArray.size val + (bs [61]).size ≤ 9223372036854775807) then some (val ++ bs [61]) else none
noncomputable def j_impl_TafText : List (Nat × (Nat → Cut (ByteArray))) := [(5, fun k => ⟨s_impl_TafText_5, fun x => impl_TafText_L5 k x.1.2.1 x.1.2.2.1 x.1.2.2.2.1 x.2.1⟩)]
noncomputable def impl_TafText_F (k : Nat) (a0 : ByteArray) (a1 : Int) (a2 : Int) (a3 : Int) (a4 : Int) (a5 : Int) (a6 : Int) (a7 : ByteArray) (a8 : ByteArray) (a9 : Int) (a10 : List (Int × Int × Int × Int × Int × Int × ByteArray × ByteArray × Int)) : Option (ByteArray) :=
  (impl_TafOk a0 a1 a2 a3 a4 a5 a6 a7 a8 a9 a10).bind fun val => bif !val then some (bs []) else (impl_dayHourMinute a1).bind fun val => bif decide (ByteArray.size val + (bs [90]).size ≤ 9223372036854775807) then (impl_spanText a2 a3).bind fun val_1 => (impl_SkyText a4 a5 a6 a7 a8 a9).bind fun val_2 => impl_TafText_L5 k a10 (↑a10.length : Int) 0 [bs [84, 65, 70], a0, val ++ bs [90], val_1, val_2] else none
noncomputable def impl_TafText (a0 : ByteArray) (a1 : Int) (a2 : Int) (a3 : Int) (a4 : Int) (a5 : Int) (a6 : Int) (a7 : ByteArray) (a8 : ByteArray) (a9 : Int) (a10 : List (Int × Int × Int × Int × Int × Int × ByteArray × ByteArray × Int)) : Option (ByteArray) := evF fun k => impl_TafText_F k a0 a1 a2 a3 a4 a5 a6 a7 a8 a9 a10
noncomputable def g_impl_TafText : Sg := ⟨i_impl_TafText, o_impl_TafText, ByteArray, fun y => ((y, ()), ()), fun x => impl_TafText x.1.1.1 x.1.1.2.1 x.1.1.2.2.1 x.1.1.2.2.2.1 x.1.1.2.2.2.2.1 x.1.1.2.2.2.2.2.1 x.1.1.2.2.2.2.2.2.1 x.1.1.2.2.2.2.2.2.2.1 x.1.1.2.2.2.2.2.2.2.2.1 x.1.1.2.2.2.2.2.2.2.2.2.1 x.1.1.2.2.2.2.2.2.2.2.2.2.1⟩
noncomputable def C_impl_TafText : Ctx := ⟨65, tiOf Tryz.prog, gl, sgOf [(20, g_impl_TafOk), (70, g_impl_dayHourMinute), (71, g_impl_spanText), (72, g_impl_SkyText), (73, gJoin)], []⟩
theorem e_impl_TafText : Sound Tryz.prog gl 18 g_impl_TafText :=
  sound_cuts (C := C_impl_TafText) ⟨fun _ _ h => h, by kernel_rfl⟩ (sgOf_all' ⟨.inl ⟨by kernel_rfl, (Sound.mono gl_SA (by rfl) e_impl_TafOk)⟩, .inl ⟨by kernel_rfl, e_impl_dayHourMinute⟩, .inl ⟨by kernel_rfl, e_impl_spanText⟩, .inl ⟨by kernel_rfl, e_impl_SkyText⟩, .inl ⟨by kernel_rfl, eJoin⟩, trivial⟩) 18 Tryz.f18 g_impl_TafText (fun y => y.1.1) j_impl_TafText 1 (by kernel_rfl) (by kernel_rfl) (by kernel_rfl) (by kernel_rfl) (by kernel_rfl) (by kernel_rfl) (fun _ => rfl) (by kernel_rfl) (by kernel_rfl)
    ⟨trivial, s_impl_TafText_5, fun k x => impl_TafText_L5 k x.1.2.1 x.1.2.2.1 x.1.2.2.2.1 x.2.1, ⟨fun k => by kernel_rfl, fun k y => by kernel_rfl, fun y => by kernel_rfl⟩⟩
    (fun k x => impl_TafText_F k x.1.1.1 x.1.1.2.1 x.1.1.2.2.1 x.1.1.2.2.2.1 x.1.1.2.2.2.2.1 x.1.1.2.2.2.2.2.1 x.1.1.2.2.2.2.2.2.1 x.1.1.2.2.2.2.2.2.2.1 x.1.1.2.2.2.2.2.2.2.2.1 x.1.1.2.2.2.2.2.2.2.2.2.1 x.1.1.2.2.2.2.2.2.2.2.2.2.1) (fun x => rfl) (fun k x => by kernel_rfl)
-- loop.example/g00051/spec.l21DayTime
noncomputable def spec_l21DayTime (a0 : Int) : Option (ByteArray) :=
  (spec_DateOf a0).bind fun val => (spec_l2Pad val.snd.snd.fst 2).bind fun val_1 => (spec_l2Pad val.snd.snd.snd.fst 2).bind fun val_2 => bif decide (ByteArray.size val_1 + ByteArray.size val_2 ≤ 9223372036854775807) then (spec_l2Pad val.snd.snd.snd.snd.fst 2).bind fun val => bif decide ((val_1 ++ val_2).size + ByteArray.size val ≤ 9223372036854775807) then some (val_1 ++ val_2 ++ val) else none else none
-- loop.example/g00051/spec.l21SpanText
noncomputable def spec_l21SpanText (a0 : Int) (a1 : Int) : Option (ByteArray) :=
  (spec_l21DayTime a1).bind fun val =>
   bif decide (0 ≤ 4) && decide (4 ≤ (↑(ByteArray.size val) : Int)) then
    bif decide (0 ≤ 2) && decide (2 ≤ (↑(ByteArray.extract val (Int.toNat 0) (Int.toNat 4)).size : Int)) then
     bif ((ByteArray.extract val (Int.toNat 0) (Int.toNat 4)).extract (Int.toNat 2) (↑(ByteArray.extract val (Int.toNat 0) (Int.toNat 4)).size : Int).toNat).toList == (bs [48, 48]).toList then (spec_l21DayTime (IntKind.i64.wrap (a1 - 60))).bind fun val => bif decide (0 ≤ 2) && decide (2 ≤ (↑(ByteArray.size val) : Int)) then bif decide ((ByteArray.extract val (Int.toNat 0) (Int.toNat 2)).size + (bs [50, 52]).size ≤ 9223372036854775807) then (spec_l21DayTime a0).bind fun val_1 => bif decide (0 ≤ 4) && decide (4 ≤ (↑(ByteArray.size val_1) : Int)) then bif decide ((ByteArray.extract val_1 (Int.toNat 0) (Int.toNat 4)).size + (bs [47]).size ≤ 9223372036854775807) then bif decide ((ByteArray.extract val_1 (Int.toNat 0) (Int.toNat 4) ++ bs [47]).size + (ByteArray.extract val (Int.toNat 0) (Int.toNat 2) ++ bs [50, 52]).size ≤ 9223372036854775807) then some (ByteArray.extract val_1 (Int.toNat 0) (Int.toNat 4) ++ bs [47] ++ (ByteArray.extract val (Int.toNat 0) (Int.toNat 2) ++ bs [50, 52])) else none else none else none else none else none
     else (spec_l21DayTime a0).bind fun val_1 => bif decide (0 ≤ 4) && decide (4 ≤ (↑(ByteArray.size val_1) : Int)) then bif decide ((ByteArray.extract val_1 (Int.toNat 0) (Int.toNat 4)).size + (bs [47]).size ≤ 9223372036854775807) then bif decide ((ByteArray.extract val_1 (Int.toNat 0) (Int.toNat 4) ++ bs [47]).size + (ByteArray.extract val (Int.toNat 0) (Int.toNat 4)).size ≤ 9223372036854775807) then some (ByteArray.extract val_1 (Int.toNat 0) (Int.toNat 4) ++ bs [47] ++ ByteArray.extract val (Int.toNat 0) (Int.toNat 4)) else none else none else none
    else none
   else none
-- loop.example/g00051/spec.l21Words
noncomputable def spec_l21Words_L3 : Nat → (List ByteArray) → ByteArray → Int → Option (ByteArray)
  | 0, _, _, _ => none
  | k + 1, a0, a1, a2 =>
  bif decide (a2 < (↑a0.length : Int)) then bif decide (a2 > 0) then bif decide (a1.size + (bs [32]).size ≤ 9223372036854775807) then bif decide (0 ≤ a2) then bif decide (a2 < (↑a0.length : Int)) then bif decide ((a1 ++ bs [32]).size + ByteArray.size (rd Kind.str a0 a2) ≤ 9223372036854775807) then spec_l21Words_L3 k a0 (a1 ++ bs [32] ++ rd Kind.str a0 a2) (IntKind.i64.wrap (a2 + 1)) else none else none else none else none else bif decide (0 ≤ a2) then bif decide (a2 < (↑a0.length : Int)) then bif decide (a1.size + ByteArray.size (rd Kind.str a0 a2) ≤ 9223372036854775807) then spec_l21Words_L3 k a0 (a1 ++ rd Kind.str a0 a2) (IntKind.i64.wrap (a2 + 1)) else none else none else none else some a1
noncomputable def spec_l21Words_F (k : Nat) (a0 : List ByteArray) : Option (ByteArray) :=
  spec_l21Words_L3 k a0 (bs []) 0
noncomputable def spec_l21Words (a0 : List ByteArray) : Option (ByteArray) := evF fun k => spec_l21Words_F k a0
-- loop.example/g00051/spec.SkyText
noncomputable def spec_SkyText (a0 : Int) (a1 : Int) (a2 : Int) (a3 : ByteArray) (a4 : ByteArray) (a5 : Int) : Option (ByteArray) :=
  (spec_SkyOk a0 a1 a2 a3 a4 a5).bind fun val =>
   bif !val then some (bs [])
   else
    bif a0 == 99 then
     (spec_l2Pad a1 2).bind fun val =>
      bif decide ((bs [86, 82, 66]).size + ByteArray.size val ≤ 9223372036854775807) then
       bif decide ((bs [86, 82, 66] ++ val).size + (bs [75, 84]).size ≤ 9223372036854775807) then
        bif decide (a2 ≥ 0) then (spec_l2Pad a2 4).bind fun val_1 => bif !a3.toList == (bs []).toList then bif a4.toList == (bs [83, 75, 67]).toList then (spec_l21Words ([] ++ [bs [86, 82, 66] ++ val ++ bs [75, 84]] ++ [val_1] ++ [a3] ++ [a4])).bind fun val => some val else bif !a4.toList == (bs []).toList then (spec_l2Pad a5 3).bind fun val_2 => bif decide (a4.size + ByteArray.size val_2 ≤ 9223372036854775807) then (spec_l21Words ([] ++ [bs [86, 82, 66] ++ val ++ bs [75, 84]] ++ [val_1] ++ [a3] ++ [a4 ++ val_2])).bind fun val => some val else none else (spec_l21Words ([] ++ [bs [86, 82, 66] ++ val ++ bs [75, 84]] ++ [val_1] ++ [a3])).bind fun val => some val else bif a4.toList == (bs [83, 75, 67]).toList then (spec_l21Words ([] ++ [bs [86, 82, 66] ++ val ++ bs [75, 84]] ++ [val_1] ++ [a4])).bind fun val => some val else bif !a4.toList == (bs []).toList then (spec_l2Pad a5 3).bind fun val_2 => bif decide (a4.size + ByteArray.size val_2 ≤ 9223372036854775807) then (spec_l21Words ([] ++ [bs [86, 82, 66] ++ val ++ bs [75, 84]] ++ [val_1] ++ [a4 ++ val_2])).bind fun val => some val else none else (spec_l21Words ([] ++ [bs [86, 82, 66] ++ val ++ bs [75, 84]] ++ [val_1])).bind fun val => some val
        else bif !a3.toList == (bs []).toList then bif a4.toList == (bs [83, 75, 67]).toList then (spec_l21Words ([] ++ [bs [86, 82, 66] ++ val ++ bs [75, 84]] ++ [a3] ++ [a4])).bind fun val => some val else bif !a4.toList == (bs []).toList then (spec_l2Pad a5 3).bind fun val_1 => bif decide (a4.size + ByteArray.size val_1 ≤ 9223372036854775807) then (spec_l21Words ([] ++ [bs [86, 82, 66] ++ val ++ bs [75, 84]] ++ [a3] ++ [a4 ++ val_1])).bind fun val => some val else none else (spec_l21Words ([] ++ [bs [86, 82, 66] ++ val ++ bs [75, 84]] ++ [a3])).bind fun val => some val else bif a4.toList == (bs [83, 75, 67]).toList then (spec_l21Words ([] ++ [bs [86, 82, 66] ++ val ++ bs [75, 84]] ++ [a4])).bind fun val => some val else bif !a4.toList == (bs []).toList then (spec_l2Pad a5 3).bind fun val_1 => bif decide (a4.size + ByteArray.size val_1 ≤ 9223372036854775807) then (spec_l21Words ([] ++ [bs [86, 82, 66] ++ val ++ bs [75, 84]] ++ [a4 ++ val_1])).bind fun val => some val else none else (spec_l21Words ([] ++ [bs [86, 82, 66] ++ val ++ bs [75, 84]])).bind fun val => some val
       else none
      else none
    else
     bif decide (a0 ≥ 0) then
      (spec_l2Pad (IntKind.i64.wrap (a0 * 10)) 3).bind fun val =>
       (spec_l2Pad a1 2).bind fun val_1 =>
        bif decide (ByteArray.size val + ByteArray.size val_1 ≤ 9223372036854775807) then
         bif decide ((val ++ val_1).size + (bs [75, 84]).size ≤ 9223372036854775807) then
          bif decide (a2 ≥ 0) then (spec_l2Pad a2 4).bind fun val_2 => bif !a3.toList == (bs []).toList then bif a4.toList == (bs [83, 75, 67]).toList then (spec_l21Words ([] ++ [val ++ val_1 ++ bs [75, 84]] ++ [val_2] ++ [a3] ++ [a4])).bind fun val => some val else bif !a4.toList == (bs []).toList then (spec_l2Pad a5 3).bind fun val_3 => bif decide (a4.size + ByteArray.size val_3 ≤ 9223372036854775807) then (spec_l21Words ([] ++ [val ++ val_1 ++ bs [75, 84]] ++ [val_2] ++ [a3] ++ [a4 ++ val_3])).bind fun val => some val else none else (spec_l21Words ([] ++ [val ++ val_1 ++ bs [75, 84]] ++ [val_2] ++ [a3])).bind fun val => some val else bif a4.toList == (bs [83, 75, 67]).toList then (spec_l21Words ([] ++ [val ++ val_1 ++ bs [75, 84]] ++ [val_2] ++ [a4])).bind fun val => some val else bif !a4.toList == (bs []).toList then (spec_l2Pad a5 3).bind fun val_3 => bif decide (a4.size + ByteArray.size val_3 ≤ 9223372036854775807) then (spec_l21Words ([] ++ [val ++ val_1 ++ bs [75, 84]] ++ [val_2] ++ [a4 ++ val_3])).bind fun val => some val else none else (spec_l21Words ([] ++ [val ++ val_1 ++ bs [75, 84]] ++ [val_2])).bind fun val => some val
          else bif !a3.toList == (bs []).toList then bif a4.toList == (bs [83, 75, 67]).toList then (spec_l21Words ([] ++ [val ++ val_1 ++ bs [75, 84]] ++ [a3] ++ [a4])).bind fun val => some val else bif !a4.toList == (bs []).toList then (spec_l2Pad a5 3).bind fun val_2 => bif decide (a4.size + ByteArray.size val_2 ≤ 9223372036854775807) then (spec_l21Words ([] ++ [val ++ val_1 ++ bs [75, 84]] ++ [a3] ++ [a4 ++ val_2])).bind fun val => some val else none else (spec_l21Words ([] ++ [val ++ val_1 ++ bs [75, 84]] ++ [a3])).bind fun val => some val else bif a4.toList == (bs [83, 75, 67]).toList then (spec_l21Words ([] ++ [val ++ val_1 ++ bs [75, 84]] ++ [a4])).bind fun val => some val else bif !a4.toList == (bs []).toList then (spec_l2Pad a5 3).bind fun val_2 => bif decide (a4.size + ByteArray.size val_2 ≤ 9223372036854775807) then (spec_l21Words ([] ++ [val ++ val_1 ++ bs [75, 84]] ++ [a4 ++ val_2])).bind fun val => some val else none else (spec_l21Words ([] ++ [val ++ val_1 ++ bs [75, 84]])).bind fun val => some val
         else none
        else none
     else
      bif decide (a2 ≥ 0) then (spec_l2Pad a2 4).bind fun val => bif !a3.toList == (bs []).toList then bif a4.toList == (bs [83, 75, 67]).toList then (spec_l21Words ([] ++ [val] ++ [a3] ++ [a4])).bind fun val => some val else bif !a4.toList == (bs []).toList then (spec_l2Pad a5 3).bind fun val_1 => bif decide (a4.size + ByteArray.size val_1 ≤ 9223372036854775807) then (spec_l21Words ([] ++ [val] ++ [a3] ++ [a4 ++ val_1])).bind fun val => some val else none else (spec_l21Words ([] ++ [val] ++ [a3])).bind fun val => some val else bif a4.toList == (bs [83, 75, 67]).toList then (spec_l21Words ([] ++ [val] ++ [a4])).bind fun val => some val else bif !a4.toList == (bs []).toList then (spec_l2Pad a5 3).bind fun val_1 => bif decide (a4.size + ByteArray.size val_1 ≤ 9223372036854775807) then (spec_l21Words ([] ++ [val] ++ [a4 ++ val_1])).bind fun val => some val else none else (spec_l21Words ([] ++ [val])).bind fun val => some val
      else bif !a3.toList == (bs []).toList then bif a4.toList == (bs [83, 75, 67]).toList then (spec_l21Words ([] ++ [a3] ++ [a4])).bind fun val => some val else bif !a4.toList == (bs []).toList then (spec_l2Pad a5 3).bind fun val => bif decide (a4.size + ByteArray.size val ≤ 9223372036854775807) then (spec_l21Words ([] ++ [a3] ++ [a4 ++ val])).bind fun val => some val else none else (spec_l21Words ([] ++ [a3])).bind fun val => some val else bif a4.toList == (bs [83, 75, 67]).toList then (spec_l21Words ([] ++ [a4])).bind fun val => some val else bif !a4.toList == (bs []).toList then (spec_l2Pad a5 3).bind fun val => bif decide (a4.size + ByteArray.size val ≤ 9223372036854775807) then (spec_l21Words ([] ++ [a4 ++ val])).bind fun val => some val else none else (spec_l21Words []).bind fun val => some val
-- loop.example/g00051/spec.TafText
noncomputable def spec_TafText_L5 : Nat → Int → ByteArray → Int → Int → Int → Int → Int → Int → ByteArray → ByteArray → Int → (List (Int × Int × Int × Int × Int × Int × ByteArray × ByteArray × Int)) → (List ByteArray) → Option (ByteArray)
  | 0, _, _, _, _, _, _, _, _, _, _, _, _, _ => none
  | k + 1, a0, a1, a2, a3, a4, a5, a6, a7, a8, a9, a10, a11, a12 =>
  bif decide (a0 < (↑a11.length : Int)) then
   bif decide (0 ≤ a0) then
    bif decide (a0 < (↑a11.length : Int)) then
     bif (rd K9_SA0 a11 a0).fst == 1 then
      (spec_l21DayTime (rd K9_SA0 a11 a0).snd.fst).bind fun val =>
       bif decide ((bs [70, 77]).size + ByteArray.size val ≤ 9223372036854775807) then
        bif decide (a12.length + [bs [70, 77] ++ val].length ≤ maxBytes / 16) then
         (spec_SkyText (rd K9_SA0 a11 a0).snd.snd.snd.fst (rd K9_SA0 a11 a0).snd.snd.snd.snd.fst (rd K9_SA0 a11 a0).snd.snd.snd.snd.snd.fst (rd K9_SA0 a11 a0).snd.snd.snd.snd.snd.snd.fst (rd K9_SA0 a11 a0).snd.snd.snd.snd.snd.snd.snd.fst
            (rd K9_SA0 a11 a0).snd.snd.snd.snd.snd.snd.snd.snd).bind
          fun val_1 => bif decide ((a12 ++ [bs [70, 77] ++ val]).length + [val_1].length ≤ maxBytes / 16) then spec_TafText_L5 k (IntKind.i64.wrap (a0 + 1)) a1 a2 a3 a4 a5 a6 a7 a8 a9 a10 a11 (a12 ++ [bs [70, 77] ++ val] ++ [val_1]) else none
        else none
       else none
     else
      bif (rd K9_SA0 a11 a0).fst == 2 then
       (spec_l21SpanText (rd K9_SA0 a11 a0).snd.fst (rd K9_SA0 a11 a0).snd.snd.fst).bind fun val =>
        bif decide (a12.length + [bs [66, 69, 67, 77, 71], val].length ≤ maxBytes / 16) then
         (spec_SkyText (rd K9_SA0 a11 a0).snd.snd.snd.fst (rd K9_SA0 a11 a0).snd.snd.snd.snd.fst (rd K9_SA0 a11 a0).snd.snd.snd.snd.snd.fst (rd K9_SA0 a11 a0).snd.snd.snd.snd.snd.snd.fst (rd K9_SA0 a11 a0).snd.snd.snd.snd.snd.snd.snd.fst
            (rd K9_SA0 a11 a0).snd.snd.snd.snd.snd.snd.snd.snd).bind
          fun val_1 => bif decide ((a12 ++ [bs [66, 69, 67, 77, 71], val]).length + [val_1].length ≤ maxBytes / 16) then spec_TafText_L5 k (IntKind.i64.wrap (a0 + 1)) a1 a2 a3 a4 a5 a6 a7 a8 a9 a10 a11 (a12 ++ [bs [66, 69, 67, 77, 71], val] ++ [val_1]) else none
        else none
      else
       bif (rd K9_SA0 a11 a0).fst == 3 then
        (spec_l21SpanText (rd K9_SA0 a11 a0).snd.fst (rd K9_SA0 a11 a0).snd.snd.fst).bind fun val =>
         bif decide (a12.length + [bs [84, 69, 77, 80, 79], val].length ≤ maxBytes / 16) then
          (spec_SkyText (rd K9_SA0 a11 a0).snd.snd.snd.fst (rd K9_SA0 a11 a0).snd.snd.snd.snd.fst (rd K9_SA0 a11 a0).snd.snd.snd.snd.snd.fst (rd K9_SA0 a11 a0).snd.snd.snd.snd.snd.snd.fst (rd K9_SA0 a11 a0).snd.snd.snd.snd.snd.snd.snd.fst
             (rd K9_SA0 a11 a0).snd.snd.snd.snd.snd.snd.snd.snd).bind
           fun val_1 => bif decide ((a12 ++ [bs [84, 69, 77, 80, 79], val]).length + [val_1].length ≤ maxBytes / 16) then spec_TafText_L5 k (IntKind.i64.wrap (a0 + 1)) a1 a2 a3 a4 a5 a6 a7 a8 a9 a10 a11 (a12 ++ [bs [84, 69, 77, 80, 79], val] ++ [val_1]) else none
         else none
       else
        (spec_l21SpanText (rd K9_SA0 a11 a0).snd.fst (rd K9_SA0 a11 a0).snd.snd.fst).bind fun val =>
         bif decide (a12.length + [bs [80, 82, 79, 66, 51, 48], val].length ≤ maxBytes / 16) then
          (spec_SkyText (rd K9_SA0 a11 a0).snd.snd.snd.fst (rd K9_SA0 a11 a0).snd.snd.snd.snd.fst (rd K9_SA0 a11 a0).snd.snd.snd.snd.snd.fst (rd K9_SA0 a11 a0).snd.snd.snd.snd.snd.snd.fst (rd K9_SA0 a11 a0).snd.snd.snd.snd.snd.snd.snd.fst
             (rd K9_SA0 a11 a0).snd.snd.snd.snd.snd.snd.snd.snd).bind
           fun val_1 => bif decide ((a12 ++ [bs [80, 82, 79, 66, 51, 48], val]).length + [val_1].length ≤ maxBytes / 16) then spec_TafText_L5 k (IntKind.i64.wrap (a0 + 1)) a1 a2 a3 a4 a5 a6 a7 a8 a9 a10 a11 (a12 ++ [bs [80, 82, 79, 66, 51, 48], val] ++ [val_1]) else none
         else none
    else none
   else none
  else (spec_l21Words a12).bind fun val => bif decide (ByteArray.size val + (bs [61]).size ≤ 9223372036854775807) then some (val ++ bs [61]) else none
noncomputable def spec_TafText_F (k : Nat) (a0 : ByteArray) (a1 : Int) (a2 : Int) (a3 : Int) (a4 : Int) (a5 : Int) (a6 : Int) (a7 : ByteArray) (a8 : ByteArray) (a9 : Int) (a10 : List (Int × Int × Int × Int × Int × Int × ByteArray × ByteArray × Int)) : Option (ByteArray) :=
  (spec_TafOk a0 a1 a2 a3 a4 a5 a6 a7 a8 a9 a10).bind fun val => bif !val then some (bs []) else (spec_l21DayTime a1).bind fun val => bif decide (ByteArray.size val + (bs [90]).size ≤ 9223372036854775807) then (spec_l21SpanText a2 a3).bind fun val_1 => (spec_SkyText a4 a5 a6 a7 a8 a9).bind fun val_2 => spec_TafText_L5 k 0 a0 a1 a2 a3 a4 a5 a6 a7 a8 a9 a10 [bs [84, 65, 70], a0, val ++ bs [90], val_1, val_2] else none
noncomputable def spec_TafText (a0 : ByteArray) (a1 : Int) (a2 : Int) (a3 : Int) (a4 : Int) (a5 : Int) (a6 : Int) (a7 : ByteArray) (a8 : ByteArray) (a9 : Int) (a10 : List (Int × Int × Int × Int × Int × Int × ByteArray × ByteArray × Int)) : Option (ByteArray) := evF fun k => spec_TafText_F k a0 a1 a2 a3 a4 a5 a6 a7 a8 a9 a10
end Go.Proofs.YtondfjckadlabaaGreatDoor.TT
