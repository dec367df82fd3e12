/-
  Part of a proof by the engine: texts that a program of ours printed, or plain lemmas on them. No condition but what each theorem says.
-/
import Derived.Test.YtmcmkdiefpepnaaDoorDT
import Derived.Test.YtmcmkdiefpepnaaDoorDR
import Derived.Test.YtmcmkdiefpepnaaDoorRH
import Derived.Test.YtmcmkdiefpepnaaDoorEng5
import Derived.Test.YtmcmkdiefpepnaaDoorProg
import Derived.KernelRfl
import Derived.Test.YtmcmkdiefpepnaaDoorDoors2
import Derived.Test.YtmcmkdiefpepnaaDoorDoors5
import Derived.Test.YtmcmkdiefpepnaaDoorDoors6
set_option linter.unusedVariables false
set_option linter.unusedSimpArgs false
set_option maxRecDepth 100000
namespace Go.Proofs.YtmcmkdiefpepnaaDoor.HD
open Go Go.Eng Go.Proofs
open Go.Proofs.YtmcmkdiefpepnaaDoor.EX
open Go.Proofs.YtmcmkdiefpepnaaDoor.DT hiding gl
open Go.Proofs.YtmcmkdiefpepnaaDoor.DR hiding gl
open Go.Proofs.YtmcmkdiefpepnaaDoor.RH hiding gl
noncomputable def gl : Nat → Option (List Cell) := glOf [(6, L_strconv_uint64pow10.map (Cell.int .u64))]
theorem gl_DT : ∀ g cs, Go.Proofs.YtmcmkdiefpepnaaDoor.DT.gl g = some cs → gl g = some cs := glOf_mono (by intro p hp; simp only [List.mem_cons, List.not_mem_nil, or_false] at hp; subst hp <;> rfl)
theorem gl_DR : ∀ g cs, Go.Proofs.YtmcmkdiefpepnaaDoor.DR.gl g = some cs → gl g = some cs := glOf_mono (by intro p hp; cases hp)
theorem gl_RH : ∀ g cs, Go.Proofs.YtmcmkdiefpepnaaDoor.RH.gl g = some cs → gl g = some cs := glOf_mono (by intro p hp; simp only [List.mem_cons, List.not_mem_nil, or_false] at hp; subst hp <;> rfl)
-- loop.example/g00051/laws.big
noncomputable def i_laws_big : Shape := ⟨[(0, .c (.sl (.int .u8)))], []⟩
noncomputable def o_laws_big : Shape := ⟨[(0, .c (.bool))], []⟩
noncomputable def laws_big (a0 : List Int) : Option (Bool) :=
  some (decide ((↑a0.length : Int) > 1048576))
noncomputable def g_laws_big : Sg := ⟨i_laws_big, o_laws_big, Bool, fun y => ((y, ()), ()), fun x => laws_big x.1.1⟩
noncomputable def C_laws_big : Ctx := ⟨6, tiOf Tryd.prog, gl, sgOf []⟩
noncomputable def r_laws_big : AExit → Env → Option (Bool) := retK C_laws_big 0 o_laws_big (fun y => y.1.1) Tryd.f34.results.toList
theorem e_laws_big : Sound Tryd.prog gl 34 g_laws_big :=
  sound_plain (C := C_laws_big) ⟨fun _ _ h => h, by kernel_rfl⟩ (sgOf_all' trivial) 34 Tryd.f34 g_laws_big (fun y => y.1.1) (by kernel_rfl) (by kernel_rfl) (by kernel_rfl) (by kernel_rfl) (by kernel_rfl) (by kernel_rfl) (fun _ => rfl) (fun x => by kernel_rfl)
-- (*loop.example/g00051/spec.l1Rd).mark
noncomputable def i_spec_l1Rd_mark : Shape := ⟨[(0, .c (.ptr 0 0))], [.box 154 [.sl (.int .u8), .int .i64]]⟩
noncomputable def o_spec_l1Rd_mark : Shape := ⟨[(0, .c (.str))], [.box 154 [.sl (.int .u8), .int .i64]]⟩
noncomputable def spec_l1Rd_mark (a0 : List Int) (a1 : Int) : Option (ByteArray × (List Int) × Int) :=
  (spec_l1Rd_below 26 a0 a1).bind fun val =>
   (spec_l1Rd_below 8 val.snd.fst val.snd.snd).bind fun val_1 => bif val_1.fst == 0 then some (bs [], val_1.snd.fst, val_1.snd.snd) else bif val_1.fst == 1 then some (bs [], val_1.snd.fst, val_1.snd.snd) else bif val_1.fst == 2 then some (bs [], val_1.snd.fst, val_1.snd.snd) else bif val_1.fst == 3 then some (bs [82, 82] ++ bytesOf [IntKind.u8.wrap (IntKind.i64.wrap (65 + val.fst))], val_1.snd.fst, val_1.snd.snd) else bif val_1.fst == 4 then some (bs [67, 67] ++ bytesOf [IntKind.u8.wrap (IntKind.i64.wrap (65 + val.fst))], val_1.snd.fst, val_1.snd.snd) else bif val_1.fst == 5 then some (bs [65, 65] ++ bytesOf [IntKind.u8.wrap (IntKind.i64.wrap (65 + val.fst))], val_1.snd.fst, val_1.snd.snd) else bif val_1.fst == 6 then (spec_l1Rd_below 26 val_1.snd.fst val_1.snd.snd).bind fun val_2 => some (bs [80] ++ bytesOf [IntKind.u8.wrap (IntKind.i64.wrap (65 + val_2.fst))] ++ bytesOf [IntKind.u8.wrap (IntKind.i64.wrap (65 + val.fst))], val_2.snd.fst, val_2.snd.snd) else (spec_l1Rd_below 5 val_1.snd.fst val_1.snd.snd).bind fun val => bif decide (0 ≤ val.fst) then bif decide (val.fst < (↑[bs [82, 82, 88], bs [67, 67, 88], bs [80, 90, 90], bs [80, 65, 65], bs [65, 65, 88]].length : Int)) then bif decide (val.fst < (↑[bs [82, 82, 88], bs [67, 67, 88], bs [80, 90, 90], bs [80, 65, 65], bs [65, 65, 88]].length : Int)) then some (rd Kind.str [bs [82, 82, 88], bs [67, 67, 88], bs [80, 90, 90], bs [80, 65, 65], bs [65, 65, 88]] val.fst, val.snd.fst, val.snd.snd) else none else none else none
noncomputable def g_spec_l1Rd_mark : Sg := ⟨i_spec_l1Rd_mark, o_spec_l1Rd_mark, ByteArray × (List Int) × Int, fun y => ((y.1, ()), ((y.2.1, y.2.2, ()), ())), fun x => spec_l1Rd_mark x.2.1.1 x.2.1.2.1⟩
noncomputable def C_spec_l1Rd_mark : Ctx := ⟨44, tiOf Tryd.prog, gl, sgOf [(116, g_spec_l1Rd_below)]⟩
noncomputable def r_spec_l1Rd_mark : AExit → Env → Option (ByteArray × (List Int) × Int) := retK C_spec_l1Rd_mark 1 o_spec_l1Rd_mark (fun y => (y.1.1, y.2.1.1, y.2.1.2.1)) Tryd.f153.results.toList
theorem e_spec_l1Rd_mark : Sound Tryd.prog gl 153 g_spec_l1Rd_mark :=
  sound_plain (C := C_spec_l1Rd_mark) ⟨fun _ _ h => h, by kernel_rfl⟩ (sgOf_all' ⟨.inl ⟨by kernel_rfl, (Sound.mono gl_DR (by rfl) e_spec_l1Rd_below)⟩, trivial⟩) 153 Tryd.f153 g_spec_l1Rd_mark (fun y => (y.1.1, y.2.1.1, y.2.1.2.1)) (by kernel_rfl) (by kernel_rfl) (by kernel_rfl) (by kernel_rfl) (by kernel_rfl) (by kernel_rfl) (fun _ => rfl) (fun x => by kernel_rfl)
-- (*loop.example/g00051/spec.l1Rd).heading
noncomputable def i_spec_l1Rd_heading : Shape := ⟨[(0, .c (.ptr 0 0))], [.box 154 [.sl (.int .u8), .int .i64]]⟩
noncomputable def o_spec_l1Rd_heading : Shape := ⟨[(0, .agg [.str, .str, .int .i64, .str, .int .i64, .int .i64, .int .i64, .str])], [.box 154 [.sl (.int .u8), .int .i64]]⟩
noncomputable def spec_l1Rd_heading (a0 : List Int) (a1 : Int) : Option (ByteArray × ByteArray × Int × ByteArray × Int × Int × Int × ByteArray × (List Int) × Int) :=
  (spec_l1Rd_below 5 a0 a1).bind fun val =>
   bif decide (0 ≤ val.fst) then
    bif decide (val.fst < (↑[bs [83, 77], bs [83, 73], bs [85, 83], bs [70, 84], bs [87, 87]].length : Int)) then
     bif decide (val.fst < (↑[bs [83, 77], bs [83, 73], bs [85, 83], bs [70, 84], bs [87, 87]].length : Int)) then
      (spec_l1Rd_below 3 val.snd.fst val.snd.snd).bind fun val_1 =>
       bif decide (0 ≤ val_1.fst) then
        bif decide (val_1.fst < (↑[bs [68, 76], bs [78, 79], bs [88, 88]].length : Int)) then
         bif decide (val_1.fst < (↑[bs [68, 76], bs [78, 79], bs [88, 88]].length : Int)) then
          (spec_l1Rd_below 100 val_1.snd.fst val_1.snd.snd).bind fun val_2 => (spec_l1Rd_below 3 val_2.snd.fst val_2.snd.snd).bind fun val_3 => bif decide (0 ≤ val_3.fst) then bif decide (val_3.fst < (↑[bs [65, 77, 77, 67], bs [69, 78, 77, 73], bs [75, 49, 65, 65]].length : Int)) then bif decide (val_3.fst < (↑[bs [65, 77, 77, 67], bs [69, 78, 77, 73], bs [75, 49, 65, 65]].length : Int)) then (spec_l1Rd_below 31 val_3.snd.fst val_3.snd.snd).bind fun val_4 => (spec_l1Rd_below 24 val_4.snd.fst val_4.snd.snd).bind fun val_5 => (spec_l1Rd_below 60 val_5.snd.fst val_5.snd.snd).bind fun val_6 => (spec_l1Rd_mark val_6.snd.fst val_6.snd.snd).bind fun val_7 => (spec_MarkOf val_7.fst).bind fun val_8 => bif decide (val_8.fst < 0) then some (rd Kind.str [bs [83, 77], bs [83, 73], bs [85, 83], bs [70, 84], bs [87, 87]] val.fst, rd Kind.str [bs [68, 76], bs [78, 79], bs [88, 88]] val_1.fst, val_2.fst, rd Kind.str [bs [65, 77, 77, 67], bs [69, 78, 77, 73], bs [75, 49, 65, 65]] val_3.fst, IntKind.i64.wrap (1 + val_4.fst), val_5.fst, val_6.fst, bs [67, 67, 65], val_7.snd.fst, val_7.snd.snd) else some (rd Kind.str [bs [83, 77], bs [83, 73], bs [85, 83], bs [70, 84], bs [87, 87]] val.fst, rd Kind.str [bs [68, 76], bs [78, 79], bs [88, 88]] val_1.fst, val_2.fst, rd Kind.str [bs [65, 77, 77, 67], bs [69, 78, 77, 73], bs [75, 49, 65, 65]] val_3.fst, IntKind.i64.wrap (1 + val_4.fst), val_5.fst, val_6.fst, val_7.fst, val_7.snd.fst, val_7.snd.snd) else none else none else none
         else none
        else none
       else none
     else none
    else none
   else none
noncomputable def g_spec_l1Rd_heading : Sg := ⟨i_spec_l1Rd_heading, o_spec_l1Rd_heading, ByteArray × ByteArray × Int × ByteArray × Int × Int × Int × ByteArray × (List Int) × Int, fun y => (((y.1, y.2.1, y.2.2.1, y.2.2.2.1, y.2.2.2.2.1, y.2.2.2.2.2.1, y.2.2.2.2.2.2.1, y.2.2.2.2.2.2.2.1, ()), ()), ((y.2.2.2.2.2.2.2.2.1, y.2.2.2.2.2.2.2.2.2, ()), ())), fun x => spec_l1Rd_heading x.2.1.1 x.2.1.2.1⟩
noncomputable def C_spec_l1Rd_heading : Ctx := ⟨43, tiOf Tryd.prog, gl, sgOf [(116, g_spec_l1Rd_below), (153, g_spec_l1Rd_mark), (135, g_spec_MarkOf)]⟩
noncomputable def r_spec_l1Rd_heading : AExit → Env → Option (ByteArray × ByteArray × Int × ByteArray × Int × Int × Int × ByteArray × (List Int) × Int) := retK C_spec_l1Rd_heading 1 o_spec_l1Rd_heading (fun y => (y.1.1.1, y.1.1.2.1, y.1.1.2.2.1, y.1.1.2.2.2.1, y.1.1.2.2.2.2.1, y.1.1.2.2.2.2.2.1, y.1.1.2.2.2.2.2.2.1, y.1.1.2.2.2.2.2.2.2.1, y.2.1.1, y.2.1.2.1)) Tryd.f115.results.toList
theorem e_spec_l1Rd_heading : Sound Tryd.prog gl 115 g_spec_l1Rd_heading :=
  sound_plain (C := C_spec_l1Rd_heading) ⟨fun _ _ h => h, by kernel_rfl⟩ (sgOf_all' ⟨.inl ⟨by kernel_rfl, (Sound.mono gl_DR (by rfl) e_spec_l1Rd_below)⟩, .inl ⟨by kernel_rfl, e_spec_l1Rd_mark⟩, .inl ⟨by kernel_rfl, (Sound.mono gl_RH (by rfl) e_spec_MarkOf)⟩, trivial⟩) 115 Tryd.f115 g_spec_l1Rd_heading (fun y => (y.1.1.1, y.1.1.2.1, y.1.1.2.2.1, y.1.1.2.2.2.1, y.1.1.2.2.2.2.1, y.1.1.2.2.2.2.2.1, y.1.1.2.2.2.2.2.2.1, y.1.1.2.2.2.2.2.2.2.1, y.2.1.1, y.2.1.2.1)) (by kernel_rfl) (by kernel_rfl) (by kernel_rfl) (by kernel_rfl) (by kernel_rfl) (by kernel_rfl) (fun _ => rfl) (fun x => by kernel_rfl)
-- loop.example/g00051/spec.DrawHeadingText
noncomputable def i_spec_DrawHeadingText : Shape := ⟨[(0, .c (.sl (.int .u8)))], []⟩
noncomputable def o_spec_DrawHeadingText : Shape := ⟨[(0, .agg [.str, .str, .int .i64, .str, .int .i64, .int .i64, .int .i64, .str])], []⟩
noncomputable def spec_DrawHeadingText (a0 : List Int) : Option (ByteArray × ByteArray × Int × ByteArray × Int × Int × Int × ByteArray) :=
  (spec_l1Open a0).bind fun val =>
   (spec_l1Rd_heading val.fst val.snd).bind fun val =>
    (spec_l1Rd_below 16 val.snd.snd.snd.snd.snd.snd.snd.snd.fst val.snd.snd.snd.snd.snd.snd.snd.snd.snd).bind fun val_1 =>
     bif val_1.fst == 0 then (spec_l1Rd_below 4 val_1.snd.fst val_1.snd.snd).bind fun val_2 => bif decide (0 ≤ val_2.fst) then bif decide (val_2.fst < (↑[bs [83], bs [83, 77, 77], bs [115, 109], bs []].length : Int)) then bif decide (val_2.fst < (↑[bs [83], bs [83, 77, 77], bs [115, 109], bs []].length : Int)) then some (rd Kind.str [bs [83], bs [83, 77, 77], bs [115, 109], bs []] val_2.fst, val.snd.fst, val.snd.snd.fst, val.snd.snd.snd.fst, val.snd.snd.snd.snd.fst, val.snd.snd.snd.snd.snd.fst, val.snd.snd.snd.snd.snd.snd.fst, val.snd.snd.snd.snd.snd.snd.snd.fst) else none else none else none
     else
      bif val_1.fst == 1 then some (val.fst, bs [49, 76], val.snd.snd.fst, val.snd.snd.snd.fst, val.snd.snd.snd.snd.fst, val.snd.snd.snd.snd.snd.fst, val.snd.snd.snd.snd.snd.snd.fst, val.snd.snd.snd.snd.snd.snd.snd.fst)
      else
       bif val_1.fst == 2 then (spec_l1Rd_below 3 val_1.snd.fst val_1.snd.snd).bind fun val_2 => bif decide (0 ≤ val_2.fst) then bif decide (val_2.fst < (↑[-1, 100, 99].length : Int)) then bif decide (val_2.fst < (↑[-1, 100, 99].length : Int)) then some (val.fst, val.snd.fst, rd (Kind.int IntKind.i64) [-1, 100, 99] val_2.fst, val.snd.snd.snd.fst, val.snd.snd.snd.snd.fst, val.snd.snd.snd.snd.snd.fst, val.snd.snd.snd.snd.snd.snd.fst, val.snd.snd.snd.snd.snd.snd.snd.fst) else none else none else none
       else
        bif val_1.fst == 3 then (spec_l1Rd_below 3 val_1.snd.fst val_1.snd.snd).bind fun val_2 => bif decide (0 ≤ val_2.fst) then bif decide (val_2.fst < (↑[bs [49, 77, 77, 67], bs [65, 77, 77], bs [65, 77, 32, 67]].length : Int)) then bif decide (val_2.fst < (↑[bs [49, 77, 77, 67], bs [65, 77, 77], bs [65, 77, 32, 67]].length : Int)) then some (val.fst, val.snd.fst, val.snd.snd.fst, rd Kind.str [bs [49, 77, 77, 67], bs [65, 77, 77], bs [65, 77, 32, 67]] val_2.fst, val.snd.snd.snd.snd.fst, val.snd.snd.snd.snd.snd.fst, val.snd.snd.snd.snd.snd.snd.fst, val.snd.snd.snd.snd.snd.snd.snd.fst) else none else none else none
        else bif val_1.fst == 4 then (spec_l1Rd_below 2 val_1.snd.fst val_1.snd.snd).bind fun val_2 => bif decide (0 ≤ val_2.fst) then bif decide (val_2.fst < (↑[0, 32].length : Int)) then bif decide (val_2.fst < (↑[0, 32].length : Int)) then some (val.fst, val.snd.fst, val.snd.snd.fst, val.snd.snd.snd.fst, rd (Kind.int IntKind.i64) [0, 32] val_2.fst, val.snd.snd.snd.snd.snd.fst, val.snd.snd.snd.snd.snd.snd.fst, val.snd.snd.snd.snd.snd.snd.snd.fst) else none else none else none else bif val_1.fst == 5 then some (val.fst, val.snd.fst, val.snd.snd.fst, val.snd.snd.snd.fst, val.snd.snd.snd.snd.fst, 24, val.snd.snd.snd.snd.snd.snd.fst, val.snd.snd.snd.snd.snd.snd.snd.fst) else bif val_1.fst == 6 then (spec_l1Rd_below 3 val_1.snd.fst val_1.snd.snd).bind fun val_2 => bif decide (0 ≤ val_2.fst) then bif decide (val_2.fst < (↑[bs [82, 82, 89], bs [88], bs [80, 65, 49]].length : Int)) then bif decide (val_2.fst < (↑[bs [82, 82, 89], bs [88], bs [80, 65, 49]].length : Int)) then some (val.fst, val.snd.fst, val.snd.snd.fst, val.snd.snd.snd.fst, val.snd.snd.snd.snd.fst, val.snd.snd.snd.snd.snd.fst, val.snd.snd.snd.snd.snd.snd.fst, rd Kind.str [bs [82, 82, 89], bs [88], bs [80, 65, 49]] val_2.fst) else none else none else none else some (val.fst, val.snd.fst, val.snd.snd.fst, val.snd.snd.snd.fst, val.snd.snd.snd.snd.fst, val.snd.snd.snd.snd.snd.fst, val.snd.snd.snd.snd.snd.snd.fst, val.snd.snd.snd.snd.snd.snd.snd.fst)
noncomputable def g_spec_DrawHeadingText : Sg := ⟨i_spec_DrawHeadingText, o_spec_DrawHeadingText, ByteArray × ByteArray × Int × ByteArray × Int × Int × Int × ByteArray, fun y => (((y.1, y.2.1, y.2.2.1, y.2.2.2.1, y.2.2.2.2.1, y.2.2.2.2.2.1, y.2.2.2.2.2.2.1, y.2.2.2.2.2.2.2, ()), ()), ()), fun x => spec_DrawHeadingText x.1.1⟩
noncomputable def C_spec_DrawHeadingText : Ctx := ⟨58, tiOf Tryd.prog, gl, sgOf [(89, g_spec_l1Open), (115, g_spec_l1Rd_heading), (116, g_spec_l1Rd_below)]⟩
noncomputable def r_spec_DrawHeadingText : AExit → Env → Option (ByteArray × ByteArray × Int × ByteArray × Int × Int × Int × ByteArray) := retK C_spec_DrawHeadingText 0 o_spec_DrawHeadingText (fun y => (y.1.1.1, y.1.1.2.1, y.1.1.2.2.1, y.1.1.2.2.2.1, y.1.1.2.2.2.2.1, y.1.1.2.2.2.2.2.1, y.1.1.2.2.2.2.2.2.1, y.1.1.2.2.2.2.2.2.2.1)) Tryd.f56.results.toList
theorem e_spec_DrawHeadingText : Sound Tryd.prog gl 56 g_spec_DrawHeadingText :=
  sound_plain (C := C_spec_DrawHeadingText) ⟨fun _ _ h => h, by kernel_rfl⟩ (sgOf_all' ⟨.inl ⟨by kernel_rfl, (Sound.mono gl_DR (by rfl) e_spec_l1Open)⟩, .inl ⟨by kernel_rfl, e_spec_l1Rd_heading⟩, .inl ⟨by kernel_rfl, (Sound.mono gl_DR (by rfl) e_spec_l1Rd_below)⟩, trivial⟩) 56 Tryd.f56 g_spec_DrawHeadingText (fun y => (y.1.1.1, y.1.1.2.1, y.1.1.2.2.1, y.1.1.2.2.2.1, y.1.1.2.2.2.2.1, y.1.1.2.2.2.2.2.1, y.1.1.2.2.2.2.2.2.1, y.1.1.2.2.2.2.2.2.2.1)) (by kernel_rfl) (by kernel_rfl) (by kernel_rfl) (by kernel_rfl) (by kernel_rfl) (by kernel_rfl) (fun _ => rfl) (fun x => by kernel_rfl)
-- loop.example/g00051/spec.HeadingText
noncomputable def i_spec_HeadingText : Shape := ⟨[(0, .agg [.str, .str, .int .i64, .str, .int .i64, .int .i64, .int .i64, .str])], []⟩
noncomputable def o_spec_HeadingText : Shape := ⟨[(0, .tup [(false, [.str]), (false, [.bool])])], []⟩
noncomputable def spec_HeadingText (a0 : ByteArray) (a1 : ByteArray) (a2 : Int) (a3 : ByteArray) (a4 : Int) (a5 : Int) (a6 : Int) (a7 : ByteArray) : Option (ByteArray × Bool) :=
  (spec_l4HeadingOk a0 a1 a2 a3 a4 a5 a6 a7).bind fun val =>
   bif !val then some (bs [], false)
   else
    bif decide (a0.size + a1.size ≤ 9223372036854775807) then
     (spec_l2Pad a2 2).bind fun val => bif decide ((a0 ++ a1).size + ByteArray.size val ≤ 9223372036854775807) then bif decide ((a0 ++ a1 ++ val).size + (bs [32]).size ≤ 9223372036854775807) then bif decide ((a0 ++ a1 ++ val ++ bs [32]).size + a3.size ≤ 9223372036854775807) then bif decide ((a0 ++ a1 ++ val ++ bs [32] ++ a3).size + (bs [32]).size ≤ 9223372036854775807) then (spec_l2Pad a4 2).bind fun val_1 => bif decide ((a0 ++ a1 ++ val ++ bs [32] ++ a3 ++ bs [32]).size + ByteArray.size val_1 ≤ 9223372036854775807) then (spec_l2Pad a5 2).bind fun val_2 => bif decide ((a0 ++ a1 ++ val ++ bs [32] ++ a3 ++ bs [32] ++ val_1).size + ByteArray.size val_2 ≤ 9223372036854775807) then (spec_l2Pad a6 2).bind fun val_3 => bif decide ((a0 ++ a1 ++ val ++ bs [32] ++ a3 ++ bs [32] ++ val_1 ++ val_2).size + ByteArray.size val_3 ≤ 9223372036854775807) then bif !a7.toList == (bs []).toList then bif decide ((a0 ++ a1 ++ val ++ bs [32] ++ a3 ++ bs [32] ++ val_1 ++ val_2 ++ val_3).size + (bs [32]).size ≤ 9223372036854775807) then bif decide ((a0 ++ a1 ++ val ++ bs [32] ++ a3 ++ bs [32] ++ val_1 ++ val_2 ++ val_3 ++ bs [32]).size + a7.size ≤ 9223372036854775807) then some (a0 ++ a1 ++ val ++ bs [32] ++ a3 ++ bs [32] ++ val_1 ++ val_2 ++ val_3 ++ bs [32] ++ a7, true) else none else none else some (a0 ++ a1 ++ val ++ bs [32] ++ a3 ++ bs [32] ++ val_1 ++ val_2 ++ val_3, true) else none else none else none else none else none else none else none
    else none
noncomputable def g_spec_HeadingText : Sg := ⟨i_spec_HeadingText, o_spec_HeadingText, ByteArray × Bool, fun y => ((((y.1, ()), (y.2, ()), ()), ()), ()), fun x => spec_HeadingText x.1.1.1 x.1.1.2.1 x.1.1.2.2.1 x.1.1.2.2.2.1 x.1.1.2.2.2.2.1 x.1.1.2.2.2.2.2.1 x.1.1.2.2.2.2.2.2.1 x.1.1.2.2.2.2.2.2.2.1⟩
noncomputable def C_spec_HeadingText : Ctx := ⟨43, tiOf Tryd.prog, gl, sgOf [(80, g_spec_l4HeadingOk), (81, g_spec_l2Pad)]⟩
noncomputable def r_spec_HeadingText : AExit → Env → Option (ByteArray × Bool) := retK C_spec_HeadingText 0 o_spec_HeadingText (fun y => (y.1.1.1.1, y.1.1.2.1.1)) Tryd.f27.results.toList
theorem e_spec_HeadingText : Sound Tryd.prog gl 27 g_spec_HeadingText :=
  sound_plain (C := C_spec_HeadingText) ⟨fun _ _ h => h, by kernel_rfl⟩ (sgOf_all' ⟨.inl ⟨by kernel_rfl, (Sound.mono gl_RH (by rfl) e_spec_l4HeadingOk)⟩, .inl ⟨by kernel_rfl, (Sound.mono gl_DT (by rfl) e_spec_l2Pad)⟩, trivial⟩) 27 Tryd.f27 g_spec_HeadingText (fun y => (y.1.1.1.1, y.1.1.2.1.1)) (by kernel_rfl) (by kernel_rfl) (by kernel_rfl) (by kernel_rfl) (by kernel_rfl) (by kernel_rfl) (fun _ => rfl) (fun x => by kernel_rfl)
-- loop.example/g00051/impl.headingOk
noncomputable def i_impl_headingOk : Shape := ⟨[(0, .agg [.str, .str, .int .i64, .str, .int .i64, .int .i64, .int .i64, .str])], []⟩
noncomputable def o_impl_headingOk : Shape := ⟨[(0, .c (.bool))], []⟩
noncomputable def impl_headingOk (a0 : ByteArray) (a1 : ByteArray) (a2 : Int) (a3 : ByteArray) (a4 : Int) (a5 : Int) (a6 : Int) (a7 : ByteArray) : Option (Bool) :=
  (impl_MarkOf a7).bind fun val => (impl_capitals a0 2).bind fun val_1 => bif val_1 then (impl_capitals a1 2).bind fun val_2 => bif val_2 then (impl_in a2 0 99).bind fun val_3 => bif val_3 then (impl_centreOk a3).bind fun val_4 => bif val_4 then (impl_in a4 1 31).bind fun val_5 => bif val_5 then (impl_in a5 0 23).bind fun val_6 => bif val_6 then (impl_in a6 0 59).bind fun val_7 => bif val_7 then some (val.fst != -1) else some false else some false else some false else some false else some false else some false else some false
noncomputable def g_impl_headingOk : Sg := ⟨i_impl_headingOk, o_impl_headingOk, Bool, fun y => ((y, ()), ()), fun x => impl_headingOk x.1.1.1 x.1.1.2.1 x.1.1.2.2.1 x.1.1.2.2.2.1 x.1.1.2.2.2.2.1 x.1.1.2.2.2.2.2.1 x.1.1.2.2.2.2.2.2.1 x.1.1.2.2.2.2.2.2.2.1⟩
noncomputable def C_impl_headingOk : Ctx := ⟨48, tiOf Tryd.prog, gl, sgOf [(110, g_impl_MarkOf), (107, g_impl_capitals), (73, g_impl_in), (109, g_impl_centreOk)]⟩
noncomputable def r_impl_headingOk : AExit → Env → Option (Bool) := retK C_impl_headingOk 0 o_impl_headingOk (fun y => y.1.1) Tryd.f82.results.toList
theorem e_impl_headingOk : Sound Tryd.prog gl 82 g_impl_headingOk :=
  sound_plain (C := C_impl_headingOk) ⟨fun _ _ h => h, by kernel_rfl⟩ (sgOf_all' ⟨.inl ⟨by kernel_rfl, (Sound.mono gl_RH (by rfl) e_impl_MarkOf)⟩, .inl ⟨by kernel_rfl, (Sound.mono gl_RH (by rfl) e_impl_capitals)⟩, .inl ⟨by kernel_rfl, (Sound.mono gl_DT (by rfl) e_impl_in)⟩, .inl ⟨by kernel_rfl, (Sound.mono gl_RH (by rfl) e_impl_centreOk)⟩, trivial⟩) 82 Tryd.f82 g_impl_headingOk (fun y => y.1.1) (by kernel_rfl) (by kernel_rfl) (by kernel_rfl) (by kernel_rfl) (by kernel_rfl) (by kernel_rfl) (fun _ => rfl) (fun x => by kernel_rfl)
-- loop.example/g00051/impl.HeadingText
noncomputable def i_impl_HeadingText : Shape := ⟨[(0, .agg [.str, .str, .int .i64, .str, .int .i64, .int .i64, .int .i64, .str])], []⟩
noncomputable def o_impl_HeadingText : Shape := ⟨[(0, .tup [(false, [.str]), (false, [.bool])])], []⟩
noncomputable def impl_HeadingText (a0 : ByteArray) (a1 : ByteArray) (a2 : Int) (a3 : ByteArray) (a4 : Int) (a5 : Int) (a6 : Int) (a7 : ByteArray) : Option (ByteArray × Bool) :=
  (impl_headingOk a0 a1 a2 a3 a4 a5 a6 a7).bind fun val =>
   bif !val then some (bs [], false) else bif decide (a0.size + a1.size ≤ 9223372036854775807) then (impl_fill a2 2).bind fun val => bif decide ((a0 ++ a1).size + ByteArray.size val ≤ 9223372036854775807) then bif decide ((a0 ++ a1 ++ val).size + (bs [32]).size ≤ 9223372036854775807) then bif decide ((a0 ++ a1 ++ val ++ bs [32]).size + a3.size ≤ 9223372036854775807) then bif decide ((a0 ++ a1 ++ val ++ bs [32] ++ a3).size + (bs [32]).size ≤ 9223372036854775807) then (impl_fill a4 2).bind fun val_1 => bif decide ((a0 ++ a1 ++ val ++ bs [32] ++ a3 ++ bs [32]).size + ByteArray.size val_1 ≤ 9223372036854775807) then (impl_fill a5 2).bind fun val_2 => bif decide ((a0 ++ a1 ++ val ++ bs [32] ++ a3 ++ bs [32] ++ val_1).size + ByteArray.size val_2 ≤ 9223372036854775807) then (impl_fill a6 2).bind fun val_3 => bif decide ((a0 ++ a1 ++ val ++ bs [32] ++ a3 ++ bs [32] ++ val_1 ++ val_2).size + ByteArray.size val_3 ≤ 9223372036854775807) then bif !a7.toList == (bs []).toList then bif decide ((bs [32]).size + a7.size ≤ 9223372036854775807) then bif decide ((a0 ++ a1 ++ val ++ bs [32] ++ a3 ++ bs [32] ++ val_1 ++ val_2 ++ val_3).size + (bs [32] ++ a7).size ≤ 9223372036854775807) then some (a0 ++ a1 ++ val ++ bs [32] ++ a3 ++ bs [32] ++ val_1 ++ val_2 ++ val_3 ++ (bs [32] ++ a7), true) else none else none else some (a0 ++ a1 ++ val ++ bs [32] ++ a3 ++ bs [32] ++ val_1 ++ val_2 ++ val_3, true) else none else none else none else none else none else none else none else none
noncomputable def g_impl_HeadingText : Sg := ⟨i_impl_HeadingText, o_impl_HeadingText, ByteArray × Bool, fun y => ((((y.1, ()), (y.2, ()), ()), ()), ()), fun x => impl_HeadingText x.1.1.1 x.1.1.2.1 x.1.1.2.2.1 x.1.1.2.2.2.1 x.1.1.2.2.2.2.1 x.1.1.2.2.2.2.2.1 x.1.1.2.2.2.2.2.2.1 x.1.1.2.2.2.2.2.2.2.1⟩
noncomputable def C_impl_HeadingText : Ctx := ⟨43, tiOf Tryd.prog, gl, sgOf [(82, g_impl_headingOk), (79, g_impl_fill)]⟩
noncomputable def r_impl_HeadingText : AExit → Env → Option (ByteArray × Bool) := retK C_impl_HeadingText 0 o_impl_HeadingText (fun y => (y.1.1.1.1, y.1.1.2.1.1)) Tryd.f29.results.toList
theorem e_impl_HeadingText : Sound Tryd.prog gl 29 g_impl_HeadingText :=
  sound_plain (C := C_impl_HeadingText) ⟨fun _ _ h => h, by kernel_rfl⟩ (sgOf_all' ⟨.inl ⟨by kernel_rfl, e_impl_headingOk⟩, .inl ⟨by kernel_rfl, (Sound.mono gl_DT (by rfl) e_impl_fill)⟩, trivial⟩) 29 Tryd.f29 g_impl_HeadingText (fun y => (y.1.1.1.1, y.1.1.2.1.1)) (by kernel_rfl) (by kernel_rfl) (by kernel_rfl) (by kernel_rfl) (by kernel_rfl) (by kernel_rfl) (fun _ => rfl) (fun x => by kernel_rfl)
-- loop.example/g00051/spec.DrawReadHeading
noncomputable def i_spec_DrawReadHeading : Shape := ⟨[(0, .c (.sl (.int .u8)))], []⟩
noncomputable def o_spec_DrawReadHeading : Shape := ⟨[(0, .c (.str))], []⟩
noncomputable def spec_DrawReadHeading (a0 : List Int) : Option (ByteArray) :=
  (spec_l1Open a0).bind fun val =>
   (spec_l1Rd_heading val.fst val.snd).bind fun val =>
    (spec_HeadingText val.fst val.snd.fst val.snd.snd.fst val.snd.snd.snd.fst val.snd.snd.snd.snd.fst val.snd.snd.snd.snd.snd.fst val.snd.snd.snd.snd.snd.snd.fst val.snd.snd.snd.snd.snd.snd.snd.fst).bind fun val_1 =>
     (spec_l1Rd_once 2 val.snd.snd.snd.snd.snd.snd.snd.snd.fst val.snd.snd.snd.snd.snd.snd.snd.snd.snd).bind fun val =>
      bif val.fst then
       (spec_l1Rd_below (↑val_1.fst.size : Int) val.snd.fst val.snd.snd).bind fun val =>
        bif decide (0 ≤ val.fst) && decide (val.fst ≤ (↑val_1.fst.size : Int)) then
         (spec_l1Rd_below 7 val.snd.fst val.snd.snd).bind fun val_2 =>
          bif decide (0 ≤ val_2.fst) then
           bif decide (val_2.fst < (↑[bs [], bs [32], bs [32, 32], bs [48], bs [65], bs [57], bs [45]].length : Int)) then
            bif decide (val_2.fst < (↑[bs [], bs [32], bs [32, 32], bs [48], bs [65], bs [57], bs [45]].length : Int)) then
             bif decide ((val_1.fst.extract (Int.toNat 0) val.fst.toNat).size + ByteArray.size (rd Kind.str [bs [], bs [32], bs [32, 32], bs [48], bs [65], bs [57], bs [45]] val_2.fst) ≤ 9223372036854775807) then
              (spec_l1Rd_below 2 val_2.snd.fst val_2.snd.snd).bind fun val_3 =>
               bif decide (0 ≤ IntKind.i64.wrap (val.fst + val_3.fst)) && decide (IntKind.i64.wrap (val.fst + val_3.fst) ≤ (↑val_1.fst.size : Int)) then
                bif decide ((val_1.fst.extract (Int.toNat 0) val.fst.toNat ++ rd Kind.str [bs [], bs [32], bs [32, 32], bs [48], bs [65], bs [57], bs [45]] val_2.fst).size + (val_1.fst.extract (IntKind.i64.wrap (val.fst + val_3.fst)).toNat (↑val_1.fst.size : Int).toNat).size ≤ 9223372036854775807) then
                 (spec_l1Rd_once 12 val_3.snd.fst val_3.snd.snd).bind fun val_4 => bif val_4.fst then (spec_l1Rd_below 7 val_4.snd.fst val_4.snd.snd).bind fun val => bif decide (0 ≤ val.fst) then bif decide (val.fst < (↑[bs [], bs [32], bs [32, 32], bs [97, 32, 98, 32, 99], bs [83, 77, 68, 76, 48, 49, 32, 65, 77, 77, 67], bs [83, 77, 68, 76, 48, 49, 32, 65, 77, 77, 67, 32, 48, 49, 48, 48, 48, 48, 32, 82, 82, 65, 32, 88], bs [83, 77, 68, 76, 48, 49, 32, 65, 77, 77, 67, 32, 48, 49, 48, 48, 48, 48, 32]].length : Int)) then bif decide (val.fst < (↑[bs [], bs [32], bs [32, 32], bs [97, 32, 98, 32, 99], bs [83, 77, 68, 76, 48, 49, 32, 65, 77, 77, 67], bs [83, 77, 68, 76, 48, 49, 32, 65, 77, 77, 67, 32, 48, 49, 48, 48, 48, 48, 32, 82, 82, 65, 32, 88], bs [83, 77, 68, 76, 48, 49, 32, 65, 77, 77, 67, 32, 48, 49, 48, 48, 48, 48, 32]].length : Int)) then some (rd Kind.str [bs [], bs [32], bs [32, 32], bs [97, 32, 98, 32, 99], bs [83, 77, 68, 76, 48, 49, 32, 65, 77, 77, 67], bs [83, 77, 68, 76, 48, 49, 32, 65, 77, 77, 67, 32, 48, 49, 48, 48, 48, 48, 32, 82, 82, 65, 32, 88], bs [83, 77, 68, 76, 48, 49, 32, 65, 77, 77, 67, 32, 48, 49, 48, 48, 48, 48, 32]] val.fst) else none else none else none else some (val_1.fst.extract (Int.toNat 0) val.fst.toNat ++ rd Kind.str [bs [], bs [32], bs [32, 32], bs [48], bs [65], bs [57], bs [45]] val_2.fst ++ val_1.fst.extract (IntKind.i64.wrap (val.fst + val_3.fst)).toNat (↑val_1.fst.size : Int).toNat)
                else none
               else none
             else none
            else none
           else none
          else none
        else none
      else (spec_l1Rd_once 12 val.snd.fst val.snd.snd).bind fun val => bif val.fst then (spec_l1Rd_below 7 val.snd.fst val.snd.snd).bind fun val => bif decide (0 ≤ val.fst) then bif decide (val.fst < (↑[bs [], bs [32], bs [32, 32], bs [97, 32, 98, 32, 99], bs [83, 77, 68, 76, 48, 49, 32, 65, 77, 77, 67], bs [83, 77, 68, 76, 48, 49, 32, 65, 77, 77, 67, 32, 48, 49, 48, 48, 48, 48, 32, 82, 82, 65, 32, 88], bs [83, 77, 68, 76, 48, 49, 32, 65, 77, 77, 67, 32, 48, 49, 48, 48, 48, 48, 32]].length : Int)) then bif decide (val.fst < (↑[bs [], bs [32], bs [32, 32], bs [97, 32, 98, 32, 99], bs [83, 77, 68, 76, 48, 49, 32, 65, 77, 77, 67], bs [83, 77, 68, 76, 48, 49, 32, 65, 77, 77, 67, 32, 48, 49, 48, 48, 48, 48, 32, 82, 82, 65, 32, 88], bs [83, 77, 68, 76, 48, 49, 32, 65, 77, 77, 67, 32, 48, 49, 48, 48, 48, 48, 32]].length : Int)) then some (rd Kind.str [bs [], bs [32], bs [32, 32], bs [97, 32, 98, 32, 99], bs [83, 77, 68, 76, 48, 49, 32, 65, 77, 77, 67], bs [83, 77, 68, 76, 48, 49, 32, 65, 77, 77, 67, 32, 48, 49, 48, 48, 48, 48, 32, 82, 82, 65, 32, 88], bs [83, 77, 68, 76, 48, 49, 32, 65, 77, 77, 67, 32, 48, 49, 48, 48, 48, 48, 32]] val.fst) else none else none else none else some val_1.fst
noncomputable def g_spec_DrawReadHeading : Sg := ⟨i_spec_DrawReadHeading, o_spec_DrawReadHeading, ByteArray, fun y => ((y, ()), ()), fun x => spec_DrawReadHeading x.1.1⟩
noncomputable def C_spec_DrawReadHeading : Ctx := ⟨45, tiOf Tryd.prog, gl, sgOf [(89, g_spec_l1Open), (115, g_spec_l1Rd_heading), (27, g_spec_HeadingText), (117, g_spec_l1Rd_once), (116, g_spec_l1Rd_below)]⟩
noncomputable def r_spec_DrawReadHeading : AExit → Env → Option (ByteArray) := retK C_spec_DrawReadHeading 0 o_spec_DrawReadHeading (fun y => y.1.1) Tryd.f57.results.toList
theorem e_spec_DrawReadHeading : Sound Tryd.prog gl 57 g_spec_DrawReadHeading :=
  sound_plain (C := C_spec_DrawReadHeading) ⟨fun _ _ h => h, by kernel_rfl⟩ (sgOf_all' ⟨.inl ⟨by kernel_rfl, (Sound.mono gl_DR (by rfl) e_spec_l1Open)⟩, .inl ⟨by kernel_rfl, e_spec_l1Rd_heading⟩, .inl ⟨by kernel_rfl, e_spec_HeadingText⟩, .inl ⟨by kernel_rfl, (Sound.mono gl_DR (by rfl) e_spec_l1Rd_once)⟩, .inl ⟨by kernel_rfl, (Sound.mono gl_DR (by rfl) e_spec_l1Rd_below)⟩, trivial⟩) 57 Tryd.f57 g_spec_DrawReadHeading (fun y => y.1.1) (by kernel_rfl) (by kernel_rfl) (by kernel_rfl) (by kernel_rfl) (by kernel_rfl) (by kernel_rfl) (fun _ => rfl) (fun x => by kernel_rfl)
-- loop.example/g00051/laws.FnHeadings
noncomputable def i_laws_FnHeadings : Shape := ⟨[(0, .c (.sl (.int .u8))), (1, .c (.sl (.int .u8)))], []⟩
noncomputable def o_laws_FnHeadings : Shape := ⟨[(0, .c (.bool))], []⟩
noncomputable def laws_FnHeadings (a0 : List Int) (a1 : List Int) : Option (Bool) :=
  (laws_big a0).bind fun val =>
   bif val then some true
   else
    (laws_big a1).bind fun val =>
     bif val then some true
     else
      (spec_DrawHeadingText a0).bind fun val =>
       (spec_HeadingText val.fst val.snd.fst val.snd.snd.fst val.snd.snd.snd.fst val.snd.snd.snd.snd.fst val.snd.snd.snd.snd.snd.fst val.snd.snd.snd.snd.snd.snd.fst val.snd.snd.snd.snd.snd.snd.snd).bind fun val_1 =>
        (impl_HeadingText val.fst val.snd.fst val.snd.snd.fst val.snd.snd.snd.fst val.snd.snd.snd.snd.fst val.snd.snd.snd.snd.snd.fst val.snd.snd.snd.snd.snd.snd.fst val.snd.snd.snd.snd.snd.snd.snd).bind fun val_2 =>
         bif !val_2.snd == val_1.snd then some false
         else
          bif !val_2.fst.toList == val_1.fst.toList then some false
          else
           bif val_1.snd then
            (impl_ReadHeading val_2.fst).bind fun val_3 =>
             bif val_3.snd.snd.snd.snd.snd.snd.snd.snd != 0 then some false
             else bif !(val_3.fst.toList == val.fst.toList && (val_3.snd.fst.toList == val.snd.fst.toList && (val_3.snd.snd.fst == val.snd.snd.fst && (val_3.snd.snd.snd.fst.toList == val.snd.snd.snd.fst.toList && (val_3.snd.snd.snd.snd.fst == val.snd.snd.snd.snd.fst && (val_3.snd.snd.snd.snd.snd.fst == val.snd.snd.snd.snd.snd.fst && (val_3.snd.snd.snd.snd.snd.snd.fst == val.snd.snd.snd.snd.snd.snd.fst && val_3.snd.snd.snd.snd.snd.snd.snd.fst.toList == val.snd.snd.snd.snd.snd.snd.snd.toList))))))) then some false else (spec_DrawReadHeading a1).bind fun val => (spec_ReadHeading val).bind fun val_4 => (impl_ReadHeading val).bind fun val_5 => bif val_5.snd.snd.snd.snd.snd.snd.snd.snd != val_4.snd.snd.snd.snd.snd.snd.snd.snd then some false else bif val_5.snd.snd.snd.snd.snd.snd.snd.snd != 0 then some (val_5.fst.toList == (bs []).toList && (val_5.snd.fst.toList == (bs []).toList && (val_5.snd.snd.fst == 0 && (val_5.snd.snd.snd.fst.toList == (bs []).toList && (val_5.snd.snd.snd.snd.fst == 0 && (val_5.snd.snd.snd.snd.snd.fst == 0 && (val_5.snd.snd.snd.snd.snd.snd.fst == 0 && val_5.snd.snd.snd.snd.snd.snd.snd.fst.toList == (bs []).toList))))))) else (impl_HeadingText val_5.fst val_5.snd.fst val_5.snd.snd.fst val_5.snd.snd.snd.fst val_5.snd.snd.snd.snd.fst val_5.snd.snd.snd.snd.snd.fst val_5.snd.snd.snd.snd.snd.snd.fst val_5.snd.snd.snd.snd.snd.snd.snd.fst).bind fun val_6 => bif val_6.snd then some (val_6.fst.toList == ByteArray.toList val) else some false
           else (spec_DrawReadHeading a1).bind fun val => (spec_ReadHeading val).bind fun val_3 => (impl_ReadHeading val).bind fun val_4 => bif val_4.snd.snd.snd.snd.snd.snd.snd.snd != val_3.snd.snd.snd.snd.snd.snd.snd.snd then some false else bif val_4.snd.snd.snd.snd.snd.snd.snd.snd != 0 then some (val_4.fst.toList == (bs []).toList && (val_4.snd.fst.toList == (bs []).toList && (val_4.snd.snd.fst == 0 && (val_4.snd.snd.snd.fst.toList == (bs []).toList && (val_4.snd.snd.snd.snd.fst == 0 && (val_4.snd.snd.snd.snd.snd.fst == 0 && (val_4.snd.snd.snd.snd.snd.snd.fst == 0 && val_4.snd.snd.snd.snd.snd.snd.snd.fst.toList == (bs []).toList))))))) else (impl_HeadingText val_4.fst val_4.snd.fst val_4.snd.snd.fst val_4.snd.snd.snd.fst val_4.snd.snd.snd.snd.fst val_4.snd.snd.snd.snd.snd.fst val_4.snd.snd.snd.snd.snd.snd.fst val_4.snd.snd.snd.snd.snd.snd.snd.fst).bind fun val_5 => bif val_5.snd then some (val_5.fst.toList == ByteArray.toList val) else some false
noncomputable def g_laws_FnHeadings : Sg := ⟨i_laws_FnHeadings, o_laws_FnHeadings, Bool, fun y => ((y, ()), ()), fun x => laws_FnHeadings x.1.1 x.1.2.1⟩
noncomputable def C_laws_FnHeadings : Ctx := ⟨89, tiOf Tryd.prog, gl, sgOf [(34, g_laws_big), (56, g_spec_DrawHeadingText), (27, g_spec_HeadingText), (29, g_impl_HeadingText), (52, g_impl_ReadHeading), (57, g_spec_DrawReadHeading), (51, g_spec_ReadHeading)]⟩
noncomputable def r_laws_FnHeadings : AExit → Env → Option (Bool) := retK C_laws_FnHeadings 0 o_laws_FnHeadings (fun y => y.1.1) Tryd.f13.results.toList
theorem e_laws_FnHeadings : Sound Tryd.prog gl 13 g_laws_FnHeadings :=
  sound_plain (C := C_laws_FnHeadings) ⟨fun _ _ h => h, by kernel_rfl⟩ (sgOf_all' ⟨.inl ⟨by kernel_rfl, e_laws_big⟩, .inl ⟨by kernel_rfl, e_spec_DrawHeadingText⟩, .inl ⟨by kernel_rfl, e_spec_HeadingText⟩, .inl ⟨by kernel_rfl, e_impl_HeadingText⟩, .inl ⟨by kernel_rfl, (Sound.mono gl_RH (by rfl) e_impl_ReadHeading)⟩, .inl ⟨by kernel_rfl, e_spec_DrawReadHeading⟩, .inl ⟨by kernel_rfl, (Sound.mono gl_RH (by rfl) e_spec_ReadHeading)⟩, trivial⟩) 13 Tryd.f13 g_laws_FnHeadings (fun y => y.1.1) (by kernel_rfl) (by kernel_rfl) (by kernel_rfl) (by kernel_rfl) (by kernel_rfl) (by kernel_rfl) (fun _ => rfl) (fun x => by kernel_rfl)
end Go.Proofs.YtmcmkdiefpepnaaDoor.HD
