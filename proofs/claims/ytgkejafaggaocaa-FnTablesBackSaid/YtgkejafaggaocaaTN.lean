/-
  Part of a proof by the engine: texts that a program of ours printed, or plain lemmas on them. No condition but what each theorem says.
-/
import Derived.Test.YtgkejafaggaocaaPO
import Derived.Test.YtgkejafaggaocaaDE
import Derived.Test.YtgkejafaggaocaaEV
import Derived.Test.YtgkejafaggaocaaDR
import Derived.Test.YtgkejafaggaocaaTL
import Derived.Test.YtgkejafaggaocaaEng5
import Derived.Test.YtgkejafaggaocaaProg
import Derived.KernelRfl
import Derived.Test.YtgkejafaggaocaaDoorsF
set_option linter.unusedVariables false
set_option linter.unusedSimpArgs false
set_option maxRecDepth 100000
namespace Go.Proofs.Ytgkejafaggaocaa.TN
open Go Go.Eng Go.Proofs
open Go.Proofs.Ytgkejafaggaocaa.EX
open Go.Proofs.Ytgkejafaggaocaa.PO hiding gl
open Go.Proofs.Ytgkejafaggaocaa.DE hiding gl
open Go.Proofs.Ytgkejafaggaocaa.EV hiding gl
open Go.Proofs.Ytgkejafaggaocaa.DR hiding gl
open Go.Proofs.Ytgkejafaggaocaa.TL hiding gl
noncomputable def gl : Nat → Option (List Cell) := glOf []
theorem gl_PO : ∀ g cs, Go.Proofs.Ytgkejafaggaocaa.PO.gl g = some cs → gl g = some cs := glOf_mono (by intro p hp; cases hp)
theorem gl_DE : ∀ g cs, Go.Proofs.Ytgkejafaggaocaa.DE.gl g = some cs → gl g = some cs := glOf_mono (by intro p hp; cases hp)
theorem gl_EV : ∀ g cs, Go.Proofs.Ytgkejafaggaocaa.EV.gl g = some cs → gl g = some cs := glOf_mono (by intro p hp; cases hp)
theorem gl_DR : ∀ g cs, Go.Proofs.Ytgkejafaggaocaa.DR.gl g = some cs → gl g = some cs := glOf_mono (by intro p hp; cases hp)
theorem gl_TL : ∀ g cs, Go.Proofs.Ytgkejafaggaocaa.TL.gl g = some cs → gl g = some cs := glOf_mono (by intro p hp; cases hp)
-- (*loop.example/g00051/spec.l1Rd).number
noncomputable def i_spec_l1Rd_number : Shape := ⟨[(0, .c (.ptr 0 0))], [.box 124 [.sl (.int .u8), .int .i64]]⟩
noncomputable def o_spec_l1Rd_number : Shape := ⟨[(0, .c (.int .i64))], [.box 124 [.sl (.int .u8), .int .i64]]⟩
noncomputable def spec_l1Rd_number (a0 : List Int) (a1 : Int) : Option (Int × (List Int) × Int) :=
  (spec_l1Rd_below 5 a0 a1).bind fun val => bif val.fst == 0 then (spec_l1Rd_below 300 val.snd.fst val.snd.snd).bind fun val => some (IntKind.i64.wrap (val.fst - 4), val.snd.fst, val.snd.snd) else bif val.fst == 1 then (spec_l1Rd_below 12 val.snd.fst val.snd.snd).bind fun val => bif decide (0 ≤ val.fst) then bif decide (val.fst < (↑[0, 1, -1, 127, 128, 2147483648, 1000000000000000, 1000000000000001, -1000000000000000, 9007199254740993, 9223372036854775807, -9223372036854775808].length : Int)) then bif decide (val.fst < (↑[0, 1, -1, 127, 128, 2147483648, 1000000000000000, 1000000000000001, -1000000000000000, 9007199254740993, 9223372036854775807, -9223372036854775808].length : Int)) then some (rd (Kind.int IntKind.i64) [0, 1, -1, 127, 128, 2147483648, 1000000000000000, 1000000000000001, -1000000000000000, 9007199254740993, 9223372036854775807, -9223372036854775808] val.fst, val.snd.fst, val.snd.snd) else none else none else none else bif val.fst == 2 then (spec_l1Rd_word val.snd.fst val.snd.snd).bind fun val => (spec_l1Rd_below 60 val.snd.fst val.snd.snd).bind fun val_1 => bif decide (0 ≤ IntKind.u64.wrap (IntKind.i64.wrap (1 + val_1.fst))) then some (IntKind.i64.wrap (val.fst.fdiv (2 ^ min (IntKind.u64.wrap (IntKind.i64.wrap (1 + val_1.fst))).toNat IntKind.u64.bits)), val_1.snd.fst, val_1.snd.snd) else none else (spec_l1Rd_below 20 val.snd.fst val.snd.snd).bind fun val => some (val.fst, val.snd.fst, val.snd.snd)
noncomputable def g_spec_l1Rd_number : Sg := ⟨i_spec_l1Rd_number, o_spec_l1Rd_number, Int × (List Int) × Int, fun y => ((y.1, ()), ((y.2.1, y.2.2, ()), ())), fun x => spec_l1Rd_number x.2.1.1 x.2.1.2.1⟩
noncomputable def C_spec_l1Rd_number : Ctx := ⟨29, tiOf Try.prog, gl, sgOf [(55, g_spec_l1Rd_below), (111, g_spec_l1Rd_word)], []⟩
noncomputable def r_spec_l1Rd_number : AExit → Env → Option (Int × (List Int) × Int) := retK C_spec_l1Rd_number 1 o_spec_l1Rd_number (fun y => (y.1.1, y.2.1.1, y.2.1.2.1)) Try.f90.results.toList
theorem e_spec_l1Rd_number : Sound Try.prog gl 90 g_spec_l1Rd_number :=
  sound_plain (C := C_spec_l1Rd_number) ⟨fun _ _ h => h, by kernel_rfl⟩ (sgOf_all' ⟨.inl ⟨by kernel_rfl, (Sound.mono gl_DR (by rfl) e_spec_l1Rd_below)⟩, .inl ⟨by kernel_rfl, (Sound.mono gl_TL (by rfl) e_spec_l1Rd_word)⟩, trivial⟩) 90 Try.f90 g_spec_l1Rd_number (fun y => (y.1.1, y.2.1.1, y.2.1.2.1)) (by kernel_rfl) (by kernel_rfl) (by kernel_rfl) (by kernel_rfl) (by kernel_rfl) (by kernel_rfl) (fun _ => rfl) (fun x => by kernel_rfl)
-- (*loop.example/g00051/spec.l1Rd).float
noncomputable def i_spec_l1Rd_float : Shape := ⟨[(0, .c (.ptr 0 0))], [.box 124 [.sl (.int .u8), .int .i64]]⟩
noncomputable def o_spec_l1Rd_float : Shape := ⟨[(0, .c (.flt))], [.box 124 [.sl (.int .u8), .int .i64]]⟩
noncomputable def spec_l1Rd_float (a0 : List Int) (a1 : Int) : Option (Nat × (List Int) × Int) :=
  (spec_l1Rd_below 8 a0 a1).bind fun val =>
   bif val.fst == 0 then spec_l1None.bind fun val_1 => some (val_1, val.snd.fst, val.snd.snd)
   else
    bif val.fst == 1 then (spec_l1Rd_below 16 val.snd.fst val.snd.snd).bind fun val => bif decide (0 ≤ val.fst) then bif decide (val.fst < (↑[0, fneg 0, 4602678819172646912, 13826050856027422720, 4609434218613702656, 4612811918334230528, 13836183955189006336, 4831355200913801216, 4831355200913801224, 14054727237768577024, 1, 9214871658872686752, fmul 9214871658872686752 4621819117588971520, fmul (fneg 9214871658872686752) 4621819117588971520, 4587366580439587226, 4598175219545276416].length : Int)) then bif decide (val.fst < (↑[0, fneg 0, 4602678819172646912, 13826050856027422720, 4609434218613702656, 4612811918334230528, 13836183955189006336, 4831355200913801216, 4831355200913801224, 14054727237768577024, 1, 9214871658872686752, fmul 9214871658872686752 4621819117588971520, fmul (fneg 9214871658872686752) 4621819117588971520, 4587366580439587226, 4598175219545276416].length : Int)) then some (rd Kind.flt [0, fneg 0, 4602678819172646912, 13826050856027422720, 4609434218613702656, 4612811918334230528, 13836183955189006336, 4831355200913801216, 4831355200913801224, 14054727237768577024, 1, 9214871658872686752, fmul 9214871658872686752 4621819117588971520, fmul (fneg 9214871658872686752) 4621819117588971520, 4587366580439587226, 4598175219545276416] val.fst, val.snd.fst, val.snd.snd) else none else none else none
    else bif val.fst == 2 then (spec_l1Rd_number val.snd.fst val.snd.snd).bind fun val => (spec_l1Rd_below 1000 val.snd.fst val.snd.snd).bind fun val_1 => some (fdiv (fofi val.fst) (fofi (IntKind.i64.wrap (1 + val_1.fst))), val_1.snd.fst, val_1.snd.snd) else bif val.fst == 3 then (spec_l1Rd_below 1000 val.snd.fst val.snd.snd).bind fun val => some (fneg (fdiv (fofi val.fst) 4621819117588971520), val.snd.fst, val.snd.snd) else (spec_l1Rd_below 1000 val.snd.fst val.snd.snd).bind fun val => some (fdiv (fofi val.fst) 4621819117588971520, val.snd.fst, val.snd.snd)
noncomputable def g_spec_l1Rd_float : Sg := ⟨i_spec_l1Rd_float, o_spec_l1Rd_float, Nat × (List Int) × Int, fun y => ((y.1, ()), ((y.2.1, y.2.2, ()), ())), fun x => spec_l1Rd_float x.2.1.1 x.2.1.2.1⟩
noncomputable def C_spec_l1Rd_float : Ctx := ⟨47, tiOf Try.prog, gl, sgOf [(55, g_spec_l1Rd_below), (77, g_spec_l1None), (90, g_spec_l1Rd_number)], []⟩
noncomputable def r_spec_l1Rd_float : AExit → Env → Option (Nat × (List Int) × Int) := retK C_spec_l1Rd_float 1 o_spec_l1Rd_float (fun y => (y.1.1, y.2.1.1, y.2.1.2.1)) Try.f57.results.toList
theorem e_spec_l1Rd_float : Sound Try.prog gl 57 g_spec_l1Rd_float :=
  sound_plain (C := C_spec_l1Rd_float) ⟨fun _ _ h => h, by kernel_rfl⟩ (sgOf_all' ⟨.inl ⟨by kernel_rfl, (Sound.mono gl_DR (by rfl) e_spec_l1Rd_below)⟩, .inl ⟨by kernel_rfl, (Sound.mono gl_PO (by rfl) e_spec_l1None)⟩, .inl ⟨by kernel_rfl, e_spec_l1Rd_number⟩, trivial⟩) 57 Try.f57 g_spec_l1Rd_float (fun y => (y.1.1, y.2.1.1, y.2.1.2.1)) (by kernel_rfl) (by kernel_rfl) (by kernel_rfl) (by kernel_rfl) (by kernel_rfl) (by kernel_rfl) (fun _ => rfl) (fun x => by kernel_rfl)
-- loop.example/g00051/spec.DrawEncode
noncomputable def i_spec_DrawEncode : Shape := ⟨[(0, .c (.sl (.int .u8)))], []⟩
noncomputable def o_spec_DrawEncode : Shape := ⟨[(0, .tup [(false, [.sl (.pair (.int .i64) (.pair (.int .i64) (.pair (.int .i64) (.int .i64))))]), (false, [.sl (.int .i64)]), (false, [.ref 0])])], [.lst 23 .flt]⟩
noncomputable def spec_DrawEncode (a0 : List Int) : Option ((List (Int × Int × Int × Int)) × (List Int) × (List Nat)) :=
  (spec_l1Open a0).bind fun val =>
   (spec_l7DrawBoth true val.fst val.snd).bind fun val =>
    (spec_l7DrawValues val.snd.snd.fst val.snd.snd.snd val.fst val.snd.fst).bind fun val_1 =>
     (spec_l1Rd_once 3 val_1.fst val_1.snd.fst).bind fun val_2 =>
      bif val_2.fst then
       bif decide ((↑val_1.snd.snd.length : Int) > 0) then
        (spec_l1Rd_below (↑val_1.snd.snd.length : Int) val_2.snd.fst val_2.snd.snd).bind fun val_3 =>
         bif decide (0 ≤ val_3.fst) then
          bif decide (val_3.fst < (↑val_1.snd.snd.length : Int)) then
           bif decide (val_3.fst < (↑val_1.snd.snd.length : Int)) then
            (spec_l1Rd_float val_3.snd.fst val_3.snd.snd).bind fun val_4 =>
             spec_l1None.bind fun val_5 =>
              (spec_l1Rd_below 7 val_4.snd.fst val_4.snd.snd).bind fun val_6 =>
               bif decide (0 ≤ val_6.fst) then
                bif decide (val_6.fst < (↑[fadd (rd Kind.flt val_1.snd.snd val_3.fst) 4585925428558828667, val_4.fst, val_5, 13830554455654793216, 4643176031446892544, 4643211215818981376, 4602678819172646912].length : Int)) then
                 bif decide (val_6.fst < (↑[fadd (rd Kind.flt val_1.snd.snd val_3.fst) 4585925428558828667, val_4.fst, val_5, 13830554455654793216, 4643176031446892544, 4643211215818981376, 4602678819172646912].length : Int)) then
                  bif decide (0 ≤ val_3.fst) then
                   bif decide (val_3.fst < (↑val_1.snd.snd.length : Int)) then
                    (setW val_1.snd.snd val_3.fst (rd Kind.flt [fadd (rd Kind.flt val_1.snd.snd val_3.fst) 4585925428558828667, val_4.fst, val_5, 13830554455654793216, 4643176031446892544, 4643211215818981376, 4602678819172646912] val_6.fst)).bind fun val_7 =>
                     (spec_l1Rd_once 8 val_6.snd.fst val_6.snd.snd).bind fun val_8 => bif val_8.fst then bif decide (val_7.length + [4607182418800017408].length ≤ maxBytes / 8) then (spec_l1Rd_once 8 val_8.snd.fst val_8.snd.snd).bind fun val_9 => bif val_9.fst then bif decide ((↑(val_7 ++ [4607182418800017408]).length : Int) > 0) then bif decide (0 ≤ IntKind.i64.wrap ((↑(val_7 ++ [4607182418800017408]).length : Int) - 1)) && decide (IntKind.i64.wrap ((↑(val_7 ++ [4607182418800017408]).length : Int) - 1) ≤ (↑(val_7 ++ [4607182418800017408]).length : Int)) then some (val.snd.snd.fst, val.snd.snd.snd, List.take (IntKind.i64.wrap ((↑(val_7 ++ [4607182418800017408]).length : Int) - 1)).toNat (val_7 ++ [4607182418800017408])) else none else some (val.snd.snd.fst, val.snd.snd.snd, val_7 ++ [4607182418800017408]) else some (val.snd.snd.fst, val.snd.snd.snd, val_7 ++ [4607182418800017408]) else none else (spec_l1Rd_once 8 val_8.snd.fst val_8.snd.snd).bind fun val_9 => bif val_9.fst then bif decide ((↑val_7.length : Int) > 0) then bif decide (0 ≤ IntKind.i64.wrap ((↑val_7.length : Int) - 1)) && decide (IntKind.i64.wrap ((↑val_7.length : Int) - 1) ≤ (↑val_7.length : Int)) then some (val.snd.snd.fst, val.snd.snd.snd, List.take (IntKind.i64.wrap ((↑val_7.length : Int) - 1)).toNat val_7) else none else some (val.snd.snd.fst, val.snd.snd.snd, val_7) else some (val.snd.snd.fst, val.snd.snd.snd, val_7)
                   else none
                  else none
                 else none
                else none
               else none
           else none
          else none
         else none
       else
        (spec_l1Rd_once 8 val_2.snd.fst val_2.snd.snd).bind fun val_3 =>
         bif val_3.fst then bif decide (val_1.snd.snd.length + [4607182418800017408].length ≤ maxBytes / 8) then (spec_l1Rd_once 8 val_3.snd.fst val_3.snd.snd).bind fun val_4 => bif val_4.fst then bif decide ((↑(val_1.snd.snd ++ [4607182418800017408]).length : Int) > 0) then bif decide (0 ≤ IntKind.i64.wrap ((↑(val_1.snd.snd ++ [4607182418800017408]).length : Int) - 1)) && decide (IntKind.i64.wrap ((↑(val_1.snd.snd ++ [4607182418800017408]).length : Int) - 1) ≤ (↑(val_1.snd.snd ++ [4607182418800017408]).length : Int)) then some (val.snd.snd.fst, val.snd.snd.snd, List.take (IntKind.i64.wrap ((↑(val_1.snd.snd ++ [4607182418800017408]).length : Int) - 1)).toNat (val_1.snd.snd ++ [4607182418800017408])) else none else some (val.snd.snd.fst, val.snd.snd.snd, val_1.snd.snd ++ [4607182418800017408]) else some (val.snd.snd.fst, val.snd.snd.snd, val_1.snd.snd ++ [4607182418800017408]) else none else (spec_l1Rd_once 8 val_3.snd.fst val_3.snd.snd).bind fun val_4 => bif val_4.fst then bif decide ((↑val_1.snd.snd.length : Int) > 0) then bif decide (0 ≤ IntKind.i64.wrap ((↑val_1.snd.snd.length : Int) - 1)) && decide (IntKind.i64.wrap ((↑val_1.snd.snd.length : Int) - 1) ≤ (↑val_1.snd.snd.length : Int)) then some (val.snd.snd.fst, val.snd.snd.snd, List.take (IntKind.i64.wrap ((↑val_1.snd.snd.length : Int) - 1)).toNat val_1.snd.snd) else none else some (val.snd.snd.fst, val.snd.snd.snd, val_1.snd.snd) else some (val.snd.snd.fst, val.snd.snd.snd, val_1.snd.snd)
      else
       (spec_l1Rd_once 8 val_2.snd.fst val_2.snd.snd).bind fun val_3 =>
        bif val_3.fst then bif decide (val_1.snd.snd.length + [4607182418800017408].length ≤ maxBytes / 8) then (spec_l1Rd_once 8 val_3.snd.fst val_3.snd.snd).bind fun val_4 => bif val_4.fst then bif decide ((↑(val_1.snd.snd ++ [4607182418800017408]).length : Int) > 0) then bif decide (0 ≤ IntKind.i64.wrap ((↑(val_1.snd.snd ++ [4607182418800017408]).length : Int) - 1)) && decide (IntKind.i64.wrap ((↑(val_1.snd.snd ++ [4607182418800017408]).length : Int) - 1) ≤ (↑(val_1.snd.snd ++ [4607182418800017408]).length : Int)) then some (val.snd.snd.fst, val.snd.snd.snd, List.take (IntKind.i64.wrap ((↑(val_1.snd.snd ++ [4607182418800017408]).length : Int) - 1)).toNat (val_1.snd.snd ++ [4607182418800017408])) else none else some (val.snd.snd.fst, val.snd.snd.snd, val_1.snd.snd ++ [4607182418800017408]) else some (val.snd.snd.fst, val.snd.snd.snd, val_1.snd.snd ++ [4607182418800017408]) else none else (spec_l1Rd_once 8 val_3.snd.fst val_3.snd.snd).bind fun val_4 => bif val_4.fst then bif decide ((↑val_1.snd.snd.length : Int) > 0) then bif decide (0 ≤ IntKind.i64.wrap ((↑val_1.snd.snd.length : Int) - 1)) && decide (IntKind.i64.wrap ((↑val_1.snd.snd.length : Int) - 1) ≤ (↑val_1.snd.snd.length : Int)) then some (val.snd.snd.fst, val.snd.snd.snd, List.take (IntKind.i64.wrap ((↑val_1.snd.snd.length : Int) - 1)).toNat val_1.snd.snd) else none else some (val.snd.snd.fst, val.snd.snd.snd, val_1.snd.snd) else some (val.snd.snd.fst, val.snd.snd.snd, val_1.snd.snd)
noncomputable def g_spec_DrawEncode : Sg := ⟨i_spec_DrawEncode, o_spec_DrawEncode, (List (Int × Int × Int × Int)) × (List Int) × (List Nat), fun y => ((((y.1, ()), (y.2.1, ()), ((), ()), ()), ()), (y.2.2, ())), fun x => spec_DrawEncode x.1.1⟩
noncomputable def C_spec_DrawEncode : Ctx := ⟨68, tiOf Try.prog, gl, sgOf [(53, g_spec_l1Open), (75, g_spec_l7DrawBoth), (76, g_spec_l7DrawValues), (56, g_spec_l1Rd_once), (55, g_spec_l1Rd_below), (57, g_spec_l1Rd_float), (77, g_spec_l1None)], [64]⟩
noncomputable def r_spec_DrawEncode : AExit → Env → Option ((List (Int × Int × Int × Int)) × (List Int) × (List Nat)) := retK C_spec_DrawEncode 0 o_spec_DrawEncode (fun y => (y.1.1.1.1, y.1.1.2.1.1, y.2.1)) Try.f40.results.toList
theorem e_spec_DrawEncode : Sound Try.prog gl 40 g_spec_DrawEncode :=
  sound_plain (C := C_spec_DrawEncode) ⟨fun _ _ h => h, by kernel_rfl⟩ (sgOf_all' ⟨.inl ⟨by kernel_rfl, (Sound.mono gl_DR (by rfl) e_spec_l1Open)⟩, .inl ⟨by kernel_rfl, (Sound.mono gl_TL (by rfl) e_spec_l7DrawBoth)⟩, .inl ⟨by kernel_rfl, (Sound.mono gl_TL (by rfl) e_spec_l7DrawValues)⟩, .inl ⟨by kernel_rfl, (Sound.mono gl_DR (by rfl) e_spec_l1Rd_once)⟩, .inl ⟨by kernel_rfl, (Sound.mono gl_DR (by rfl) e_spec_l1Rd_below)⟩, .inl ⟨by kernel_rfl, e_spec_l1Rd_float⟩, .inl ⟨by kernel_rfl, (Sound.mono gl_PO (by rfl) e_spec_l1None)⟩, trivial⟩) 40 Try.f40 g_spec_DrawEncode (fun y => (y.1.1.1.1, y.1.1.2.1.1, y.2.1)) (by kernel_rfl) (by kernel_rfl) (by kernel_rfl) (by kernel_rfl) (by kernel_rfl) (by kernel_rfl) (fun _ => rfl) (fun x => by kernel_rfl)
-- loop.example/g00051/laws.FnTablesBack
noncomputable def i_laws_FnTablesBack : Shape := ⟨[(0, .c (.sl (.int .u8)))], []⟩
noncomputable def o_laws_FnTablesBack : Shape := ⟨[(0, .c (.bool))], []⟩
noncomputable def s_laws_FnTablesBack_14 : Shape := ⟨[(3, .c (.sl (.pair (.int .i64) (.pair (.int .i64) (.pair (.int .i64) (.int .i64)))))), (4, .c (.sl (.int .i64))), (5, .c (.ref 0)), (8, .c (.ref 1)), (10, .c (.ref 2)), (12, .c (.int .i64))], [.lst 23 .flt, .lst 5 (.int .u8), .lst 23 .flt]⟩
noncomputable def laws_FnTablesBack_L14 : Nat → (List (Int × Int × Int × Int)) → (List Int) → Int → (List Nat) → (List Int) → (List Nat) → Option (Bool)
  | 0, _, _, _, _, _, _ => none
  | k + 1, a0, a1, a2, a3, a4, a5 =>
  bif decide (a2 < (↑a5.length : Int)) then bif decide (0 ≤ a2) then bif decide (a2 < (↑a5.length : Int)) then bif decide (a2 < (↑a5.length : Int)) then bif decide (0 ≤ a2) then bif decide (a2 < (↑a5.length : Int)) then bif decide (a2 < (↑a5.length : Int)) then bif decide (0 ≤ a2) then bif decide (a2 < (↑a3.length : Int)) then bif decide (a2 < (↑a3.length : Int)) then bif decide (0 ≤ a2) then bif decide (a2 < (↑a3.length : Int)) then bif decide (a2 < (↑a3.length : Int)) then bif !feq (rd Kind.flt a5 a2) (rd Kind.flt a5 a2) == feq (rd Kind.flt a3 a2) (rd Kind.flt a3 a2) then some false else laws_FnTablesBack_L14 k a0 a1 (IntKind.i64.wrap (a2 + 1)) a3 a4 a5 else none else none else none else none else none else none else none else none else none else none else none else none else (impl_Encode a0 a1 a5).bind fun val => bif val.fst == 0 then some ((bytesOf val.snd).toList == (bytesOf a4).toList) else some false
noncomputable def j_laws_FnTablesBack : List (Nat × (Nat → Cut (Bool))) := [(14, fun k => ⟨s_laws_FnTablesBack_14, fun x => laws_FnTablesBack_L14 k x.1.1 x.1.2.1 x.1.2.2.2.2.2.1 x.2.1 x.2.2.1 x.2.2.2.1⟩)]
noncomputable def laws_FnTablesBack_F (k : Nat) (a0 : List Int) : Option (Bool) :=
  (laws_big a0).bind fun val => bif val then some true else (spec_DrawEncode a0).bind fun val => (spec_Encode val.fst val.snd.fst val.snd.snd).bind fun val_1 => (impl_Encode val.fst val.snd.fst val.snd.snd).bind fun val_2 => bif val_2.fst != val_1.fst then some false else bif val_2.fst != 0 then some ((↑val_2.snd.length : Int) == 0) else (impl_Decode val.fst val.snd.fst val_2.snd).bind fun val_3 => bif val_3.fst != 0 then some false else bif (↑val_3.snd.length : Int) != (↑val.snd.snd.length : Int) then some false else laws_FnTablesBack_L14 k val.fst val.snd.fst 0 val.snd.snd val_2.snd val_3.snd
noncomputable def laws_FnTablesBack (a0 : List Int) : Option (Bool) := evF fun k => laws_FnTablesBack_F k a0
noncomputable def g_laws_FnTablesBack : Sg := ⟨i_laws_FnTablesBack, o_laws_FnTablesBack, Bool, fun y => ((y, ()), ()), fun x => laws_FnTablesBack x.1.1⟩
noncomputable def C_laws_FnTablesBack : Ctx := ⟨102, tiOf Try.prog, gl, sgOf [(19, g_laws_big), (40, g_spec_DrawEncode), (36, g_spec_Encode), (38, g_impl_Encode), (28, g_impl_Decode)], []⟩
noncomputable def r_laws_FnTablesBack : AExit → Env → Option (Bool) := retK C_laws_FnTablesBack 0 o_laws_FnTablesBack (fun y => y.1.1) Try.f8.results.toList
theorem e_laws_FnTablesBack : Sound Try.prog gl 8 g_laws_FnTablesBack :=
  sound_cuts (C := C_laws_FnTablesBack) ⟨fun _ _ h => h, by kernel_rfl⟩ (sgOf_all' ⟨.inl ⟨by kernel_rfl, (Sound.mono gl_TL (by rfl) e_laws_big)⟩, .inl ⟨by kernel_rfl, e_spec_DrawEncode⟩, .inl ⟨by kernel_rfl, (Sound.mono gl_EV (by rfl) e_spec_Encode)⟩, .inl ⟨by kernel_rfl, (Sound.mono gl_EV (by rfl) e_impl_Encode)⟩, .inl ⟨by kernel_rfl, (Sound.mono gl_DE (by rfl) e_impl_Decode)⟩, trivial⟩) 8 Try.f8 g_laws_FnTablesBack (fun y => y.1.1) j_laws_FnTablesBack 1 (by kernel_rfl) (by kernel_rfl) (by kernel_rfl) (by kernel_rfl) (by kernel_rfl) (by kernel_rfl) (fun _ => rfl) (by kernel_rfl) (by kernel_rfl)
    ⟨trivial, s_laws_FnTablesBack_14, fun k x => laws_FnTablesBack_L14 k x.1.1 x.1.2.1 x.1.2.2.2.2.2.1 x.2.1 x.2.2.1 x.2.2.2.1, ⟨fun k => by kernel_rfl, fun k y => by kernel_rfl, fun y => by kernel_rfl⟩⟩
    (fun k x => laws_FnTablesBack_F k x.1.1) (fun x => rfl) (fun k x => by kernel_rfl)
end Go.Proofs.Ytgkejafaggaocaa.TN
