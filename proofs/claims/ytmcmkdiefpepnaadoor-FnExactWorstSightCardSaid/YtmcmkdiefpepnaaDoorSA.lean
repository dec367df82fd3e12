/-
  Part of a proof by the engine: texts that a program of ours printed, or plain lemmas on them. No condition but what each theorem says.
-/
import Derived.Test.YtmcmkdiefpepnaaDoorEngU
import Derived.Test.YtmcmkdiefpepnaaDoorProg
import Derived.KernelRfl
import Derived.Test.YtmcmkdiefpepnaaDoorEngY
set_option linter.unusedSimpArgs false
set_option linter.unusedVariables false
set_option maxRecDepth 100000
namespace Go.Proofs.YtmcmkdiefpepnaaDoor.SA
open Go Go.Eng Go.Proofs
def L_impl_weathers : List ByteArray := [bs [78, 83, 87], bs [82, 65], bs [45, 82, 65], bs [43, 82, 65], bs [83, 78], bs [45, 83, 78], bs [43, 83, 78], bs [84, 83, 82, 65], bs [70, 71], bs [66, 82]]
def L_impl_covers : List ByteArray := [bs [70, 69, 87], bs [83, 67, 84], bs [66, 75, 78], bs [79, 86, 67]]
noncomputable def gl : Nat → Option (List Cell) := glOf [(2, [.sl .str L_impl_weathers]), (3, [.sl .str L_impl_covers])]
abbrev K9_0 : Kind := (.pair (.int .i64) (.pair (.int .i64) (.pair (.int .i64) (.pair (.int .i64) (.pair (.int .i64) (.pair (.int .i64) (.pair .str (.pair .str (.int .i64)))))))))
abbrev K6_1 : Kind := (.pair (.int .i64) (.pair (.int .i64) (.pair (.int .i64) (.pair .str (.pair .str (.int .i64))))))
-- loop.example/g00051/laws.szSky
noncomputable def i_laws_szSky : Shape := ⟨[(0, .agg [.int .i64, .int .i64, .int .i64, .str, .str, .int .i64]), (1, .c (.int .i64))], []⟩
noncomputable def o_laws_szSky : Shape := ⟨[(0, .c (.int .i64))], []⟩
noncomputable def laws_szSky (a0 : Int) (a1 : Int) (a2 : Int) (a3 : ByteArray) (a4 : ByteArray) (a5 : Int) (a6 : Int) : Option (Int) :=
  bif decide (IntKind.i64.wrap (a6 - (↑a3.size : Int)) < 0) then some (-1) else bif decide (IntKind.i64.wrap (IntKind.i64.wrap (a6 - (↑a3.size : Int)) - (↑a4.size : Int)) < 0) then some (-1) else some (IntKind.i64.wrap (IntKind.i64.wrap (a6 - (↑a3.size : Int)) - (↑a4.size : Int)))
noncomputable def g_laws_szSky : Sg := ⟨i_laws_szSky, o_laws_szSky, Int, fun y => ((y, ()), ()), fun x => laws_szSky x.1.1.1 x.1.1.2.1 x.1.1.2.2.1 x.1.1.2.2.2.1 x.1.1.2.2.2.2.1 x.1.1.2.2.2.2.2.1 x.1.2.1⟩
noncomputable def C_laws_szSky : Ctx := ⟨20, tiOf Tryd.prog, gl, sgOf []⟩
noncomputable def r_laws_szSky : AExit → Env → Option (Int) := retK C_laws_szSky 0 o_laws_szSky (fun y => y.1.1) Tryd.f30.results.toList
theorem e_laws_szSky : Sound Tryd.prog gl 30 g_laws_szSky :=
  sound_plain (C := C_laws_szSky) ⟨fun _ _ h => h, by kernel_rfl⟩ (sgOf_all' trivial) 30 Tryd.f30 g_laws_szSky (fun y => y.1.1) (by kernel_rfl) (by kernel_rfl) (by kernel_rfl) (by kernel_rfl) (by kernel_rfl) (by kernel_rfl) (fun _ => rfl) (fun x => by kernel_rfl)
-- loop.example/g00051/laws.szChange
noncomputable def i_laws_szChange : Shape := ⟨[(0, .agg [.int .i64, .int .i64, .int .i64, .int .i64, .int .i64, .int .i64, .str, .str, .int .i64]), (1, .c (.int .i64))], []⟩
noncomputable def o_laws_szChange : Shape := ⟨[(0, .c (.int .i64))], []⟩
noncomputable def laws_szChange (a0 : Int) (a1 : Int) (a2 : Int) (a3 : Int) (a4 : Int) (a5 : Int) (a6 : ByteArray) (a7 : ByteArray) (a8 : Int) (a9 : Int) : Option (Int) :=
  (laws_szSky a3 a4 a5 a6 a7 a8 a9).bind fun val => bif decide (val < 0) then some (-1) else some val
noncomputable def g_laws_szChange : Sg := ⟨i_laws_szChange, o_laws_szChange, Int, fun y => ((y, ()), ()), fun x => laws_szChange x.1.1.1 x.1.1.2.1 x.1.1.2.2.1 x.1.1.2.2.2.1 x.1.1.2.2.2.2.1 x.1.1.2.2.2.2.2.1 x.1.1.2.2.2.2.2.2.1 x.1.1.2.2.2.2.2.2.2.1 x.1.1.2.2.2.2.2.2.2.2.1 x.1.2.1⟩
noncomputable def C_laws_szChange : Ctx := ⟨12, tiOf Tryd.prog, gl, sgOf [(30, g_laws_szSky)]⟩
noncomputable def r_laws_szChange : AExit → Env → Option (Int) := retK C_laws_szChange 0 o_laws_szChange (fun y => y.1.1) Tryd.f118.results.toList
theorem e_laws_szChange : Sound Tryd.prog gl 118 g_laws_szChange :=
  sound_plain (C := C_laws_szChange) ⟨fun _ _ h => h, by kernel_rfl⟩ (sgOf_all' ⟨⟨by kernel_rfl, e_laws_szSky⟩, trivial⟩) 118 Tryd.f118 g_laws_szChange (fun y => y.1.1) (by kernel_rfl) (by kernel_rfl) (by kernel_rfl) (by kernel_rfl) (by kernel_rfl) (by kernel_rfl) (fun _ => rfl) (fun x => by kernel_rfl)
-- loop.example/g00051/laws.szChangeS
noncomputable def i_laws_szChangeS : Shape := ⟨[(0, .c (.sl (.pair (.int .i64) (.pair (.int .i64) (.pair (.int .i64) (.pair (.int .i64) (.pair (.int .i64) (.pair (.int .i64) (.pair .str (.pair .str (.int .i64))))))))))), (1, .c (.int .i64))], []⟩
noncomputable def o_laws_szChangeS : Shape := ⟨[(0, .c (.int .i64))], []⟩
noncomputable def s_laws_szChangeS_5 : Shape := ⟨[(0, .c (.sl (.pair (.int .i64) (.pair (.int .i64) (.pair (.int .i64) (.pair (.int .i64) (.pair (.int .i64) (.pair (.int .i64) (.pair .str (.pair .str (.int .i64))))))))))), (1, .c (.int .i64)), (5, .c (.int .i64))], []⟩
noncomputable def laws_szChangeS_L5 : Nat → (List (Int × Int × Int × Int × Int × Int × ByteArray × ByteArray × Int)) → Int → Int → Option (Int)
  | 0, _, _, _ => none
  | k + 1, a0, a1, a2 =>
  bif decide (a2 < (↑a0.length : Int)) then
   bif decide (0 ≤ a2) then
    bif decide (a2 < (↑a0.length : Int)) then
     (laws_szChange (rd K9_0 a0 a2).fst (rd K9_0 a0 a2).snd.fst (rd K9_0 a0 a2).snd.snd.fst (rd K9_0 a0 a2).snd.snd.snd.fst (rd K9_0 a0 a2).snd.snd.snd.snd.fst
        (rd K9_0 a0 a2).snd.snd.snd.snd.snd.fst (rd K9_0 a0 a2).snd.snd.snd.snd.snd.snd.fst (rd K9_0 a0 a2).snd.snd.snd.snd.snd.snd.snd.fst (rd K9_0 a0 a2).snd.snd.snd.snd.snd.snd.snd.snd a1).bind
      fun val => bif decide (val < 0) then some (-1) else laws_szChangeS_L5 k a0 val (IntKind.i64.wrap (a2 + 1))
    else none
   else none
  else some a1
noncomputable def j_laws_szChangeS : List (Nat × (Nat → Cut (Int))) := [(5, fun k => ⟨s_laws_szChangeS_5, fun x => laws_szChangeS_L5 k x.1.1 x.1.2.1 x.1.2.2.1⟩)]
noncomputable def laws_szChangeS_F (k : Nat) (a0 : List (Int × Int × Int × Int × Int × Int × ByteArray × ByteArray × Int)) (a1 : Int) : Option (Int) :=
  bif decide (IntKind.i64.wrap (a1 - (↑a0.length : Int)) < 0) then some (-1) else laws_szChangeS_L5 k a0 (IntKind.i64.wrap (a1 - (↑a0.length : Int))) 0
noncomputable def laws_szChangeS (a0 : List (Int × Int × Int × Int × Int × Int × ByteArray × ByteArray × Int)) (a1 : Int) : Option (Int) := evF fun k => laws_szChangeS_F k a0 a1
noncomputable def g_laws_szChangeS : Sg := ⟨i_laws_szChangeS, o_laws_szChangeS, Int, fun y => ((y, ()), ()), fun x => laws_szChangeS x.1.1 x.1.2.1⟩
noncomputable def C_laws_szChangeS : Ctx := ⟨27, tiOf Tryd.prog, gl, sgOf [(118, g_laws_szChange)]⟩
noncomputable def r_laws_szChangeS : AExit → Env → Option (Int) := retK C_laws_szChangeS 0 o_laws_szChangeS (fun y => y.1.1) Tryd.f58.results.toList
theorem e_laws_szChangeS : Sound Tryd.prog gl 58 g_laws_szChangeS :=
  sound_cuts (C := C_laws_szChangeS) ⟨fun _ _ h => h, by kernel_rfl⟩ (sgOf_all' ⟨⟨by kernel_rfl, e_laws_szChange⟩, trivial⟩) 58 Tryd.f58 g_laws_szChangeS (fun y => y.1.1) j_laws_szChangeS 1 (by kernel_rfl) (by kernel_rfl) (by kernel_rfl) (by kernel_rfl) (by kernel_rfl) (by kernel_rfl) (fun _ => rfl) (by kernel_rfl) (by kernel_rfl)
    ⟨trivial, s_laws_szChangeS_5, fun k x => laws_szChangeS_L5 k x.1.1 x.1.2.1 x.1.2.2.1, ⟨fun k => by kernel_rfl, fun k y => by kernel_rfl, fun y => by kernel_rfl⟩⟩
    (fun k x => laws_szChangeS_F k x.1.1 x.1.2.1) (fun x => rfl) (fun k x => by kernel_rfl)
-- loop.example/g00051/laws.szTaf
noncomputable def i_laws_szTaf : Shape := ⟨[(0, .agg [.str, .int .i64, .int .i64, .int .i64, .int .i64, .int .i64, .int .i64, .str, .str, .int .i64, .sl (.pair (.int .i64) (.pair (.int .i64) (.pair (.int .i64) (.pair (.int .i64) (.pair (.int .i64) (.pair (.int .i64) (.pair .str (.pair .str (.int .i64)))))))))]), (1, .c (.int .i64))], []⟩
noncomputable def o_laws_szTaf : Shape := ⟨[(0, .c (.int .i64))], []⟩
noncomputable def laws_szTaf (a0 : ByteArray) (a1 : Int) (a2 : Int) (a3 : Int) (a4 : Int) (a5 : Int) (a6 : Int) (a7 : ByteArray) (a8 : ByteArray) (a9 : Int) (a10 : List (Int × Int × Int × Int × Int × Int × ByteArray × ByteArray × Int)) (a11 : Int) : Option (Int) :=
  bif decide (IntKind.i64.wrap (a11 - (↑a0.size : Int)) < 0) then some (-1) else (laws_szSky a4 a5 a6 a7 a8 a9 (IntKind.i64.wrap (a11 - (↑a0.size : Int)))).bind fun val => bif decide (val < 0) then some (-1) else (laws_szChangeS a10 val).bind fun val => bif decide (val < 0) then some (-1) else some val
noncomputable def g_laws_szTaf : Sg := ⟨i_laws_szTaf, o_laws_szTaf, Int, fun y => ((y, ()), ()), fun x => laws_szTaf x.1.1.1 x.1.1.2.1 x.1.1.2.2.1 x.1.1.2.2.2.1 x.1.1.2.2.2.2.1 x.1.1.2.2.2.2.2.1 x.1.1.2.2.2.2.2.2.1 x.1.1.2.2.2.2.2.2.2.1 x.1.1.2.2.2.2.2.2.2.2.1 x.1.1.2.2.2.2.2.2.2.2.2.1 x.1.1.2.2.2.2.2.2.2.2.2.2.1 x.1.2.1⟩
noncomputable def C_laws_szTaf : Ctx := ⟨25, tiOf Tryd.prog, gl, sgOf [(30, g_laws_szSky), (58, g_laws_szChangeS)]⟩
noncomputable def r_laws_szTaf : AExit → Env → Option (Int) := retK C_laws_szTaf 0 o_laws_szTaf (fun y => y.1.1) Tryd.f14.results.toList
theorem e_laws_szTaf : Sound Tryd.prog gl 14 g_laws_szTaf :=
  sound_plain (C := C_laws_szTaf) ⟨fun _ _ h => h, by kernel_rfl⟩ (sgOf_all' ⟨⟨by kernel_rfl, e_laws_szSky⟩, ⟨by kernel_rfl, e_laws_szChangeS⟩, trivial⟩) 14 Tryd.f14 g_laws_szTaf (fun y => y.1.1) (by kernel_rfl) (by kernel_rfl) (by kernel_rfl) (by kernel_rfl) (by kernel_rfl) (by kernel_rfl) (fun _ => rfl) (fun x => by kernel_rfl)
-- loop.example/g00051/laws.toSpan
noncomputable def i_laws_toSpan : Shape := ⟨[(0, .agg [.int .i64, .int .i64])], []⟩
noncomputable def o_laws_toSpan : Shape := ⟨[(0, .agg [.int .i64, .int .i64])], []⟩
noncomputable def laws_toSpan (a0 : Int) (a1 : Int) : Option (Int × Int) :=
  some (a0, a1)
noncomputable def g_laws_toSpan : Sg := ⟨i_laws_toSpan, o_laws_toSpan, Int × Int, fun y => (((y.1, y.2, ()), ()), ()), fun x => laws_toSpan x.1.1.1 x.1.1.2.1⟩
noncomputable def C_laws_toSpan : Ctx := ⟨11, tiOf Tryd.prog, gl, sgOf []⟩
noncomputable def r_laws_toSpan : AExit → Env → Option (Int × Int) := retK C_laws_toSpan 0 o_laws_toSpan (fun y => (y.1.1.1, y.1.1.2.1)) Tryd.f61.results.toList
theorem e_laws_toSpan : Sound Tryd.prog gl 61 g_laws_toSpan :=
  sound_plain (C := C_laws_toSpan) ⟨fun _ _ h => h, by kernel_rfl⟩ (sgOf_all' trivial) 61 Tryd.f61 g_laws_toSpan (fun y => (y.1.1.1, y.1.1.2.1)) (by kernel_rfl) (by kernel_rfl) (by kernel_rfl) (by kernel_rfl) (by kernel_rfl) (by kernel_rfl) (fun _ => rfl) (fun x => by kernel_rfl)
-- loop.example/g00051/laws.toSky
noncomputable def i_laws_toSky : Shape := ⟨[(0, .agg [.int .i64, .int .i64, .int .i64, .str, .str, .int .i64])], []⟩
noncomputable def o_laws_toSky : Shape := ⟨[(0, .agg [.int .i64, .int .i64, .int .i64, .str, .str, .int .i64])], []⟩
noncomputable def laws_toSky (a0 : Int) (a1 : Int) (a2 : Int) (a3 : ByteArray) (a4 : ByteArray) (a5 : Int) : Option (Int × Int × Int × ByteArray × ByteArray × Int) :=
  some (a0, a1, a2, a3, a4, a5)
noncomputable def g_laws_toSky : Sg := ⟨i_laws_toSky, o_laws_toSky, Int × Int × Int × ByteArray × ByteArray × Int, fun y => (((y.1, y.2.1, y.2.2.1, y.2.2.2.1, y.2.2.2.2.1, y.2.2.2.2.2, ()), ()), ()), fun x => laws_toSky x.1.1.1 x.1.1.2.1 x.1.1.2.2.1 x.1.1.2.2.2.1 x.1.1.2.2.2.2.1 x.1.1.2.2.2.2.2.1⟩
noncomputable def C_laws_toSky : Ctx := ⟨23, tiOf Tryd.prog, gl, sgOf []⟩
noncomputable def r_laws_toSky : AExit → Env → Option (Int × Int × Int × ByteArray × ByteArray × Int) := retK C_laws_toSky 0 o_laws_toSky (fun y => (y.1.1.1, y.1.1.2.1, y.1.1.2.2.1, y.1.1.2.2.2.1, y.1.1.2.2.2.2.1, y.1.1.2.2.2.2.2.1)) Tryd.f32.results.toList
theorem e_laws_toSky : Sound Tryd.prog gl 32 g_laws_toSky :=
  sound_plain (C := C_laws_toSky) ⟨fun _ _ h => h, by kernel_rfl⟩ (sgOf_all' trivial) 32 Tryd.f32 g_laws_toSky (fun y => (y.1.1.1, y.1.1.2.1, y.1.1.2.2.1, y.1.1.2.2.2.1, y.1.1.2.2.2.2.1, y.1.1.2.2.2.2.2.1)) (by kernel_rfl) (by kernel_rfl) (by kernel_rfl) (by kernel_rfl) (by kernel_rfl) (by kernel_rfl) (fun _ => rfl) (fun x => by kernel_rfl)
-- loop.example/g00051/laws.toChange
noncomputable def i_laws_toChange : Shape := ⟨[(0, .agg [.int .i64, .int .i64, .int .i64, .int .i64, .int .i64, .int .i64, .str, .str, .int .i64])], []⟩
noncomputable def o_laws_toChange : Shape := ⟨[(0, .agg [.int .i64, .int .i64, .int .i64, .int .i64, .int .i64, .int .i64, .str, .str, .int .i64])], []⟩
noncomputable def laws_toChange (a0 : Int) (a1 : Int) (a2 : Int) (a3 : Int) (a4 : Int) (a5 : Int) (a6 : ByteArray) (a7 : ByteArray) (a8 : Int) : Option (Int × Int × Int × Int × Int × Int × ByteArray × ByteArray × Int) :=
  (laws_toSky a3 a4 a5 a6 a7 a8).bind fun val => some (a0, a1, a2, val.fst, val.snd.fst, val.snd.snd.fst, val.snd.snd.snd.fst, val.snd.snd.snd.snd.fst, val.snd.snd.snd.snd.snd)
noncomputable def g_laws_toChange : Sg := ⟨i_laws_toChange, o_laws_toChange, Int × Int × Int × Int × Int × Int × ByteArray × ByteArray × Int, fun y => (((y.1, y.2.1, y.2.2.1, y.2.2.2.1, y.2.2.2.2.1, y.2.2.2.2.2.1, y.2.2.2.2.2.2.1, y.2.2.2.2.2.2.2.1, y.2.2.2.2.2.2.2.2, ()), ()), ()), fun x => laws_toChange x.1.1.1 x.1.1.2.1 x.1.1.2.2.1 x.1.1.2.2.2.1 x.1.1.2.2.2.2.1 x.1.1.2.2.2.2.2.1 x.1.1.2.2.2.2.2.2.1 x.1.1.2.2.2.2.2.2.2.1 x.1.1.2.2.2.2.2.2.2.2.1⟩
noncomputable def C_laws_toChange : Ctx := ⟨18, tiOf Tryd.prog, gl, sgOf [(32, g_laws_toSky)]⟩
noncomputable def r_laws_toChange : AExit → Env → Option (Int × Int × Int × Int × Int × Int × ByteArray × ByteArray × Int) := retK C_laws_toChange 0 o_laws_toChange (fun y => (y.1.1.1, y.1.1.2.1, y.1.1.2.2.1, y.1.1.2.2.2.1, y.1.1.2.2.2.2.1, y.1.1.2.2.2.2.2.1, y.1.1.2.2.2.2.2.2.1, y.1.1.2.2.2.2.2.2.2.1, y.1.1.2.2.2.2.2.2.2.2.1)) Tryd.f123.results.toList
theorem e_laws_toChange : Sound Tryd.prog gl 123 g_laws_toChange :=
  sound_plain (C := C_laws_toChange) ⟨fun _ _ h => h, by kernel_rfl⟩ (sgOf_all' ⟨⟨by kernel_rfl, e_laws_toSky⟩, trivial⟩) 123 Tryd.f123 g_laws_toChange (fun y => (y.1.1.1, y.1.1.2.1, y.1.1.2.2.1, y.1.1.2.2.2.1, y.1.1.2.2.2.2.1, y.1.1.2.2.2.2.2.1, y.1.1.2.2.2.2.2.2.1, y.1.1.2.2.2.2.2.2.2.1, y.1.1.2.2.2.2.2.2.2.2.1)) (by kernel_rfl) (by kernel_rfl) (by kernel_rfl) (by kernel_rfl) (by kernel_rfl) (by kernel_rfl) (fun _ => rfl) (fun x => by kernel_rfl)
-- loop.example/g00051/laws.toChangeS
noncomputable def i_laws_toChangeS : Shape := ⟨[(0, .c (.sl (.pair (.int .i64) (.pair (.int .i64) (.pair (.int .i64) (.pair (.int .i64) (.pair (.int .i64) (.pair (.int .i64) (.pair .str (.pair .str (.int .i64)))))))))))], []⟩
noncomputable def o_laws_toChangeS : Shape := ⟨[(0, .c (.ref 0))], [.lst 90 (.pair (.int .i64) (.pair (.int .i64) (.pair (.int .i64) (.pair (.int .i64) (.pair (.int .i64) (.pair (.int .i64) (.pair .str (.pair .str (.int .i64)))))))))]⟩
noncomputable def s_laws_toChangeS_3 : Shape := ⟨[(0, .c (.sl (.pair (.int .i64) (.pair (.int .i64) (.pair (.int .i64) (.pair (.int .i64) (.pair (.int .i64) (.pair (.int .i64) (.pair .str (.pair .str (.int .i64))))))))))), (3, .c (.ref 0)), (4, .c (.int .i64))], [.lst 90 (.pair (.int .i64) (.pair (.int .i64) (.pair (.int .i64) (.pair (.int .i64) (.pair (.int .i64) (.pair (.int .i64) (.pair .str (.pair .str (.int .i64)))))))))]⟩
noncomputable def laws_toChangeS_L3 : Nat → (List (Int × Int × Int × Int × Int × Int × ByteArray × ByteArray × Int)) → Int → (List (Int × Int × Int × Int × Int × Int × ByteArray × ByteArray × Int)) → Option ((List (Int × Int × Int × Int × Int × Int × ByteArray × ByteArray × Int)))
  | 0, _, _, _ => none
  | k + 1, a0, a1, a2 =>
  bif decide (a1 < (↑a0.length : Int)) then
   bif decide (0 ≤ a1) then
    bif decide (a1 < (↑a0.length : Int)) then
     (laws_toChange (rd K9_0 a0 a1).fst (rd K9_0 a0 a1).snd.fst (rd K9_0 a0 a1).snd.snd.fst (rd K9_0 a0 a1).snd.snd.snd.fst (rd K9_0 a0 a1).snd.snd.snd.snd.fst
        (rd K9_0 a0 a1).snd.snd.snd.snd.snd.fst (rd K9_0 a0 a1).snd.snd.snd.snd.snd.snd.fst (rd K9_0 a0 a1).snd.snd.snd.snd.snd.snd.snd.fst (rd K9_0 a0 a1).snd.snd.snd.snd.snd.snd.snd.snd).bind
      fun val => bif decide (0 ≤ a1) then bif decide (a1 < (↑a2.length : Int)) then (setW a2 a1 (val.fst, val.snd.fst, val.snd.snd.fst, val.snd.snd.snd.fst, val.snd.snd.snd.snd.fst, val.snd.snd.snd.snd.snd.fst, val.snd.snd.snd.snd.snd.snd.fst, val.snd.snd.snd.snd.snd.snd.snd.fst, val.snd.snd.snd.snd.snd.snd.snd.snd)).bind fun val => laws_toChangeS_L3 k a0 (IntKind.i64.wrap (a1 + 1)) val else none else none
    else none
   else none
  else some a2
noncomputable def j_laws_toChangeS : List (Nat × (Nat → Cut ((List (Int × Int × Int × Int × Int × Int × ByteArray × ByteArray × Int))))) := [(3, fun k => ⟨s_laws_toChangeS_3, fun x => laws_toChangeS_L3 k x.1.1 x.1.2.2.1 x.2.1⟩)]
noncomputable def laws_toChangeS_F (k : Nat) (a0 : List (Int × Int × Int × Int × Int × Int × ByteArray × ByteArray × Int)) : Option ((List (Int × Int × Int × Int × Int × Int × ByteArray × ByteArray × Int))) :=
  bif decide ((↑a0.length : Int) ≤ (↑a0.length : Int)) then bif decide ((↑a0.length : Int).toNat ≤ maxBytes / 88) then laws_toChangeS_L3 k a0 0 (List.replicate (↑a0.length : Int).toNat (0, 0, 0, 0, 0, 0, bs [], bs [], 0)) else none else none
noncomputable def laws_toChangeS (a0 : List (Int × Int × Int × Int × Int × Int × ByteArray × ByteArray × Int)) : Option ((List (Int × Int × Int × Int × Int × Int × ByteArray × ByteArray × Int))) := evF fun k => laws_toChangeS_F k a0
noncomputable def g_laws_toChangeS : Sg := ⟨i_laws_toChangeS, o_laws_toChangeS, (List (Int × Int × Int × Int × Int × Int × ByteArray × ByteArray × Int)), fun y => (((), ()), (y, ())), fun x => laws_toChangeS x.1.1⟩
noncomputable def C_laws_toChangeS : Ctx := ⟨23, tiOf Tryd.prog, gl, sgOf [(123, g_laws_toChange)]⟩
noncomputable def r_laws_toChangeS : AExit → Env → Option ((List (Int × Int × Int × Int × Int × Int × ByteArray × ByteArray × Int))) := retK C_laws_toChangeS 0 o_laws_toChangeS (fun y => y.2.1) Tryd.f62.results.toList
theorem e_laws_toChangeS : Sound Tryd.prog gl 62 g_laws_toChangeS :=
  sound_cuts (C := C_laws_toChangeS) ⟨fun _ _ h => h, by kernel_rfl⟩ (sgOf_all' ⟨⟨by kernel_rfl, e_laws_toChange⟩, trivial⟩) 62 Tryd.f62 g_laws_toChangeS (fun y => y.2.1) j_laws_toChangeS 1 (by kernel_rfl) (by kernel_rfl) (by kernel_rfl) (by kernel_rfl) (by kernel_rfl) (by kernel_rfl) (fun _ => rfl) (by kernel_rfl) (by kernel_rfl)
    ⟨trivial, s_laws_toChangeS_3, fun k x => laws_toChangeS_L3 k x.1.1 x.1.2.2.1 x.2.1, ⟨fun k => by kernel_rfl, fun k y => by kernel_rfl, fun y => by kernel_rfl⟩⟩
    (fun k x => laws_toChangeS_F k x.1.1) (fun x => rfl) (fun k x => by kernel_rfl)
-- loop.example/g00051/laws.toTaf
noncomputable def i_laws_toTaf : Shape := ⟨[(0, .agg [.str, .int .i64, .int .i64, .int .i64, .int .i64, .int .i64, .int .i64, .str, .str, .int .i64, .sl (.pair (.int .i64) (.pair (.int .i64) (.pair (.int .i64) (.pair (.int .i64) (.pair (.int .i64) (.pair (.int .i64) (.pair .str (.pair .str (.int .i64)))))))))])], []⟩
noncomputable def o_laws_toTaf : Shape := ⟨[(0, .agg [.str, .int .i64, .int .i64, .int .i64, .int .i64, .int .i64, .int .i64, .str, .str, .int .i64, .ref 0])], [.lst 90 (.pair (.int .i64) (.pair (.int .i64) (.pair (.int .i64) (.pair (.int .i64) (.pair (.int .i64) (.pair (.int .i64) (.pair .str (.pair .str (.int .i64)))))))))]⟩
noncomputable def laws_toTaf (a0 : ByteArray) (a1 : Int) (a2 : Int) (a3 : Int) (a4 : Int) (a5 : Int) (a6 : Int) (a7 : ByteArray) (a8 : ByteArray) (a9 : Int) (a10 : List (Int × Int × Int × Int × Int × Int × ByteArray × ByteArray × Int)) : Option (ByteArray × Int × Int × Int × Int × Int × Int × ByteArray × ByteArray × Int × (List (Int × Int × Int × Int × Int × Int × ByteArray × ByteArray × Int))) :=
  (laws_toSpan a2 a3).bind fun val => (laws_toSky a4 a5 a6 a7 a8 a9).bind fun val_1 => (laws_toChangeS a10).bind fun val_2 => some (a0, a1, val.fst, val.snd, val_1.fst, val_1.snd.fst, val_1.snd.snd.fst, val_1.snd.snd.snd.fst, val_1.snd.snd.snd.snd.fst, val_1.snd.snd.snd.snd.snd, val_2)
noncomputable def g_laws_toTaf : Sg := ⟨i_laws_toTaf, o_laws_toTaf, ByteArray × Int × Int × Int × Int × Int × Int × ByteArray × ByteArray × Int × (List (Int × Int × Int × Int × Int × Int × ByteArray × ByteArray × Int)), fun y => (((y.1, y.2.1, y.2.2.1, y.2.2.2.1, y.2.2.2.2.1, y.2.2.2.2.2.1, y.2.2.2.2.2.2.1, y.2.2.2.2.2.2.2.1, y.2.2.2.2.2.2.2.2.1, y.2.2.2.2.2.2.2.2.2.1, (), ()), ()), (y.2.2.2.2.2.2.2.2.2.2, ())), fun x => laws_toTaf x.1.1.1 x.1.1.2.1 x.1.1.2.2.1 x.1.1.2.2.2.1 x.1.1.2.2.2.2.1 x.1.1.2.2.2.2.2.1 x.1.1.2.2.2.2.2.2.1 x.1.1.2.2.2.2.2.2.2.1 x.1.1.2.2.2.2.2.2.2.2.1 x.1.1.2.2.2.2.2.2.2.2.2.1 x.1.1.2.2.2.2.2.2.2.2.2.2.1⟩
noncomputable def C_laws_toTaf : Ctx := ⟨23, tiOf Tryd.prog, gl, sgOf [(61, g_laws_toSpan), (32, g_laws_toSky), (62, g_laws_toChangeS)]⟩
noncomputable def r_laws_toTaf : AExit → Env → Option (ByteArray × Int × Int × Int × Int × Int × Int × ByteArray × ByteArray × Int × (List (Int × Int × Int × Int × Int × Int × ByteArray × ByteArray × Int))) := retK C_laws_toTaf 0 o_laws_toTaf (fun y => (y.1.1.1, y.1.1.2.1, y.1.1.2.2.1, y.1.1.2.2.2.1, y.1.1.2.2.2.2.1, y.1.1.2.2.2.2.2.1, y.1.1.2.2.2.2.2.2.1, y.1.1.2.2.2.2.2.2.2.1, y.1.1.2.2.2.2.2.2.2.2.1, y.1.1.2.2.2.2.2.2.2.2.2.1, y.2.1)) Tryd.f16.results.toList
theorem e_laws_toTaf : Sound Tryd.prog gl 16 g_laws_toTaf :=
  sound_plain (C := C_laws_toTaf) ⟨fun _ _ h => h, by kernel_rfl⟩ (sgOf_all' ⟨⟨by kernel_rfl, e_laws_toSpan⟩, ⟨by kernel_rfl, e_laws_toSky⟩, ⟨by kernel_rfl, e_laws_toChangeS⟩, trivial⟩) 16 Tryd.f16 g_laws_toTaf (fun y => (y.1.1.1, y.1.1.2.1, y.1.1.2.2.1, y.1.1.2.2.2.1, y.1.1.2.2.2.2.1, y.1.1.2.2.2.2.2.1, y.1.1.2.2.2.2.2.2.1, y.1.1.2.2.2.2.2.2.2.1, y.1.1.2.2.2.2.2.2.2.2.1, y.1.1.2.2.2.2.2.2.2.2.2.1, y.2.1)) (by kernel_rfl) (by kernel_rfl) (by kernel_rfl) (by kernel_rfl) (by kernel_rfl) (by kernel_rfl) (fun _ => rfl) (fun x => by kernel_rfl)
-- loop.example/g00051/spec.l4Letters
noncomputable def i_spec_l4Letters : Shape := ⟨[(0, .c (.str))], []⟩
noncomputable def o_spec_l4Letters : Shape := ⟨[(0, .c (.bool))], []⟩
noncomputable def s_spec_l4Letters_2 : Shape := ⟨[(0, .c (.str)), (3, .c (.int .i64))], []⟩
noncomputable def spec_l4Letters_L2 : Nat → ByteArray → Int → Option (Bool)
  | 0, _, _ => none
  | k + 1, a0, a1 =>
  bif decide (a1 < (↑a0.size : Int)) then bif decide (0 ≤ a1) then bif decide (a1 < (↑a0.size : Int)) then bif decide (bt a0 a1 < 65) then some false else bif decide (0 ≤ a1) then bif decide (a1 < (↑a0.size : Int)) then bif decide (bt a0 a1 > 90) then some false else spec_l4Letters_L2 k a0 (IntKind.i64.wrap (a1 + 1)) else none else none else none else none else some true
noncomputable def j_spec_l4Letters : List (Nat × (Nat → Cut (Bool))) := [(2, fun k => ⟨s_spec_l4Letters_2, fun x => spec_l4Letters_L2 k x.1.1 x.1.2.1⟩)]
noncomputable def spec_l4Letters_F (k : Nat) (a0 : ByteArray) : Option (Bool) :=
  spec_l4Letters_L2 k a0 0
noncomputable def spec_l4Letters (a0 : ByteArray) : Option (Bool) := evF fun k => spec_l4Letters_F k a0
noncomputable def g_spec_l4Letters : Sg := ⟨i_spec_l4Letters, o_spec_l4Letters, Bool, fun y => ((y, ()), ()), fun x => spec_l4Letters x.1.1⟩
noncomputable def C_spec_l4Letters : Ctx := ⟨20, tiOf Tryd.prog, gl, sgOf []⟩
noncomputable def r_spec_l4Letters : AExit → Env → Option (Bool) := retK C_spec_l4Letters 0 o_spec_l4Letters (fun y => y.1.1) Tryd.f104.results.toList
theorem e_spec_l4Letters : Sound Tryd.prog gl 104 g_spec_l4Letters :=
  sound_cuts (C := C_spec_l4Letters) ⟨fun _ _ h => h, by kernel_rfl⟩ (sgOf_all' trivial) 104 Tryd.f104 g_spec_l4Letters (fun y => y.1.1) j_spec_l4Letters 1 (by kernel_rfl) (by kernel_rfl) (by kernel_rfl) (by kernel_rfl) (by kernel_rfl) (by kernel_rfl) (fun _ => rfl) (by kernel_rfl) (by kernel_rfl)
    ⟨trivial, s_spec_l4Letters_2, fun k x => spec_l4Letters_L2 k x.1.1 x.1.2.1, ⟨fun k => by kernel_rfl, fun k y => by kernel_rfl, fun y => by kernel_rfl⟩⟩
    (fun k x => spec_l4Letters_F k x.1.1) (fun x => rfl) (fun k x => by kernel_rfl)
-- loop.example/g00051/spec.l1Digit
noncomputable def i_spec_l1Digit : Shape := ⟨[(0, .c (.int .u8))], []⟩
noncomputable def o_spec_l1Digit : Shape := ⟨[(0, .c (.bool))], []⟩
noncomputable def spec_l1Digit (a0 : Int) : Option (Bool) :=
  bif decide (a0 ≥ 48) then some (decide (a0 ≤ 57)) else some false
noncomputable def g_spec_l1Digit : Sg := ⟨i_spec_l1Digit, o_spec_l1Digit, Bool, fun y => ((y, ()), ()), fun x => spec_l1Digit x.1.1⟩
noncomputable def C_spec_l1Digit : Ctx := ⟨9, tiOf Tryd.prog, gl, sgOf []⟩
noncomputable def r_spec_l1Digit : AExit → Env → Option (Bool) := retK C_spec_l1Digit 0 o_spec_l1Digit (fun y => y.1.1) Tryd.f147.results.toList
theorem e_spec_l1Digit : Sound Tryd.prog gl 147 g_spec_l1Digit :=
  sound_plain (C := C_spec_l1Digit) ⟨fun _ _ h => h, by kernel_rfl⟩ (sgOf_all' trivial) 147 Tryd.f147 g_spec_l1Digit (fun y => y.1.1) (by kernel_rfl) (by kernel_rfl) (by kernel_rfl) (by kernel_rfl) (by kernel_rfl) (by kernel_rfl) (fun _ => rfl) (fun x => by kernel_rfl)
-- loop.example/g00051/spec.l4CentreOk
noncomputable def i_spec_l4CentreOk : Shape := ⟨[(0, .c (.str))], []⟩
noncomputable def o_spec_l4CentreOk : Shape := ⟨[(0, .c (.bool))], []⟩
noncomputable def s_spec_l4CentreOk_4 : Shape := ⟨[(0, .c (.str)), (3, .c (.int .i64))], []⟩
noncomputable def spec_l4CentreOk_L4 : Nat → ByteArray → Int → Option (Bool)
  | 0, _, _ => none
  | k + 1, a0, a1 =>
  bif decide (a1 < 4) then bif decide (0 ≤ a1) then bif decide (a1 < (↑a0.size : Int)) then (spec_l1Digit (bt a0 a1)).bind fun val => bif !val then bif decide (0 ≤ IntKind.i64.wrap (a1 + 1)) && decide (IntKind.i64.wrap (a1 + 1) ≤ (↑a0.size : Int)) then bif decide (0 ≤ a1) && decide (a1 ≤ IntKind.i64.wrap (a1 + 1)) then (spec_l4Letters (a0.extract a1.toNat (IntKind.i64.wrap (a1 + 1)).toNat)).bind fun val => bif !val then some false else spec_l4CentreOk_L4 k a0 (IntKind.i64.wrap (a1 + 1)) else none else none else spec_l4CentreOk_L4 k a0 (IntKind.i64.wrap (a1 + 1)) else none else none else some true
noncomputable def j_spec_l4CentreOk : List (Nat × (Nat → Cut (Bool))) := [(4, fun k => ⟨s_spec_l4CentreOk_4, fun x => spec_l4CentreOk_L4 k x.1.1 x.1.2.1⟩)]
noncomputable def spec_l4CentreOk_F (k : Nat) (a0 : ByteArray) : Option (Bool) :=
  bif (↑a0.size : Int) != 4 then some false else bif decide (0 ≤ 1) && decide (1 ≤ (↑a0.size : Int)) then (spec_l4Letters (a0.extract (Int.toNat 0) (Int.toNat 1))).bind fun val => bif !val then some false else spec_l4CentreOk_L4 k a0 1 else none
noncomputable def spec_l4CentreOk (a0 : ByteArray) : Option (Bool) := evF fun k => spec_l4CentreOk_F k a0
noncomputable def g_spec_l4CentreOk : Sg := ⟨i_spec_l4CentreOk, o_spec_l4CentreOk, Bool, fun y => ((y, ()), ()), fun x => spec_l4CentreOk x.1.1⟩
noncomputable def C_spec_l4CentreOk : Ctx := ⟨31, tiOf Tryd.prog, gl, sgOf [(104, g_spec_l4Letters), (147, g_spec_l1Digit)]⟩
noncomputable def r_spec_l4CentreOk : AExit → Env → Option (Bool) := retK C_spec_l4CentreOk 0 o_spec_l4CentreOk (fun y => y.1.1) Tryd.f105.results.toList
theorem e_spec_l4CentreOk : Sound Tryd.prog gl 105 g_spec_l4CentreOk :=
  sound_cuts (C := C_spec_l4CentreOk) ⟨fun _ _ h => h, by kernel_rfl⟩ (sgOf_all' ⟨⟨by kernel_rfl, e_spec_l4Letters⟩, ⟨by kernel_rfl, e_spec_l1Digit⟩, trivial⟩) 105 Tryd.f105 g_spec_l4CentreOk (fun y => y.1.1) j_spec_l4CentreOk 1 (by kernel_rfl) (by kernel_rfl) (by kernel_rfl) (by kernel_rfl) (by kernel_rfl) (by kernel_rfl) (fun _ => rfl) (by kernel_rfl) (by kernel_rfl)
    ⟨trivial, s_spec_l4CentreOk_4, fun k x => spec_l4CentreOk_L4 k x.1.1 x.1.2.1, ⟨fun k => by kernel_rfl, fun k y => by kernel_rfl, fun y => by kernel_rfl⟩⟩
    (fun k x => spec_l4CentreOk_F k x.1.1) (fun x => rfl) (fun k x => by kernel_rfl)
-- loop.example/g00051/spec.l2Time
noncomputable def i_spec_l2Time : Shape := ⟨[(0, .c (.int .i64))], []⟩
noncomputable def o_spec_l2Time : Shape := ⟨[(0, .c (.bool))], []⟩
noncomputable def spec_l2Time (a0 : Int) : Option (Bool) :=
  bif decide (a0 ≥ 0) then some (decide (a0 ≤ 52596000)) else some false
noncomputable def g_spec_l2Time : Sg := ⟨i_spec_l2Time, o_spec_l2Time, Bool, fun y => ((y, ()), ()), fun x => spec_l2Time x.1.1⟩
noncomputable def C_spec_l2Time : Ctx := ⟨9, tiOf Tryd.prog, gl, sgOf []⟩
noncomputable def r_spec_l2Time : AExit → Env → Option (Bool) := retK C_spec_l2Time 0 o_spec_l2Time (fun y => y.1.1) Tryd.f90.results.toList
theorem e_spec_l2Time : Sound Tryd.prog gl 90 g_spec_l2Time :=
  sound_plain (C := C_spec_l2Time) ⟨fun _ _ h => h, by kernel_rfl⟩ (sgOf_all' trivial) 90 Tryd.f90 g_spec_l2Time (fun y => y.1.1) (by kernel_rfl) (by kernel_rfl) (by kernel_rfl) (by kernel_rfl) (by kernel_rfl) (by kernel_rfl) (fun _ => rfl) (fun x => by kernel_rfl)
-- loop.example/g00051/spec.l2SpanOk
noncomputable def i_spec_l2SpanOk : Shape := ⟨[(0, .agg [.int .i64, .int .i64])], []⟩
noncomputable def o_spec_l2SpanOk : Shape := ⟨[(0, .c (.bool))], []⟩
noncomputable def spec_l2SpanOk (a0 : Int) (a1 : Int) : Option (Bool) :=
  (spec_l2Time a0).bind fun val => bif val then (spec_l2Time a1).bind fun val => bif val then some (decide (a0 ≤ a1)) else some false else some false
noncomputable def g_spec_l2SpanOk : Sg := ⟨i_spec_l2SpanOk, o_spec_l2SpanOk, Bool, fun y => ((y, ()), ()), fun x => spec_l2SpanOk x.1.1.1 x.1.1.2.1⟩
noncomputable def C_spec_l2SpanOk : Ctx := ⟨18, tiOf Tryd.prog, gl, sgOf [(90, g_spec_l2Time)]⟩
noncomputable def r_spec_l2SpanOk : AExit → Env → Option (Bool) := retK C_spec_l2SpanOk 0 o_spec_l2SpanOk (fun y => y.1.1) Tryd.f119.results.toList
theorem e_spec_l2SpanOk : Sound Tryd.prog gl 119 g_spec_l2SpanOk :=
  sound_plain (C := C_spec_l2SpanOk) ⟨fun _ _ h => h, by kernel_rfl⟩ (sgOf_all' ⟨⟨by kernel_rfl, e_spec_l2Time⟩, trivial⟩) 119 Tryd.f119 g_spec_l2SpanOk (fun y => y.1.1) (by kernel_rfl) (by kernel_rfl) (by kernel_rfl) (by kernel_rfl) (by kernel_rfl) (by kernel_rfl) (fun _ => rfl) (fun x => by kernel_rfl)
-- loop.example/g00051/spec.l2In
noncomputable def i_spec_l2In : Shape := ⟨[(0, .c (.int .i64)), (1, .c (.int .i64)), (2, .c (.int .i64))], []⟩
noncomputable def o_spec_l2In : Shape := ⟨[(0, .c (.bool))], []⟩
noncomputable def spec_l2In (a0 : Int) (a1 : Int) (a2 : Int) : Option (Bool) :=
  bif decide (a0 ≥ a1) then some (decide (a0 ≤ a2)) else some false
noncomputable def g_spec_l2In : Sg := ⟨i_spec_l2In, o_spec_l2In, Bool, fun y => ((y, ()), ()), fun x => spec_l2In x.1.1 x.1.2.1 x.1.2.2.1⟩
noncomputable def C_spec_l2In : Ctx := ⟨15, tiOf Tryd.prog, gl, sgOf []⟩
noncomputable def r_spec_l2In : AExit → Env → Option (Bool) := retK C_spec_l2In 0 o_spec_l2In (fun y => y.1.1) Tryd.f120.results.toList
theorem e_spec_l2In : Sound Tryd.prog gl 120 g_spec_l2In :=
  sound_plain (C := C_spec_l2In) ⟨fun _ _ h => h, by kernel_rfl⟩ (sgOf_all' trivial) 120 Tryd.f120 g_spec_l2In (fun y => y.1.1) (by kernel_rfl) (by kernel_rfl) (by kernel_rfl) (by kernel_rfl) (by kernel_rfl) (by kernel_rfl) (fun _ => rfl) (fun x => by kernel_rfl)
-- loop.example/g00051/spec.l21WindOk
noncomputable def i_spec_l21WindOk : Shape := ⟨[(0, .agg [.int .i64, .int .i64, .int .i64, .str, .str, .int .i64])], []⟩
noncomputable def o_spec_l21WindOk : Shape := ⟨[(0, .c (.bool))], []⟩
noncomputable def spec_l21WindOk (a0 : Int) (a1 : Int) (a2 : Int) (a3 : ByteArray) (a4 : ByteArray) (a5 : Int) : Option (Bool) :=
  bif a0 == -1 then some (a1 == 0) else bif a0 == 0 then some (a1 == 0) else (spec_l2In a0 1 36).bind fun val => bif val then (spec_l2In a1 1 99).bind fun val => some val else bif a0 == 99 then (spec_l2In a1 1 99).bind fun val => some val else some false
noncomputable def g_spec_l21WindOk : Sg := ⟨i_spec_l21WindOk, o_spec_l21WindOk, Bool, fun y => ((y, ()), ()), fun x => spec_l21WindOk x.1.1.1 x.1.1.2.1 x.1.1.2.2.1 x.1.1.2.2.2.1 x.1.1.2.2.2.2.1 x.1.1.2.2.2.2.2.1⟩
noncomputable def C_spec_l21WindOk : Ctx := ⟨27, tiOf Tryd.prog, gl, sgOf [(120, g_spec_l2In)]⟩
noncomputable def r_spec_l21WindOk : AExit → Env → Option (Bool) := retK C_spec_l21WindOk 0 o_spec_l21WindOk (fun y => y.1.1) Tryd.f136.results.toList
theorem e_spec_l21WindOk : Sound Tryd.prog gl 136 g_spec_l21WindOk :=
  sound_plain (C := C_spec_l21WindOk) ⟨fun _ _ h => h, by kernel_rfl⟩ (sgOf_all' ⟨⟨by kernel_rfl, e_spec_l2In⟩, trivial⟩) 136 Tryd.f136 g_spec_l21WindOk (fun y => y.1.1) (by kernel_rfl) (by kernel_rfl) (by kernel_rfl) (by kernel_rfl) (by kernel_rfl) (by kernel_rfl) (fun _ => rfl) (fun x => by kernel_rfl)
-- loop.example/g00051/spec.l21WeatherOk
noncomputable def i_spec_l21WeatherOk : Shape := ⟨[(0, .c (.str))], []⟩
noncomputable def o_spec_l21WeatherOk : Shape := ⟨[(0, .c (.bool))], []⟩
noncomputable def spec_l21WeatherOk (a0 : ByteArray) : Option (Bool) :=
  bif a0.toList == (bs []).toList then some true else bif a0.toList == (bs [78, 83, 87]).toList then some true else bif a0.toList == (bs [82, 65]).toList then some true else bif a0.toList == (bs [45, 82, 65]).toList then some true else bif a0.toList == (bs [43, 82, 65]).toList then some true else bif a0.toList == (bs [83, 78]).toList then some true else bif a0.toList == (bs [45, 83, 78]).toList then some true else bif a0.toList == (bs [43, 83, 78]).toList then some true else bif a0.toList == (bs [84, 83, 82, 65]).toList then some true else bif a0.toList == (bs [70, 71]).toList then some true else bif a0.toList == (bs [66, 82]).toList then some true else some false
noncomputable def g_spec_l21WeatherOk : Sg := ⟨i_spec_l21WeatherOk, o_spec_l21WeatherOk, Bool, fun y => ((y, ()), ()), fun x => spec_l21WeatherOk x.1.1⟩
noncomputable def C_spec_l21WeatherOk : Ctx := ⟨16, tiOf Tryd.prog, gl, sgOf []⟩
noncomputable def r_spec_l21WeatherOk : AExit → Env → Option (Bool) := retK C_spec_l21WeatherOk 0 o_spec_l21WeatherOk (fun y => y.1.1) Tryd.f137.results.toList
theorem e_spec_l21WeatherOk : Sound Tryd.prog gl 137 g_spec_l21WeatherOk :=
  sound_plain (C := C_spec_l21WeatherOk) ⟨fun _ _ h => h, by kernel_rfl⟩ (sgOf_all' trivial) 137 Tryd.f137 g_spec_l21WeatherOk (fun y => y.1.1) (by kernel_rfl) (by kernel_rfl) (by kernel_rfl) (by kernel_rfl) (by kernel_rfl) (by kernel_rfl) (fun _ => rfl) (fun x => by kernel_rfl)
-- loop.example/g00051/spec.l21CloudOk
noncomputable def i_spec_l21CloudOk : Shape := ⟨[(0, .agg [.int .i64, .int .i64, .int .i64, .str, .str, .int .i64])], []⟩
noncomputable def o_spec_l21CloudOk : Shape := ⟨[(0, .c (.bool))], []⟩
noncomputable def spec_l21CloudOk (a0 : Int) (a1 : Int) (a2 : Int) (a3 : ByteArray) (a4 : ByteArray) (a5 : Int) : Option (Bool) :=
  bif a4.toList == (bs []).toList then some (a5 == 0) else bif a4.toList == (bs [83, 75, 67]).toList then some (a5 == 0) else bif a4.toList == (bs [70, 69, 87]).toList then (spec_l2In a5 1 200).bind fun val => some val else bif a4.toList == (bs [83, 67, 84]).toList then (spec_l2In a5 1 200).bind fun val => some val else bif a4.toList == (bs [66, 75, 78]).toList then (spec_l2In a5 1 200).bind fun val => some val else bif a4.toList == (bs [79, 86, 67]).toList then (spec_l2In a5 1 200).bind fun val => some val else some false
noncomputable def g_spec_l21CloudOk : Sg := ⟨i_spec_l21CloudOk, o_spec_l21CloudOk, Bool, fun y => ((y, ()), ()), fun x => spec_l21CloudOk x.1.1.1 x.1.1.2.1 x.1.1.2.2.1 x.1.1.2.2.2.1 x.1.1.2.2.2.2.1 x.1.1.2.2.2.2.2.1⟩
noncomputable def C_spec_l21CloudOk : Ctx := ⟨19, tiOf Tryd.prog, gl, sgOf [(120, g_spec_l2In)]⟩
noncomputable def r_spec_l21CloudOk : AExit → Env → Option (Bool) := retK C_spec_l21CloudOk 0 o_spec_l21CloudOk (fun y => y.1.1) Tryd.f138.results.toList
theorem e_spec_l21CloudOk : Sound Tryd.prog gl 138 g_spec_l21CloudOk :=
  sound_plain (C := C_spec_l21CloudOk) ⟨fun _ _ h => h, by kernel_rfl⟩ (sgOf_all' ⟨⟨by kernel_rfl, e_spec_l2In⟩, trivial⟩) 138 Tryd.f138 g_spec_l21CloudOk (fun y => y.1.1) (by kernel_rfl) (by kernel_rfl) (by kernel_rfl) (by kernel_rfl) (by kernel_rfl) (by kernel_rfl) (fun _ => rfl) (fun x => by kernel_rfl)
-- loop.example/g00051/spec.SkyOk
noncomputable def i_spec_SkyOk : Shape := ⟨[(0, .agg [.int .i64, .int .i64, .int .i64, .str, .str, .int .i64])], []⟩
noncomputable def o_spec_SkyOk : Shape := ⟨[(0, .c (.bool))], []⟩
noncomputable def spec_SkyOk (a0 : Int) (a1 : Int) (a2 : Int) (a3 : ByteArray) (a4 : ByteArray) (a5 : Int) : Option (Bool) :=
  (spec_l21WindOk a0 a1 a2 a3 a4 a5).bind fun val => bif val then (spec_l2In a2 (-1) 9999).bind fun val => bif val then (spec_l21WeatherOk a3).bind fun val => bif val then (spec_l21CloudOk a0 a1 a2 a3 a4 a5).bind fun val => some val else some false else some false else some false
noncomputable def g_spec_SkyOk : Sg := ⟨i_spec_SkyOk, o_spec_SkyOk, Bool, fun y => ((y, ()), ()), fun x => spec_SkyOk x.1.1.1 x.1.1.2.1 x.1.1.2.2.1 x.1.1.2.2.2.1 x.1.1.2.2.2.2.1 x.1.1.2.2.2.2.2.1⟩
noncomputable def C_spec_SkyOk : Ctx := ⟨19, tiOf Tryd.prog, gl, sgOf [(136, g_spec_l21WindOk), (120, g_spec_l2In), (137, g_spec_l21WeatherOk), (138, g_spec_l21CloudOk)]⟩
noncomputable def r_spec_SkyOk : AExit → Env → Option (Bool) := retK C_spec_SkyOk 0 o_spec_SkyOk (fun y => y.1.1) Tryd.f83.results.toList
theorem e_spec_SkyOk : Sound Tryd.prog gl 83 g_spec_SkyOk :=
  sound_plain (C := C_spec_SkyOk) ⟨fun _ _ h => h, by kernel_rfl⟩ (sgOf_all' ⟨⟨by kernel_rfl, e_spec_l21WindOk⟩, ⟨by kernel_rfl, e_spec_l2In⟩, ⟨by kernel_rfl, e_spec_l21WeatherOk⟩, ⟨by kernel_rfl, e_spec_l21CloudOk⟩, trivial⟩) 83 Tryd.f83 g_spec_SkyOk (fun y => y.1.1) (by kernel_rfl) (by kernel_rfl) (by kernel_rfl) (by kernel_rfl) (by kernel_rfl) (by kernel_rfl) (fun _ => rfl) (fun x => by kernel_rfl)
-- loop.example/g00051/spec.l21Full
noncomputable def i_spec_l21Full : Shape := ⟨[(0, .agg [.int .i64, .int .i64, .int .i64, .str, .str, .int .i64])], []⟩
noncomputable def o_spec_l21Full : Shape := ⟨[(0, .c (.bool))], []⟩
noncomputable def spec_l21Full (a0 : Int) (a1 : Int) (a2 : Int) (a3 : ByteArray) (a4 : ByteArray) (a5 : Int) : Option (Bool) :=
  (spec_SkyOk a0 a1 a2 a3 a4 a5).bind fun val => bif val then bif a0 != -1 then bif a2 != -1 then bif !a3.toList == (bs []).toList then some !a4.toList == (bs []).toList else some false else some false else some false else some false
noncomputable def g_spec_l21Full : Sg := ⟨i_spec_l21Full, o_spec_l21Full, Bool, fun y => ((y, ()), ()), fun x => spec_l21Full x.1.1.1 x.1.1.2.1 x.1.1.2.2.1 x.1.1.2.2.2.1 x.1.1.2.2.2.2.1 x.1.1.2.2.2.2.2.1⟩
noncomputable def C_spec_l21Full : Ctx := ⟨25, tiOf Tryd.prog, gl, sgOf [(83, g_spec_SkyOk)]⟩
noncomputable def r_spec_l21Full : AExit → Env → Option (Bool) := retK C_spec_l21Full 0 o_spec_l21Full (fun y => y.1.1) Tryd.f121.results.toList
theorem e_spec_l21Full : Sound Tryd.prog gl 121 g_spec_l21Full :=
  sound_plain (C := C_spec_l21Full) ⟨fun _ _ h => h, by kernel_rfl⟩ (sgOf_all' ⟨⟨by kernel_rfl, e_spec_SkyOk⟩, trivial⟩) 121 Tryd.f121 g_spec_l21Full (fun y => y.1.1) (by kernel_rfl) (by kernel_rfl) (by kernel_rfl) (by kernel_rfl) (by kernel_rfl) (by kernel_rfl) (fun _ => rfl) (fun x => by kernel_rfl)
-- loop.example/g00051/spec.l21Unsaid
noncomputable def i_spec_l21Unsaid : Shape := ⟨[], []⟩
noncomputable def o_spec_l21Unsaid : Shape := ⟨[(0, .agg [.int .i64, .int .i64, .int .i64, .str, .str, .int .i64])], []⟩
noncomputable def spec_l21Unsaid : Option (Int × Int × Int × ByteArray × ByteArray × Int) :=
  some (-1, 0, -1, bs [], bs [], 0)
noncomputable def g_spec_l21Unsaid : Sg := ⟨i_spec_l21Unsaid, o_spec_l21Unsaid, Int × Int × Int × ByteArray × ByteArray × Int, fun y => (((y.1, y.2.1, y.2.2.1, y.2.2.2.1, y.2.2.2.2.1, y.2.2.2.2.2, ()), ()), ()), fun x => spec_l21Unsaid ⟩
noncomputable def C_spec_l21Unsaid : Ctx := ⟨2, tiOf Tryd.prog, gl, sgOf []⟩
noncomputable def r_spec_l21Unsaid : AExit → Env → Option (Int × Int × Int × ByteArray × ByteArray × Int) := retK C_spec_l21Unsaid 0 o_spec_l21Unsaid (fun y => (y.1.1.1, y.1.1.2.1, y.1.1.2.2.1, y.1.1.2.2.2.1, y.1.1.2.2.2.2.1, y.1.1.2.2.2.2.2.1)) Tryd.f155.results.toList
theorem e_spec_l21Unsaid : Sound Tryd.prog gl 155 g_spec_l21Unsaid :=
  sound_plain (C := C_spec_l21Unsaid) ⟨fun _ _ h => h, by kernel_rfl⟩ (sgOf_all' trivial) 155 Tryd.f155 g_spec_l21Unsaid (fun y => (y.1.1.1, y.1.1.2.1, y.1.1.2.2.1, y.1.1.2.2.2.1, y.1.1.2.2.2.2.1, y.1.1.2.2.2.2.2.1)) (by kernel_rfl) (by kernel_rfl) (by kernel_rfl) (by kernel_rfl) (by kernel_rfl) (by kernel_rfl) (fun _ => rfl) (fun x => by kernel_rfl)
-- loop.example/g00051/spec.l21ChangeOk
noncomputable def i_spec_l21ChangeOk : Shape := ⟨[(0, .agg [.str, .int .i64, .int .i64, .int .i64, .int .i64, .int .i64, .int .i64, .str, .str, .int .i64, .sl (.pair (.int .i64) (.pair (.int .i64) (.pair (.int .i64) (.pair (.int .i64) (.pair (.int .i64) (.pair (.int .i64) (.pair .str (.pair .str (.int .i64)))))))))]), (1, .agg [.int .i64, .int .i64, .int .i64, .int .i64, .int .i64, .int .i64, .str, .str, .int .i64])], []⟩
noncomputable def o_spec_l21ChangeOk : Shape := ⟨[(0, .c (.bool))], []⟩
noncomputable def spec_l21ChangeOk (a0 : ByteArray) (a1 : Int) (a2 : Int) (a3 : Int) (a4 : Int) (a5 : Int) (a6 : Int) (a7 : ByteArray) (a8 : ByteArray) (a9 : Int) (a10 : List (Int × Int × Int × Int × Int × Int × ByteArray × ByteArray × Int)) (a11 : Int) (a12 : Int) (a13 : Int) (a14 : Int) (a15 : Int) (a16 : Int) (a17 : ByteArray) (a18 : ByteArray) (a19 : Int) : Option (Bool) :=
  (spec_SkyOk a14 a15 a16 a17 a18 a19).bind fun val => bif !val then some false else spec_l21Unsaid.bind fun val => bif a14 == val.fst && (a15 == val.snd.fst && (a16 == val.snd.snd.fst && (a17.toList == val.snd.snd.snd.fst.toList && (a18.toList == val.snd.snd.snd.snd.fst.toList && a19 == val.snd.snd.snd.snd.snd)))) then some false else bif a11 == 1 then bif a13 == 0 then (spec_l2In a12 a2 (IntKind.i64.wrap (a3 - 1))).bind fun val => bif val then (spec_l21Full a14 a15 a16 a17 a18 a19).bind fun val => some val else some false else some false else (spec_l2In a11 2 4).bind fun val => bif val then bif a12.tmod 60 == 0 then bif a13.tmod 60 == 0 then bif decide (a2 ≤ a12) then bif decide (a12 < a13) then some (decide (a13 ≤ a3)) else some false else some false else some false else some false else some false
noncomputable def g_spec_l21ChangeOk : Sg := ⟨i_spec_l21ChangeOk, o_spec_l21ChangeOk, Bool, fun y => ((y, ()), ()), fun x => spec_l21ChangeOk x.1.1.1 x.1.1.2.1 x.1.1.2.2.1 x.1.1.2.2.2.1 x.1.1.2.2.2.2.1 x.1.1.2.2.2.2.2.1 x.1.1.2.2.2.2.2.2.1 x.1.1.2.2.2.2.2.2.2.1 x.1.1.2.2.2.2.2.2.2.2.1 x.1.1.2.2.2.2.2.2.2.2.2.1 x.1.1.2.2.2.2.2.2.2.2.2.2.1 x.1.2.1.1 x.1.2.1.2.1 x.1.2.1.2.2.1 x.1.2.1.2.2.2.1 x.1.2.1.2.2.2.2.1 x.1.2.1.2.2.2.2.2.1 x.1.2.1.2.2.2.2.2.2.1 x.1.2.1.2.2.2.2.2.2.2.1 x.1.2.1.2.2.2.2.2.2.2.2.1⟩
noncomputable def C_spec_l21ChangeOk : Ctx := ⟨76, tiOf Tryd.prog, gl, sgOf [(83, g_spec_SkyOk), (155, g_spec_l21Unsaid), (120, g_spec_l2In), (121, g_spec_l21Full)]⟩
noncomputable def r_spec_l21ChangeOk : AExit → Env → Option (Bool) := retK C_spec_l21ChangeOk 0 o_spec_l21ChangeOk (fun y => y.1.1) Tryd.f122.results.toList
theorem e_spec_l21ChangeOk : Sound Tryd.prog gl 122 g_spec_l21ChangeOk :=
  sound_plain (C := C_spec_l21ChangeOk) ⟨fun _ _ h => h, by kernel_rfl⟩ (sgOf_all' ⟨⟨by kernel_rfl, e_spec_SkyOk⟩, ⟨by kernel_rfl, e_spec_l21Unsaid⟩, ⟨by kernel_rfl, e_spec_l2In⟩, ⟨by kernel_rfl, e_spec_l21Full⟩, trivial⟩) 122 Tryd.f122 g_spec_l21ChangeOk (fun y => y.1.1) (by kernel_rfl) (by kernel_rfl) (by kernel_rfl) (by kernel_rfl) (by kernel_rfl) (by kernel_rfl) (fun _ => rfl) (fun x => by kernel_rfl)
-- loop.example/g00051/spec.TafOk
noncomputable def i_spec_TafOk : Shape := ⟨[(0, .agg [.str, .int .i64, .int .i64, .int .i64, .int .i64, .int .i64, .int .i64, .str, .str, .int .i64, .sl (.pair (.int .i64) (.pair (.int .i64) (.pair (.int .i64) (.pair (.int .i64) (.pair (.int .i64) (.pair (.int .i64) (.pair .str (.pair .str (.int .i64)))))))))])], []⟩
noncomputable def o_spec_TafOk : Shape := ⟨[(0, .c (.bool))], []⟩
noncomputable def s_spec_TafOk_6 : Shape := ⟨[(1, .c (.ptr 0 0)), (4, .c (.int .i64)), (5, .c (.int .i64))], [.box 37 [.str, .int .i64, .int .i64, .int .i64, .int .i64, .int .i64, .int .i64, .str, .str, .int .i64, .sl (.pair (.int .i64) (.pair (.int .i64) (.pair (.int .i64) (.pair (.int .i64) (.pair (.int .i64) (.pair (.int .i64) (.pair .str (.pair .str (.int .i64)))))))))]]⟩
noncomputable def spec_TafOk_L6 : Nat → Int → Int → ByteArray → Int → Int → Int → Int → Int → Int → ByteArray → ByteArray → Int → (List (Int × Int × Int × Int × Int × Int × ByteArray × ByteArray × Int)) → Option (Bool)
  | 0, _, _, _, _, _, _, _, _, _, _, _, _, _ => none
  | k + 1, a0, a1, a2, a3, a4, a5, a6, a7, a8, a9, a10, a11, a12 =>
  bif decide (a1 < (↑a12.length : Int)) then
   bif decide (0 ≤ a1) then
    bif decide (a1 < (↑a12.length : Int)) then
     (spec_l21ChangeOk a2 a3 a4 a5 a6 a7 a8 a9 a10 a11 a12 (rd K9_0 a12 a1).fst (rd K9_0 a12 a1).snd.fst (rd K9_0 a12 a1).snd.snd.fst (rd K9_0 a12 a1).snd.snd.snd.fst (rd K9_0 a12 a1).snd.snd.snd.snd.fst
        (rd K9_0 a12 a1).snd.snd.snd.snd.snd.fst (rd K9_0 a12 a1).snd.snd.snd.snd.snd.snd.fst (rd K9_0 a12 a1).snd.snd.snd.snd.snd.snd.snd.fst (rd K9_0 a12 a1).snd.snd.snd.snd.snd.snd.snd.snd).bind
      fun val =>
      bif !val then some false
      else
       bif decide (a1 > 0) then
        bif decide (0 ≤ IntKind.i64.wrap (a1 - 1)) then
         bif decide (IntKind.i64.wrap (a1 - 1) < (↑a12.length : Int)) then
          bif decide ((rd K9_0 a12 a1).snd.fst < (rd K9_0 a12 (IntKind.i64.wrap (a1 - 1))).snd.fst) then some false
          else
           bif (rd K9_0 a12 a1).fst == 1 then
            bif decide ((rd K9_0 a12 a1).snd.fst < a0) then some false else spec_TafOk_L6 k (if (rd K9_0 a12 a1).snd.snd.fst > (rd K9_0 a12 a1).snd.fst then (rd K9_0 a12 a1).snd.snd.fst else (rd K9_0 a12 a1).snd.fst) (IntKind.i64.wrap (a1 + 1)) a2 a3 a4 a5 a6 a7 a8 a9 a10 a11 a12
           else
            bif (rd K9_0 a12 a1).fst == 2 then
             bif decide ((rd K9_0 a12 a1).snd.fst < a0) then some false else spec_TafOk_L6 k (if (rd K9_0 a12 a1).snd.snd.fst > (rd K9_0 a12 a1).snd.fst then (rd K9_0 a12 a1).snd.snd.fst else (rd K9_0 a12 a1).snd.fst) (IntKind.i64.wrap (a1 + 1)) a2 a3 a4 a5 a6 a7 a8 a9 a10 a11 a12
            else spec_TafOk_L6 k a0 (IntKind.i64.wrap (a1 + 1)) a2 a3 a4 a5 a6 a7 a8 a9 a10 a11 a12
         else none
        else none
       else
        bif (rd K9_0 a12 a1).fst == 1 then
         bif decide ((rd K9_0 a12 a1).snd.fst < a0) then some false else spec_TafOk_L6 k (if (rd K9_0 a12 a1).snd.snd.fst > (rd K9_0 a12 a1).snd.fst then (rd K9_0 a12 a1).snd.snd.fst else (rd K9_0 a12 a1).snd.fst) (IntKind.i64.wrap (a1 + 1)) a2 a3 a4 a5 a6 a7 a8 a9 a10 a11 a12
        else
         bif (rd K9_0 a12 a1).fst == 2 then
          bif decide ((rd K9_0 a12 a1).snd.fst < a0) then some false else spec_TafOk_L6 k (if (rd K9_0 a12 a1).snd.snd.fst > (rd K9_0 a12 a1).snd.fst then (rd K9_0 a12 a1).snd.snd.fst else (rd K9_0 a12 a1).snd.fst) (IntKind.i64.wrap (a1 + 1)) a2 a3 a4 a5 a6 a7 a8 a9 a10 a11 a12
         else spec_TafOk_L6 k a0 (IntKind.i64.wrap (a1 + 1)) a2 a3 a4 a5 a6 a7 a8 a9 a10 a11 a12
    else none
   else none
  else some true
noncomputable def j_spec_TafOk : List (Nat × (Nat → Cut (Bool))) := [(6, fun k => ⟨s_spec_TafOk_6, fun x => spec_TafOk_L6 k x.1.2.1 x.1.2.2.1 x.2.1.1 x.2.1.2.1 x.2.1.2.2.1 x.2.1.2.2.2.1 x.2.1.2.2.2.2.1 x.2.1.2.2.2.2.2.1 x.2.1.2.2.2.2.2.2.1 x.2.1.2.2.2.2.2.2.2.1 x.2.1.2.2.2.2.2.2.2.2.1 x.2.1.2.2.2.2.2.2.2.2.2.1 x.2.1.2.2.2.2.2.2.2.2.2.2.1⟩)]
noncomputable def spec_TafOk_F (k : Nat) (a0 : ByteArray) (a1 : Int) (a2 : Int) (a3 : Int) (a4 : Int) (a5 : Int) (a6 : Int) (a7 : ByteArray) (a8 : ByteArray) (a9 : Int) (a10 : List (Int × Int × Int × Int × Int × Int × ByteArray × ByteArray × Int)) : Option (Bool) :=
  (spec_l4CentreOk a0).bind fun val => bif !val then some false else (spec_l2Time a1).bind fun val => bif !val then some false else (spec_l2SpanOk a2 a3).bind fun val => bif !val then some false else bif a2.tmod 60 != 0 then some false else bif a3.tmod 60 != 0 then some false else (spec_l2In (IntKind.i64.wrap (a3 - a2)) 60 2160).bind fun val => bif !val then some false else (spec_l2In (IntKind.i64.wrap (a2 - a1)) (-1440) 1440).bind fun val => bif !val then some false else (spec_l21Full a4 a5 a6 a7 a8 a9).bind fun val => bif !val then some false else bif decide ((↑a10.length : Int) > 10) then some false else spec_TafOk_L6 k 0 0 a0 a1 a2 a3 a4 a5 a6 a7 a8 a9 a10
noncomputable def spec_TafOk (a0 : ByteArray) (a1 : Int) (a2 : Int) (a3 : Int) (a4 : Int) (a5 : Int) (a6 : Int) (a7 : ByteArray) (a8 : ByteArray) (a9 : Int) (a10 : List (Int × Int × Int × Int × Int × Int × ByteArray × ByteArray × Int)) : Option (Bool) := evF fun k => spec_TafOk_F k a0 a1 a2 a3 a4 a5 a6 a7 a8 a9 a10
noncomputable def g_spec_TafOk : Sg := ⟨i_spec_TafOk, o_spec_TafOk, Bool, fun y => ((y, ()), ()), fun x => spec_TafOk x.1.1.1 x.1.1.2.1 x.1.1.2.2.1 x.1.1.2.2.2.1 x.1.1.2.2.2.2.1 x.1.1.2.2.2.2.2.1 x.1.1.2.2.2.2.2.2.1 x.1.1.2.2.2.2.2.2.2.1 x.1.1.2.2.2.2.2.2.2.2.1 x.1.1.2.2.2.2.2.2.2.2.2.1 x.1.1.2.2.2.2.2.2.2.2.2.2.1⟩
noncomputable def C_spec_TafOk : Ctx := ⟨115, tiOf Tryd.prog, gl, sgOf [(105, g_spec_l4CentreOk), (90, g_spec_l2Time), (119, g_spec_l2SpanOk), (120, g_spec_l2In), (121, g_spec_l21Full), (122, g_spec_l21ChangeOk)]⟩
noncomputable def r_spec_TafOk : AExit → Env → Option (Bool) := retK C_spec_TafOk 0 o_spec_TafOk (fun y => y.1.1) Tryd.f59.results.toList
theorem e_spec_TafOk : Sound Tryd.prog gl 59 g_spec_TafOk :=
  sound_cuts (C := C_spec_TafOk) ⟨fun _ _ h => h, by kernel_rfl⟩ (sgOf_all' ⟨⟨by kernel_rfl, e_spec_l4CentreOk⟩, ⟨by kernel_rfl, e_spec_l2Time⟩, ⟨by kernel_rfl, e_spec_l2SpanOk⟩, ⟨by kernel_rfl, e_spec_l2In⟩, ⟨by kernel_rfl, e_spec_l21Full⟩, ⟨by kernel_rfl, e_spec_l21ChangeOk⟩, trivial⟩) 59 Tryd.f59 g_spec_TafOk (fun y => y.1.1) j_spec_TafOk 1 (by kernel_rfl) (by kernel_rfl) (by kernel_rfl) (by kernel_rfl) (by kernel_rfl) (by kernel_rfl) (fun _ => rfl) (by kernel_rfl) (by kernel_rfl)
    ⟨trivial, s_spec_TafOk_6, fun k x => spec_TafOk_L6 k x.1.2.1 x.1.2.2.1 x.2.1.1 x.2.1.2.1 x.2.1.2.2.1 x.2.1.2.2.2.1 x.2.1.2.2.2.2.1 x.2.1.2.2.2.2.2.1 x.2.1.2.2.2.2.2.2.1 x.2.1.2.2.2.2.2.2.2.1 x.2.1.2.2.2.2.2.2.2.2.1 x.2.1.2.2.2.2.2.2.2.2.2.1 x.2.1.2.2.2.2.2.2.2.2.2.2.1, ⟨fun k => by kernel_rfl, fun k y => by kernel_rfl, fun y => by kernel_rfl⟩⟩
    (fun k x => spec_TafOk_F k x.1.1.1 x.1.1.2.1 x.1.1.2.2.1 x.1.1.2.2.2.1 x.1.1.2.2.2.2.1 x.1.1.2.2.2.2.2.1 x.1.1.2.2.2.2.2.2.1 x.1.1.2.2.2.2.2.2.2.1 x.1.1.2.2.2.2.2.2.2.2.1 x.1.1.2.2.2.2.2.2.2.2.2.1 x.1.1.2.2.2.2.2.2.2.2.2.2.1) (fun x => rfl) (fun k x => by kernel_rfl)
-- loop.example/g00051/spec.Laid
noncomputable def i_spec_Laid : Shape := ⟨[(0, .agg [.int .i64, .int .i64, .int .i64, .str, .str, .int .i64]), (1, .agg [.int .i64, .int .i64, .int .i64, .str, .str, .int .i64])], []⟩
noncomputable def o_spec_Laid : Shape := ⟨[(0, .agg [.int .i64, .int .i64, .int .i64, .str, .str, .int .i64])], []⟩
noncomputable def spec_Laid (a0 : Int) (a1 : Int) (a2 : Int) (a3 : ByteArray) (a4 : ByteArray) (a5 : Int) (a6 : Int) (a7 : Int) (a8 : Int) (a9 : ByteArray) (a10 : ByteArray) (a11 : Int) : Option (Int × Int × Int × ByteArray × ByteArray × Int) :=
  (spec_SkyOk a0 a1 a2 a3 a4 a5).bind fun val => bif !val then some (0, 0, 0, bs [], bs [], 0) else (spec_SkyOk a6 a7 a8 a9 a10 a11).bind fun val => bif !val then some (0, 0, 0, bs [], bs [], 0) else bif a6 != -1 then bif a8 != -1 then bif !a9.toList == (bs []).toList then bif !a10.toList == (bs []).toList then some (a6, a7, a8, a9, a10, a11) else some (a6, a7, a8, a9, a4, a5) else bif !a10.toList == (bs []).toList then some (a6, a7, a8, a3, a10, a11) else some (a6, a7, a8, a3, a4, a5) else bif !a9.toList == (bs []).toList then bif !a10.toList == (bs []).toList then some (a6, a7, a2, a9, a10, a11) else some (a6, a7, a2, a9, a4, a5) else bif !a10.toList == (bs []).toList then some (a6, a7, a2, a3, a10, a11) else some (a6, a7, a2, a3, a4, a5) else bif a8 != -1 then bif !a9.toList == (bs []).toList then bif !a10.toList == (bs []).toList then some (a0, a1, a8, a9, a10, a11) else some (a0, a1, a8, a9, a4, a5) else bif !a10.toList == (bs []).toList then some (a0, a1, a8, a3, a10, a11) else some (a0, a1, a8, a3, a4, a5) else bif !a9.toList == (bs []).toList then bif !a10.toList == (bs []).toList then some (a0, a1, a2, a9, a10, a11) else some (a0, a1, a2, a9, a4, a5) else bif !a10.toList == (bs []).toList then some (a0, a1, a2, a3, a10, a11) else some (a0, a1, a2, a3, a4, a5)
noncomputable def g_spec_Laid : Sg := ⟨i_spec_Laid, o_spec_Laid, Int × Int × Int × ByteArray × ByteArray × Int, fun y => (((y.1, y.2.1, y.2.2.1, y.2.2.2.1, y.2.2.2.2.1, y.2.2.2.2.2, ()), ()), ()), fun x => spec_Laid x.1.1.1 x.1.1.2.1 x.1.1.2.2.1 x.1.1.2.2.2.1 x.1.1.2.2.2.2.1 x.1.1.2.2.2.2.2.1 x.1.2.1.1 x.1.2.1.2.1 x.1.2.1.2.2.1 x.1.2.1.2.2.2.1 x.1.2.1.2.2.2.2.1 x.1.2.1.2.2.2.2.2.1⟩
noncomputable def C_spec_Laid : Ctx := ⟨45, tiOf Tryd.prog, gl, sgOf [(83, g_spec_SkyOk)]⟩
noncomputable def r_spec_Laid : AExit → Env → Option (Int × Int × Int × ByteArray × ByteArray × Int) := retK C_spec_Laid 0 o_spec_Laid (fun y => (y.1.1.1, y.1.1.2.1, y.1.1.2.2.1, y.1.1.2.2.2.1, y.1.1.2.2.2.2.1, y.1.1.2.2.2.2.2.1)) Tryd.f60.results.toList
theorem e_spec_Laid : Sound Tryd.prog gl 60 g_spec_Laid :=
  sound_plain (C := C_spec_Laid) ⟨fun _ _ h => h, by kernel_rfl⟩ (sgOf_all' ⟨⟨by kernel_rfl, e_spec_SkyOk⟩, trivial⟩) 60 Tryd.f60 g_spec_Laid (fun y => (y.1.1.1, y.1.1.2.1, y.1.1.2.2.1, y.1.1.2.2.2.1, y.1.1.2.2.2.2.1, y.1.1.2.2.2.2.2.1)) (by kernel_rfl) (by kernel_rfl) (by kernel_rfl) (by kernel_rfl) (by kernel_rfl) (by kernel_rfl) (fun _ => rfl) (fun x => by kernel_rfl)
-- loop.example/g00051/spec.StateAt
noncomputable def i_spec_StateAt : Shape := ⟨[(0, .agg [.str, .int .i64, .int .i64, .int .i64, .int .i64, .int .i64, .int .i64, .str, .str, .int .i64, .sl (.pair (.int .i64) (.pair (.int .i64) (.pair (.int .i64) (.pair (.int .i64) (.pair (.int .i64) (.pair (.int .i64) (.pair .str (.pair .str (.int .i64)))))))))]), (1, .c (.int .i64))], []⟩
noncomputable def o_spec_StateAt : Shape := ⟨[(0, .tup [(true, [.int .i64, .int .i64, .int .i64, .str, .str, .int .i64]), (false, [.ref 0]), (false, [.bool])])], [.lst 30 (.pair (.int .i64) (.pair (.int .i64) (.pair (.int .i64) (.pair .str (.pair .str (.int .i64))))))]⟩
noncomputable def s_spec_StateAt_6 : Shape := ⟨[(1, .c (.int .i64)), (2, .c (.ptr 0 0)), (4, .c (.ptr 1 0)), (7, .c (.ref 2)), (8, .c (.ptr 3 0)), (9, .c (.int .i64))], [.box 37 [.str, .int .i64, .int .i64, .int .i64, .int .i64, .int .i64, .int .i64, .str, .str, .int .i64, .sl (.pair (.int .i64) (.pair (.int .i64) (.pair (.int .i64) (.pair (.int .i64) (.pair (.int .i64) (.pair (.int .i64) (.pair .str (.pair .str (.int .i64)))))))))], .box 30 [.int .i64, .int .i64, .int .i64, .str, .str, .int .i64], .lst 30 (.pair (.int .i64) (.pair (.int .i64) (.pair (.int .i64) (.pair .str (.pair .str (.int .i64)))))), .box 30 [.int .i64, .int .i64, .int .i64, .str, .str, .int .i64]]⟩
noncomputable def s_spec_StateAt_14 : Shape := ⟨[(1, .c (.int .i64)), (2, .c (.ptr 0 0)), (4, .c (.ptr 1 0)), (7, .c (.ref 2)), (8, .c (.ptr 3 0)), (11, .c (.int .i64))], [.box 37 [.str, .int .i64, .int .i64, .int .i64, .int .i64, .int .i64, .int .i64, .str, .str, .int .i64, .sl (.pair (.int .i64) (.pair (.int .i64) (.pair (.int .i64) (.pair (.int .i64) (.pair (.int .i64) (.pair (.int .i64) (.pair .str (.pair .str (.int .i64)))))))))], .box 30 [.int .i64, .int .i64, .int .i64, .str, .str, .int .i64], .lst 30 (.pair (.int .i64) (.pair (.int .i64) (.pair (.int .i64) (.pair .str (.pair .str (.int .i64)))))), .box 30 [.int .i64, .int .i64, .int .i64, .str, .str, .int .i64]]⟩
mutual
noncomputable def spec_StateAt_L6 : Nat → Int → Int → ByteArray → Int → Int → Int → Int → Int → Int → ByteArray → ByteArray → Int → (List (Int × Int × Int × Int × Int × Int × ByteArray × ByteArray × Int)) → Int → Int → Int → ByteArray → ByteArray → Int → (List (Int × Int × Int × ByteArray × ByteArray × Int)) → Int → Int → Int → ByteArray → ByteArray → Int → Option (Int × Int × Int × ByteArray × ByteArray × Int × Bool × (List (Int × Int × Int × ByteArray × ByteArray × Int)))
  | 0, _, _, _, _, _, _, _, _, _, _, _, _, _, _, _, _, _, _, _, _, _, _, _, _, _, _ => none
  | k + 1, a0, a1, a2, a3, a4, a5, a6, a7, a8, a9, a10, a11, a12, a13, a14, a15, a16, a17, a18, a19, a20, a21, a22, a23, a24, a25 =>
  bif decide (a1 < (↑a12.length : Int)) then
   bif decide (0 ≤ a1) then
    bif decide (a1 < (↑a12.length : Int)) then
     bif (rd K9_0 a12 a1).fst == 1 then
      bif decide ((rd K9_0 a12 a1).snd.fst ≤ a0) then
       bif (rd K9_0 a12 a1).fst == 2 then
        bif decide ((rd K9_0 a12 a1).snd.snd.fst ≤ a0) then
         (spec_Laid (rd K9_0 a12 a1).snd.snd.snd.fst (rd K9_0 a12 a1).snd.snd.snd.snd.fst (rd K9_0 a12 a1).snd.snd.snd.snd.snd.fst (rd K9_0 a12 a1).snd.snd.snd.snd.snd.snd.fst (rd K9_0 a12 a1).snd.snd.snd.snd.snd.snd.snd.fst
            (rd K9_0 a12 a1).snd.snd.snd.snd.snd.snd.snd.snd (rd K9_0 a12 a1).snd.snd.snd.fst (rd K9_0 a12 a1).snd.snd.snd.snd.fst (rd K9_0 a12 a1).snd.snd.snd.snd.snd.fst (rd K9_0 a12 a1).snd.snd.snd.snd.snd.snd.fst
            (rd K9_0 a12 a1).snd.snd.snd.snd.snd.snd.snd.fst (rd K9_0 a12 a1).snd.snd.snd.snd.snd.snd.snd.snd).bind
          fun val => spec_StateAt_L6 k a0 (IntKind.i64.wrap (a1 + 1)) a2 a3 a4 a5 a6 a7 a8 a9 a10 a11 a12 a13 a14 a15 a16 a17 a18 a19 val.fst val.snd.fst val.snd.snd.fst val.snd.snd.snd.fst val.snd.snd.snd.snd.fst val.snd.snd.snd.snd.snd
        else
         spec_StateAt_L6 k a0 (IntKind.i64.wrap (a1 + 1)) a2 a3 a4 a5 a6 a7 a8 a9 a10 a11 a12 a13 a14 a15 a16 a17 a18 a19 (rd K9_0 a12 a1).snd.snd.snd.fst (rd K9_0 a12 a1).snd.snd.snd.snd.fst (rd K9_0 a12 a1).snd.snd.snd.snd.snd.fst (rd K9_0 a12 a1).snd.snd.snd.snd.snd.snd.fst (rd K9_0 a12 a1).snd.snd.snd.snd.snd.snd.snd.fst
          (rd K9_0 a12 a1).snd.snd.snd.snd.snd.snd.snd.snd
       else
        spec_StateAt_L6 k a0 (IntKind.i64.wrap (a1 + 1)) a2 a3 a4 a5 a6 a7 a8 a9 a10 a11 a12 a13 a14 a15 a16 a17 a18 a19 (rd K9_0 a12 a1).snd.snd.snd.fst (rd K9_0 a12 a1).snd.snd.snd.snd.fst (rd K9_0 a12 a1).snd.snd.snd.snd.snd.fst (rd K9_0 a12 a1).snd.snd.snd.snd.snd.snd.fst (rd K9_0 a12 a1).snd.snd.snd.snd.snd.snd.snd.fst
         (rd K9_0 a12 a1).snd.snd.snd.snd.snd.snd.snd.snd
      else
       bif (rd K9_0 a12 a1).fst == 2 then
        bif decide ((rd K9_0 a12 a1).snd.snd.fst ≤ a0) then
         (spec_Laid a20 a21 a22 a23 a24 a25 (rd K9_0 a12 a1).snd.snd.snd.fst (rd K9_0 a12 a1).snd.snd.snd.snd.fst (rd K9_0 a12 a1).snd.snd.snd.snd.snd.fst (rd K9_0 a12 a1).snd.snd.snd.snd.snd.snd.fst (rd K9_0 a12 a1).snd.snd.snd.snd.snd.snd.snd.fst
            (rd K9_0 a12 a1).snd.snd.snd.snd.snd.snd.snd.snd).bind
          fun val => spec_StateAt_L6 k a0 (IntKind.i64.wrap (a1 + 1)) a2 a3 a4 a5 a6 a7 a8 a9 a10 a11 a12 a13 a14 a15 a16 a17 a18 a19 val.fst val.snd.fst val.snd.snd.fst val.snd.snd.snd.fst val.snd.snd.snd.snd.fst val.snd.snd.snd.snd.snd
        else spec_StateAt_L6 k a0 (IntKind.i64.wrap (a1 + 1)) a2 a3 a4 a5 a6 a7 a8 a9 a10 a11 a12 a13 a14 a15 a16 a17 a18 a19 a20 a21 a22 a23 a24 a25
       else spec_StateAt_L6 k a0 (IntKind.i64.wrap (a1 + 1)) a2 a3 a4 a5 a6 a7 a8 a9 a10 a11 a12 a13 a14 a15 a16 a17 a18 a19 a20 a21 a22 a23 a24 a25
     else
      bif (rd K9_0 a12 a1).fst == 2 then
       bif decide ((rd K9_0 a12 a1).snd.snd.fst ≤ a0) then
        (spec_Laid a20 a21 a22 a23 a24 a25 (rd K9_0 a12 a1).snd.snd.snd.fst (rd K9_0 a12 a1).snd.snd.snd.snd.fst (rd K9_0 a12 a1).snd.snd.snd.snd.snd.fst (rd K9_0 a12 a1).snd.snd.snd.snd.snd.snd.fst (rd K9_0 a12 a1).snd.snd.snd.snd.snd.snd.snd.fst
           (rd K9_0 a12 a1).snd.snd.snd.snd.snd.snd.snd.snd).bind
         fun val => spec_StateAt_L6 k a0 (IntKind.i64.wrap (a1 + 1)) a2 a3 a4 a5 a6 a7 a8 a9 a10 a11 a12 a13 a14 a15 a16 a17 a18 a19 val.fst val.snd.fst val.snd.snd.fst val.snd.snd.snd.fst val.snd.snd.snd.snd.fst val.snd.snd.snd.snd.snd
       else spec_StateAt_L6 k a0 (IntKind.i64.wrap (a1 + 1)) a2 a3 a4 a5 a6 a7 a8 a9 a10 a11 a12 a13 a14 a15 a16 a17 a18 a19 a20 a21 a22 a23 a24 a25
      else spec_StateAt_L6 k a0 (IntKind.i64.wrap (a1 + 1)) a2 a3 a4 a5 a6 a7 a8 a9 a10 a11 a12 a13 a14 a15 a16 a17 a18 a19 a20 a21 a22 a23 a24 a25
    else none
   else none
  else spec_StateAt_L14 k a0 0 a2 a3 a4 a5 a6 a7 a8 a9 a10 a11 a12 a13 a14 a15 a16 a17 a18 a19 a20 a21 a22 a23 a24 a25
noncomputable def spec_StateAt_L14 : Nat → Int → Int → ByteArray → Int → Int → Int → Int → Int → Int → ByteArray → ByteArray → Int → (List (Int × Int × Int × Int × Int × Int × ByteArray × ByteArray × Int)) → Int → Int → Int → ByteArray → ByteArray → Int → (List (Int × Int × Int × ByteArray × ByteArray × Int)) → Int → Int → Int → ByteArray → ByteArray → Int → Option (Int × Int × Int × ByteArray × ByteArray × Int × Bool × (List (Int × Int × Int × ByteArray × ByteArray × Int)))
  | 0, _, _, _, _, _, _, _, _, _, _, _, _, _, _, _, _, _, _, _, _, _, _, _, _, _, _ => none
  | k + 1, a0, a1, a2, a3, a4, a5, a6, a7, a8, a9, a10, a11, a12, a13, a14, a15, a16, a17, a18, a19, a20, a21, a22, a23, a24, a25 =>
  bif decide (a1 < (↑a12.length : Int)) then
   bif decide (0 ≤ a1) then
    bif decide (a1 < (↑a12.length : Int)) then
     bif (rd K9_0 a12 a1).fst != 1 then
      bif decide ((rd K9_0 a12 a1).snd.fst ≤ a0) then
       bif decide (a0 < (rd K9_0 a12 a1).snd.snd.fst) then
        (spec_Laid a20 a21 a22 a23 a24 a25 (rd K9_0 a12 a1).snd.snd.snd.fst (rd K9_0 a12 a1).snd.snd.snd.snd.fst (rd K9_0 a12 a1).snd.snd.snd.snd.snd.fst (rd K9_0 a12 a1).snd.snd.snd.snd.snd.snd.fst (rd K9_0 a12 a1).snd.snd.snd.snd.snd.snd.snd.fst
           (rd K9_0 a12 a1).snd.snd.snd.snd.snd.snd.snd.snd).bind
         fun val => bif decide (a19.length + [(val.fst, val.snd.fst, val.snd.snd.fst, val.snd.snd.snd.fst, val.snd.snd.snd.snd.fst, val.snd.snd.snd.snd.snd)].length ≤ maxBytes / 64) then spec_StateAt_L14 k a0 (IntKind.i64.wrap (a1 + 1)) a2 a3 a4 a5 a6 a7 a8 a9 a10 a11 a12 a13 a14 a15 a16 a17 a18 (a19 ++ [(val.fst, val.snd.fst, val.snd.snd.fst, val.snd.snd.snd.fst, val.snd.snd.snd.snd.fst, val.snd.snd.snd.snd.snd)]) a20 a21 a22 a23 a24 a25 else none
       else spec_StateAt_L14 k a0 (IntKind.i64.wrap (a1 + 1)) a2 a3 a4 a5 a6 a7 a8 a9 a10 a11 a12 a13 a14 a15 a16 a17 a18 a19 a20 a21 a22 a23 a24 a25
      else spec_StateAt_L14 k a0 (IntKind.i64.wrap (a1 + 1)) a2 a3 a4 a5 a6 a7 a8 a9 a10 a11 a12 a13 a14 a15 a16 a17 a18 a19 a20 a21 a22 a23 a24 a25
     else spec_StateAt_L14 k a0 (IntKind.i64.wrap (a1 + 1)) a2 a3 a4 a5 a6 a7 a8 a9 a10 a11 a12 a13 a14 a15 a16 a17 a18 a19 a20 a21 a22 a23 a24 a25
    else none
   else none
  else some (a20, a21, a22, a23, a24, a25, true, a19)
end
noncomputable def j_spec_StateAt : List (Nat × (Nat → Cut (Int × Int × Int × ByteArray × ByteArray × Int × Bool × (List (Int × Int × Int × ByteArray × ByteArray × Int))))) := [(6, fun k => ⟨s_spec_StateAt_6, fun x => spec_StateAt_L6 k x.1.1 x.1.2.2.2.2.2.1 x.2.1.1 x.2.1.2.1 x.2.1.2.2.1 x.2.1.2.2.2.1 x.2.1.2.2.2.2.1 x.2.1.2.2.2.2.2.1 x.2.1.2.2.2.2.2.2.1 x.2.1.2.2.2.2.2.2.2.1 x.2.1.2.2.2.2.2.2.2.2.1 x.2.1.2.2.2.2.2.2.2.2.2.1 x.2.1.2.2.2.2.2.2.2.2.2.2.1 x.2.2.1.1 x.2.2.1.2.1 x.2.2.1.2.2.1 x.2.2.1.2.2.2.1 x.2.2.1.2.2.2.2.1 x.2.2.1.2.2.2.2.2.1 x.2.2.2.1 x.2.2.2.2.1.1 x.2.2.2.2.1.2.1 x.2.2.2.2.1.2.2.1 x.2.2.2.2.1.2.2.2.1 x.2.2.2.2.1.2.2.2.2.1 x.2.2.2.2.1.2.2.2.2.2.1⟩), (14, fun k => ⟨s_spec_StateAt_14, fun x => spec_StateAt_L14 k x.1.1 x.1.2.2.2.2.2.1 x.2.1.1 x.2.1.2.1 x.2.1.2.2.1 x.2.1.2.2.2.1 x.2.1.2.2.2.2.1 x.2.1.2.2.2.2.2.1 x.2.1.2.2.2.2.2.2.1 x.2.1.2.2.2.2.2.2.2.1 x.2.1.2.2.2.2.2.2.2.2.1 x.2.1.2.2.2.2.2.2.2.2.2.1 x.2.1.2.2.2.2.2.2.2.2.2.2.1 x.2.2.1.1 x.2.2.1.2.1 x.2.2.1.2.2.1 x.2.2.1.2.2.2.1 x.2.2.1.2.2.2.2.1 x.2.2.1.2.2.2.2.2.1 x.2.2.2.1 x.2.2.2.2.1.1 x.2.2.2.2.1.2.1 x.2.2.2.2.1.2.2.1 x.2.2.2.2.1.2.2.2.1 x.2.2.2.2.1.2.2.2.2.1 x.2.2.2.2.1.2.2.2.2.2.1⟩)]
noncomputable def spec_StateAt_F (k : Nat) (a0 : ByteArray) (a1 : Int) (a2 : Int) (a3 : Int) (a4 : Int) (a5 : Int) (a6 : Int) (a7 : ByteArray) (a8 : ByteArray) (a9 : Int) (a10 : List (Int × Int × Int × Int × Int × Int × ByteArray × ByteArray × Int)) (a11 : Int) : Option (Int × Int × Int × ByteArray × ByteArray × Int × Bool × (List (Int × Int × Int × ByteArray × ByteArray × Int))) :=
  (spec_TafOk a0 a1 a2 a3 a4 a5 a6 a7 a8 a9 a10).bind fun val => bif !val then some (0, 0, 0, bs [], bs [], 0, false, []) else bif decide (a11 < a2) then some (0, 0, 0, bs [], bs [], 0, false, []) else bif decide (a11 ≥ a3) then some (0, 0, 0, bs [], bs [], 0, false, []) else spec_StateAt_L6 k a11 0 a0 a1 a2 a3 a4 a5 a6 a7 a8 a9 a10 0 0 0 (bs []) (bs []) 0 [] a4 a5 a6 a7 a8 a9
noncomputable def spec_StateAt (a0 : ByteArray) (a1 : Int) (a2 : Int) (a3 : Int) (a4 : Int) (a5 : Int) (a6 : Int) (a7 : ByteArray) (a8 : ByteArray) (a9 : Int) (a10 : List (Int × Int × Int × Int × Int × Int × ByteArray × ByteArray × Int)) (a11 : Int) : Option (Int × Int × Int × ByteArray × ByteArray × Int × Bool × (List (Int × Int × Int × ByteArray × ByteArray × Int))) := evF fun k => spec_StateAt_F k a0 a1 a2 a3 a4 a5 a6 a7 a8 a9 a10 a11
noncomputable def g_spec_StateAt : Sg := ⟨i_spec_StateAt, o_spec_StateAt, Int × Int × Int × ByteArray × ByteArray × Int × Bool × (List (Int × Int × Int × ByteArray × ByteArray × Int)), fun y => ((((y.1, y.2.1, y.2.2.1, y.2.2.2.1, y.2.2.2.2.1, y.2.2.2.2.2.1, ()), ((), ()), (y.2.2.2.2.2.2.1, ()), ()), ()), (y.2.2.2.2.2.2.2, ())), fun x => spec_StateAt x.1.1.1 x.1.1.2.1 x.1.1.2.2.1 x.1.1.2.2.2.1 x.1.1.2.2.2.2.1 x.1.1.2.2.2.2.2.1 x.1.1.2.2.2.2.2.2.1 x.1.1.2.2.2.2.2.2.2.1 x.1.1.2.2.2.2.2.2.2.2.1 x.1.1.2.2.2.2.2.2.2.2.2.1 x.1.1.2.2.2.2.2.2.2.2.2.2.1 x.1.2.1⟩
noncomputable def C_spec_StateAt : Ctx := ⟨107, tiOf Tryd.prog, gl, sgOf [(59, g_spec_TafOk), (60, g_spec_Laid)]⟩
noncomputable def r_spec_StateAt : AExit → Env → Option (Int × Int × Int × ByteArray × ByteArray × Int × Bool × (List (Int × Int × Int × ByteArray × ByteArray × Int))) := retK C_spec_StateAt 0 o_spec_StateAt (fun y => (y.1.1.1.1, y.1.1.1.2.1, y.1.1.1.2.2.1, y.1.1.1.2.2.2.1, y.1.1.1.2.2.2.2.1, y.1.1.1.2.2.2.2.2.1, y.1.1.2.2.1.1, y.2.1)) Tryd.f15.results.toList
theorem e_spec_StateAt : Sound Tryd.prog gl 15 g_spec_StateAt :=
  sound_cuts (C := C_spec_StateAt) ⟨fun _ _ h => h, by kernel_rfl⟩ (sgOf_all' ⟨⟨by kernel_rfl, e_spec_TafOk⟩, ⟨by kernel_rfl, e_spec_Laid⟩, trivial⟩) 15 Tryd.f15 g_spec_StateAt (fun y => (y.1.1.1.1, y.1.1.1.2.1, y.1.1.1.2.2.1, y.1.1.1.2.2.2.1, y.1.1.1.2.2.2.2.1, y.1.1.1.2.2.2.2.2.1, y.1.1.2.2.1.1, y.2.1)) j_spec_StateAt 2 (by kernel_rfl) (by kernel_rfl) (by kernel_rfl) (by kernel_rfl) (by kernel_rfl) (by kernel_rfl) (fun _ => rfl) (by kernel_rfl) (by kernel_rfl)
    ⟨⟨trivial, s_spec_StateAt_6, fun k x => spec_StateAt_L6 k x.1.1 x.1.2.2.2.2.2.1 x.2.1.1 x.2.1.2.1 x.2.1.2.2.1 x.2.1.2.2.2.1 x.2.1.2.2.2.2.1 x.2.1.2.2.2.2.2.1 x.2.1.2.2.2.2.2.2.1 x.2.1.2.2.2.2.2.2.2.1 x.2.1.2.2.2.2.2.2.2.2.1 x.2.1.2.2.2.2.2.2.2.2.2.1 x.2.1.2.2.2.2.2.2.2.2.2.2.1 x.2.2.1.1 x.2.2.1.2.1 x.2.2.1.2.2.1 x.2.2.1.2.2.2.1 x.2.2.1.2.2.2.2.1 x.2.2.1.2.2.2.2.2.1 x.2.2.2.1 x.2.2.2.2.1.1 x.2.2.2.2.1.2.1 x.2.2.2.2.1.2.2.1 x.2.2.2.2.1.2.2.2.1 x.2.2.2.2.1.2.2.2.2.1 x.2.2.2.2.1.2.2.2.2.2.1, ⟨fun k => by kernel_rfl, fun k y => by kernel_rfl, fun y => by kernel_rfl⟩⟩, s_spec_StateAt_14, fun k x => spec_StateAt_L14 k x.1.1 x.1.2.2.2.2.2.1 x.2.1.1 x.2.1.2.1 x.2.1.2.2.1 x.2.1.2.2.2.1 x.2.1.2.2.2.2.1 x.2.1.2.2.2.2.2.1 x.2.1.2.2.2.2.2.2.1 x.2.1.2.2.2.2.2.2.2.1 x.2.1.2.2.2.2.2.2.2.2.1 x.2.1.2.2.2.2.2.2.2.2.2.1 x.2.1.2.2.2.2.2.2.2.2.2.2.1 x.2.2.1.1 x.2.2.1.2.1 x.2.2.1.2.2.1 x.2.2.1.2.2.2.1 x.2.2.1.2.2.2.2.1 x.2.2.1.2.2.2.2.2.1 x.2.2.2.1 x.2.2.2.2.1.1 x.2.2.2.2.1.2.1 x.2.2.2.2.1.2.2.1 x.2.2.2.2.1.2.2.2.1 x.2.2.2.2.1.2.2.2.2.1 x.2.2.2.2.1.2.2.2.2.2.1, ⟨fun k => by kernel_rfl, fun k y => by kernel_rfl, fun y => by kernel_rfl⟩⟩
    (fun k x => spec_StateAt_F k x.1.1.1 x.1.1.2.1 x.1.1.2.2.1 x.1.1.2.2.2.1 x.1.1.2.2.2.2.1 x.1.1.2.2.2.2.2.1 x.1.1.2.2.2.2.2.2.1 x.1.1.2.2.2.2.2.2.2.1 x.1.1.2.2.2.2.2.2.2.2.1 x.1.1.2.2.2.2.2.2.2.2.2.1 x.1.1.2.2.2.2.2.2.2.2.2.2.1 x.1.2.1) (fun x => rfl) (fun k x => by kernel_rfl)
-- loop.example/g00051/impl.capitals
noncomputable def i_impl_capitals : Shape := ⟨[(0, .c (.str)), (1, .c (.int .i64))], []⟩
noncomputable def o_impl_capitals : Shape := ⟨[(0, .c (.bool))], []⟩
noncomputable def s_impl_capitals_2 : Shape := ⟨[(0, .c (.str)), (1, .c (.int .i64)), (5, .c (.int .i64))], []⟩
noncomputable def impl_capitals_L2 : Nat → ByteArray → Int → Int → Option (Bool)
  | 0, _, _, _ => none
  | k + 1, a0, a1, a2 =>
  bif decide (a2 < (↑a0.size : Int)) then bif decide (0 ≤ a2) then bif decide (a2 < (↑a0.size : Int)) then bif decide (bt a0 a2 < 65) then some false else bif decide (0 ≤ a2) then bif decide (a2 < (↑a0.size : Int)) then bif decide (bt a0 a2 > 90) then some false else impl_capitals_L2 k a0 a1 (IntKind.i64.wrap (a2 + 1)) else none else none else none else none else some ((↑a0.size : Int) == a1)
noncomputable def j_impl_capitals : List (Nat × (Nat → Cut (Bool))) := [(2, fun k => ⟨s_impl_capitals_2, fun x => impl_capitals_L2 k x.1.1 x.1.2.1 x.1.2.2.1⟩)]
noncomputable def impl_capitals_F (k : Nat) (a0 : ByteArray) (a1 : Int) : Option (Bool) :=
  impl_capitals_L2 k a0 a1 0
noncomputable def impl_capitals (a0 : ByteArray) (a1 : Int) : Option (Bool) := evF fun k => impl_capitals_F k a0 a1
noncomputable def g_impl_capitals : Sg := ⟨i_impl_capitals, o_impl_capitals, Bool, fun y => ((y, ()), ()), fun x => impl_capitals x.1.1 x.1.2.1⟩
noncomputable def C_impl_capitals : Ctx := ⟨26, tiOf Tryd.prog, gl, sgOf []⟩
noncomputable def r_impl_capitals : AExit → Env → Option (Bool) := retK C_impl_capitals 0 o_impl_capitals (fun y => y.1.1) Tryd.f107.results.toList
theorem e_impl_capitals : Sound Tryd.prog gl 107 g_impl_capitals :=
  sound_cuts (C := C_impl_capitals) ⟨fun _ _ h => h, by kernel_rfl⟩ (sgOf_all' trivial) 107 Tryd.f107 g_impl_capitals (fun y => y.1.1) j_impl_capitals 1 (by kernel_rfl) (by kernel_rfl) (by kernel_rfl) (by kernel_rfl) (by kernel_rfl) (by kernel_rfl) (fun _ => rfl) (by kernel_rfl) (by kernel_rfl)
    ⟨trivial, s_impl_capitals_2, fun k x => impl_capitals_L2 k x.1.1 x.1.2.1 x.1.2.2.1, ⟨fun k => by kernel_rfl, fun k y => by kernel_rfl, fun y => by kernel_rfl⟩⟩
    (fun k x => impl_capitals_F k x.1.1 x.1.2.1) (fun x => rfl) (fun k x => by kernel_rfl)
-- loop.example/g00051/impl.digits
noncomputable def i_impl_digits : Shape := ⟨[(0, .c (.str))], []⟩
noncomputable def o_impl_digits : Shape := ⟨[(0, .c (.bool))], []⟩
noncomputable def s_impl_digits_2 : Shape := ⟨[(0, .c (.str)), (3, .c (.int .i64))], []⟩
noncomputable def impl_digits_L2 : Nat → ByteArray → Int → Option (Bool)
  | 0, _, _ => none
  | k + 1, a0, a1 =>
  bif decide (a1 < (↑a0.size : Int)) then bif decide (0 ≤ a1) then bif decide (a1 < (↑a0.size : Int)) then bif decide (bt a0 a1 < 48) then some false else bif decide (0 ≤ a1) then bif decide (a1 < (↑a0.size : Int)) then bif decide (bt a0 a1 > 57) then some false else impl_digits_L2 k a0 (IntKind.i64.wrap (a1 + 1)) else none else none else none else none else some (decide ((↑a0.size : Int) > 0))
noncomputable def j_impl_digits : List (Nat × (Nat → Cut (Bool))) := [(2, fun k => ⟨s_impl_digits_2, fun x => impl_digits_L2 k x.1.1 x.1.2.1⟩)]
noncomputable def impl_digits_F (k : Nat) (a0 : ByteArray) : Option (Bool) :=
  impl_digits_L2 k a0 0
noncomputable def impl_digits (a0 : ByteArray) : Option (Bool) := evF fun k => impl_digits_F k a0
noncomputable def g_impl_digits : Sg := ⟨i_impl_digits, o_impl_digits, Bool, fun y => ((y, ()), ()), fun x => impl_digits x.1.1⟩
noncomputable def C_impl_digits : Ctx := ⟨23, tiOf Tryd.prog, gl, sgOf []⟩
noncomputable def r_impl_digits : AExit → Env → Option (Bool) := retK C_impl_digits 0 o_impl_digits (fun y => y.1.1) Tryd.f96.results.toList
theorem e_impl_digits : Sound Tryd.prog gl 96 g_impl_digits :=
  sound_cuts (C := C_impl_digits) ⟨fun _ _ h => h, by kernel_rfl⟩ (sgOf_all' trivial) 96 Tryd.f96 g_impl_digits (fun y => y.1.1) j_impl_digits 1 (by kernel_rfl) (by kernel_rfl) (by kernel_rfl) (by kernel_rfl) (by kernel_rfl) (by kernel_rfl) (fun _ => rfl) (by kernel_rfl) (by kernel_rfl)
    ⟨trivial, s_impl_digits_2, fun k x => impl_digits_L2 k x.1.1 x.1.2.1, ⟨fun k => by kernel_rfl, fun k y => by kernel_rfl, fun y => by kernel_rfl⟩⟩
    (fun k x => impl_digits_F k x.1.1) (fun x => rfl) (fun k x => by kernel_rfl)
-- loop.example/g00051/impl.centreOk
noncomputable def i_impl_centreOk : Shape := ⟨[(0, .c (.str))], []⟩
noncomputable def o_impl_centreOk : Shape := ⟨[(0, .c (.bool))], []⟩
noncomputable def s_impl_centreOk_4 : Shape := ⟨[(0, .c (.str)), (3, .c (.int .i64))], []⟩
noncomputable def impl_centreOk_L4 : Nat → ByteArray → Int → Option (Bool)
  | 0, _, _ => none
  | k + 1, a0, a1 =>
  bif decide (a1 < 4) then bif decide (0 ≤ IntKind.i64.wrap (a1 + 1)) && decide (IntKind.i64.wrap (a1 + 1) ≤ (↑a0.size : Int)) then bif decide (0 ≤ a1) && decide (a1 ≤ IntKind.i64.wrap (a1 + 1)) then (impl_capitals (a0.extract a1.toNat (IntKind.i64.wrap (a1 + 1)).toNat) 1).bind fun val => bif !val then bif decide (0 ≤ IntKind.i64.wrap (a1 + 1)) && decide (IntKind.i64.wrap (a1 + 1) ≤ (↑a0.size : Int)) then bif decide (0 ≤ a1) && decide (a1 ≤ IntKind.i64.wrap (a1 + 1)) then (impl_digits (a0.extract a1.toNat (IntKind.i64.wrap (a1 + 1)).toNat)).bind fun val => bif !val then some false else impl_centreOk_L4 k a0 (IntKind.i64.wrap (a1 + 1)) else none else none else impl_centreOk_L4 k a0 (IntKind.i64.wrap (a1 + 1)) else none else none else some true
noncomputable def j_impl_centreOk : List (Nat × (Nat → Cut (Bool))) := [(4, fun k => ⟨s_impl_centreOk_4, fun x => impl_centreOk_L4 k x.1.1 x.1.2.1⟩)]
noncomputable def impl_centreOk_F (k : Nat) (a0 : ByteArray) : Option (Bool) :=
  bif (↑a0.size : Int) != 4 then some false else bif decide (0 ≤ 1) && decide (1 ≤ (↑a0.size : Int)) then (impl_capitals (a0.extract (Int.toNat 0) (Int.toNat 1)) 1).bind fun val => bif !val then some false else impl_centreOk_L4 k a0 1 else none
noncomputable def impl_centreOk (a0 : ByteArray) : Option (Bool) := evF fun k => impl_centreOk_F k a0
noncomputable def g_impl_centreOk : Sg := ⟨i_impl_centreOk, o_impl_centreOk, Bool, fun y => ((y, ()), ()), fun x => impl_centreOk x.1.1⟩
noncomputable def C_impl_centreOk : Ctx := ⟨33, tiOf Tryd.prog, gl, sgOf [(107, g_impl_capitals), (96, g_impl_digits)]⟩
noncomputable def r_impl_centreOk : AExit → Env → Option (Bool) := retK C_impl_centreOk 0 o_impl_centreOk (fun y => y.1.1) Tryd.f109.results.toList
theorem e_impl_centreOk : Sound Tryd.prog gl 109 g_impl_centreOk :=
  sound_cuts (C := C_impl_centreOk) ⟨fun _ _ h => h, by kernel_rfl⟩ (sgOf_all' ⟨⟨by kernel_rfl, e_impl_capitals⟩, ⟨by kernel_rfl, e_impl_digits⟩, trivial⟩) 109 Tryd.f109 g_impl_centreOk (fun y => y.1.1) j_impl_centreOk 1 (by kernel_rfl) (by kernel_rfl) (by kernel_rfl) (by kernel_rfl) (by kernel_rfl) (by kernel_rfl) (fun _ => rfl) (by kernel_rfl) (by kernel_rfl)
    ⟨trivial, s_impl_centreOk_4, fun k x => impl_centreOk_L4 k x.1.1 x.1.2.1, ⟨fun k => by kernel_rfl, fun k y => by kernel_rfl, fun y => by kernel_rfl⟩⟩
    (fun k x => impl_centreOk_F k x.1.1) (fun x => rfl) (fun k x => by kernel_rfl)
-- loop.example/g00051/impl.in
noncomputable def i_impl_in : Shape := ⟨[(0, .c (.int .i64)), (1, .c (.int .i64)), (2, .c (.int .i64))], []⟩
noncomputable def o_impl_in : Shape := ⟨[(0, .c (.bool))], []⟩
noncomputable def impl_in (a0 : Int) (a1 : Int) (a2 : Int) : Option (Bool) :=
  bif decide (a0 ≥ a1) then some (decide (a0 ≤ a2)) else some false
noncomputable def g_impl_in : Sg := ⟨i_impl_in, o_impl_in, Bool, fun y => ((y, ()), ()), fun x => impl_in x.1.1 x.1.2.1 x.1.2.2.1⟩
noncomputable def C_impl_in : Ctx := ⟨15, tiOf Tryd.prog, gl, sgOf []⟩
noncomputable def r_impl_in : AExit → Env → Option (Bool) := retK C_impl_in 0 o_impl_in (fun y => y.1.1) Tryd.f73.results.toList
theorem e_impl_in : Sound Tryd.prog gl 73 g_impl_in :=
  sound_plain (C := C_impl_in) ⟨fun _ _ h => h, by kernel_rfl⟩ (sgOf_all' trivial) 73 Tryd.f73 g_impl_in (fun y => y.1.1) (by kernel_rfl) (by kernel_rfl) (by kernel_rfl) (by kernel_rfl) (by kernel_rfl) (by kernel_rfl) (fun _ => rfl) (fun x => by kernel_rfl)
-- loop.example/g00051/impl.isTime
noncomputable def i_impl_isTime : Shape := ⟨[(0, .c (.int .i64))], []⟩
noncomputable def o_impl_isTime : Shape := ⟨[(0, .c (.bool))], []⟩
noncomputable def impl_isTime (a0 : Int) : Option (Bool) :=
  (impl_in a0 0 52596000).bind fun val => some val
noncomputable def g_impl_isTime : Sg := ⟨i_impl_isTime, o_impl_isTime, Bool, fun y => ((y, ()), ()), fun x => impl_isTime x.1.1⟩
noncomputable def C_impl_isTime : Ctx := ⟨5, tiOf Tryd.prog, gl, sgOf [(73, g_impl_in)]⟩
noncomputable def r_impl_isTime : AExit → Env → Option (Bool) := retK C_impl_isTime 0 o_impl_isTime (fun y => y.1.1) Tryd.f92.results.toList
theorem e_impl_isTime : Sound Tryd.prog gl 92 g_impl_isTime :=
  sound_plain (C := C_impl_isTime) ⟨fun _ _ h => h, by kernel_rfl⟩ (sgOf_all' ⟨⟨by kernel_rfl, e_impl_in⟩, trivial⟩) 92 Tryd.f92 g_impl_isTime (fun y => y.1.1) (by kernel_rfl) (by kernel_rfl) (by kernel_rfl) (by kernel_rfl) (by kernel_rfl) (by kernel_rfl) (fun _ => rfl) (fun x => by kernel_rfl)
-- loop.example/g00051/impl.spanOk
noncomputable def i_impl_spanOk : Shape := ⟨[(0, .agg [.int .i64, .int .i64])], []⟩
noncomputable def o_impl_spanOk : Shape := ⟨[(0, .c (.bool))], []⟩
noncomputable def impl_spanOk (a0 : Int) (a1 : Int) : Option (Bool) :=
  (impl_isTime a0).bind fun val => bif val then (impl_isTime a1).bind fun val => bif val then some (decide (a0 ≤ a1)) else some false else some false
noncomputable def g_impl_spanOk : Sg := ⟨i_impl_spanOk, o_impl_spanOk, Bool, fun y => ((y, ()), ()), fun x => impl_spanOk x.1.1.1 x.1.1.2.1⟩
noncomputable def C_impl_spanOk : Ctx := ⟨18, tiOf Tryd.prog, gl, sgOf [(92, g_impl_isTime)]⟩
noncomputable def r_impl_spanOk : AExit → Env → Option (Bool) := retK C_impl_spanOk 0 o_impl_spanOk (fun y => y.1.1) Tryd.f124.results.toList
theorem e_impl_spanOk : Sound Tryd.prog gl 124 g_impl_spanOk :=
  sound_plain (C := C_impl_spanOk) ⟨fun _ _ h => h, by kernel_rfl⟩ (sgOf_all' ⟨⟨by kernel_rfl, e_impl_isTime⟩, trivial⟩) 124 Tryd.f124 g_impl_spanOk (fun y => y.1.1) (by kernel_rfl) (by kernel_rfl) (by kernel_rfl) (by kernel_rfl) (by kernel_rfl) (by kernel_rfl) (fun _ => rfl) (fun x => by kernel_rfl)
-- loop.example/g00051/impl.away
noncomputable def i_impl_away : Shape := ⟨[(0, .c (.int .i64)), (1, .c (.int .i64))], []⟩
noncomputable def o_impl_away : Shape := ⟨[(0, .c (.int .i64))], []⟩
noncomputable def impl_away (a0 : Int) (a1 : Int) : Option (Int) :=
  some (if IntKind.i64.wrap (a1 - a0) > IntKind.i64.wrap (a0 - a1) then IntKind.i64.wrap (a1 - a0) else IntKind.i64.wrap (a0 - a1))
noncomputable def g_impl_away : Sg := ⟨i_impl_away, o_impl_away, Int, fun y => ((y, ()), ()), fun x => impl_away x.1.1 x.1.2.1⟩
noncomputable def C_impl_away : Ctx := ⟨12, tiOf Tryd.prog, gl, sgOf []⟩
noncomputable def r_impl_away : AExit → Env → Option (Int) := retK C_impl_away 0 o_impl_away (fun y => y.1.1) Tryd.f125.results.toList
theorem e_impl_away : Sound Tryd.prog gl 125 g_impl_away :=
  sound_plain (C := C_impl_away) ⟨fun _ _ h => h, by kernel_rfl⟩ (sgOf_all' trivial) 125 Tryd.f125 g_impl_away (fun y => y.1.1) (by kernel_rfl) (by kernel_rfl) (by kernel_rfl) (by kernel_rfl) (by kernel_rfl) (by kernel_rfl) (fun _ => rfl) (fun x => by kernel_rfl)
-- slices.Index[[]string,string]
noncomputable def i_slices_Index_Lstring_string : Shape := ⟨[(0, .c (.sl .str)), (1, .c (.str))], []⟩
noncomputable def o_slices_Index_Lstring_string : Shape := ⟨[(0, .c (.int .i64))], []⟩
noncomputable def s_slices_Index_Lstring_string_2 : Shape := ⟨[(0, .c (.sl .str)), (1, .c (.str)), (7, .c (.int .i64)), (8, .c (.int .i64))], []⟩
noncomputable def slices_Index_Lstring_string_L2 : Nat → (List ByteArray) → ByteArray → Int → Int → Option (Int)
  | 0, _, _, _, _ => none
  | k + 1, a0, a1, a2, a3 =>
  bif decide (a3 < a2) then bif decide (0 ≤ a3) then bif decide (a3 < (↑a0.length : Int)) then bif a1.toList == ByteArray.toList (rd Kind.str a0 a3) then some a3 else slices_Index_Lstring_string_L2 k a0 a1 a2 (IntKind.i64.wrap (a3 + 1)) else none else none else some (-1)
noncomputable def j_slices_Index_Lstring_string : List (Nat × (Nat → Cut (Int))) := [(2, fun k => ⟨s_slices_Index_Lstring_string_2, fun x => slices_Index_Lstring_string_L2 k x.1.1 x.1.2.1 x.1.2.2.1 x.1.2.2.2.1⟩)]
noncomputable def slices_Index_Lstring_string_F (k : Nat) (a0 : List ByteArray) (a1 : ByteArray) : Option (Int) :=
  slices_Index_Lstring_string_L2 k a0 a1 (↑a0.length : Int) 0
noncomputable def slices_Index_Lstring_string (a0 : List ByteArray) (a1 : ByteArray) : Option (Int) := evF fun k => slices_Index_Lstring_string_F k a0 a1
noncomputable def g_slices_Index_Lstring_string : Sg := ⟨i_slices_Index_Lstring_string, o_slices_Index_Lstring_string, Int, fun y => ((y, ()), ()), fun x => slices_Index_Lstring_string x.1.1 x.1.2.1⟩
noncomputable def C_slices_Index_Lstring_string : Ctx := ⟨19, tiOf Tryd.prog, gl, sgOf []⟩
noncomputable def r_slices_Index_Lstring_string : AExit → Env → Option (Int) := retK C_slices_Index_Lstring_string 0 o_slices_Index_Lstring_string (fun y => y.1.1) Tryd.f162.results.toList
theorem e_slices_Index_Lstring_string : Sound Tryd.prog gl 162 g_slices_Index_Lstring_string :=
  sound_cuts (C := C_slices_Index_Lstring_string) ⟨fun _ _ h => h, by kernel_rfl⟩ (sgOf_all' trivial) 162 Tryd.f162 g_slices_Index_Lstring_string (fun y => y.1.1) j_slices_Index_Lstring_string 1 (by kernel_rfl) (by kernel_rfl) (by kernel_rfl) (by kernel_rfl) (by kernel_rfl) (by kernel_rfl) (fun _ => rfl) (by kernel_rfl) (by kernel_rfl)
    ⟨trivial, s_slices_Index_Lstring_string_2, fun k x => slices_Index_Lstring_string_L2 k x.1.1 x.1.2.1 x.1.2.2.1 x.1.2.2.2.1, ⟨fun k => by kernel_rfl, fun k y => by kernel_rfl, fun y => by kernel_rfl⟩⟩
    (fun k x => slices_Index_Lstring_string_F k x.1.1 x.1.2.1) (fun x => rfl) (fun k x => by kernel_rfl)
-- slices.Contains[[]string,string]
noncomputable def i_slices_Contains_Lstring_string : Shape := ⟨[(0, .c (.sl .str)), (1, .c (.str))], []⟩
noncomputable def o_slices_Contains_Lstring_string : Shape := ⟨[(0, .c (.bool))], []⟩
noncomputable def slices_Contains_Lstring_string (a0 : List ByteArray) (a1 : ByteArray) : Option (Bool) :=
  (slices_Index_Lstring_string a0 a1).bind fun val => some (decide (val ≥ 0))
noncomputable def g_slices_Contains_Lstring_string : Sg := ⟨i_slices_Contains_Lstring_string, o_slices_Contains_Lstring_string, Bool, fun y => ((y, ()), ()), fun x => slices_Contains_Lstring_string x.1.1 x.1.2.1⟩
noncomputable def C_slices_Contains_Lstring_string : Ctx := ⟨9, tiOf Tryd.prog, gl, sgOf [(162, g_slices_Index_Lstring_string)]⟩
noncomputable def r_slices_Contains_Lstring_string : AExit → Env → Option (Bool) := retK C_slices_Contains_Lstring_string 0 o_slices_Contains_Lstring_string (fun y => y.1.1) Tryd.f139.results.toList
theorem e_slices_Contains_Lstring_string : Sound Tryd.prog gl 139 g_slices_Contains_Lstring_string :=
  sound_plain (C := C_slices_Contains_Lstring_string) ⟨fun _ _ h => h, by kernel_rfl⟩ (sgOf_all' ⟨⟨by kernel_rfl, e_slices_Index_Lstring_string⟩, trivial⟩) 139 Tryd.f139 g_slices_Contains_Lstring_string (fun y => y.1.1) (by kernel_rfl) (by kernel_rfl) (by kernel_rfl) (by kernel_rfl) (by kernel_rfl) (by kernel_rfl) (fun _ => rfl) (fun x => by kernel_rfl)
-- loop.example/g00051/impl.SkyOk
noncomputable def i_impl_SkyOk : Shape := ⟨[(0, .agg [.int .i64, .int .i64, .int .i64, .str, .str, .int .i64])], []⟩
noncomputable def o_impl_SkyOk : Shape := ⟨[(0, .c (.bool))], []⟩
noncomputable def impl_SkyOk (a0 : Int) (a1 : Int) (a2 : Int) (a3 : ByteArray) (a4 : ByteArray) (a5 : Int) : Option (Bool) :=
  bif a0 == -1 then bif a1 != 0 then some false else (impl_in a2 (-1) 9999).bind fun val => bif !val then some false else bif !a3.toList == (bs []).toList then (slices_Contains_Lstring_string L_impl_weathers a3).bind fun val => bif !val then some false else bif a4.toList == (bs []).toList then some (a5 == 0) else bif a4.toList == (bs [83, 75, 67]).toList then some (a5 == 0) else (slices_Contains_Lstring_string L_impl_covers a4).bind fun val => bif val then (impl_in a5 1 200).bind fun val => some val else some false else bif a4.toList == (bs []).toList then some (a5 == 0) else bif a4.toList == (bs [83, 75, 67]).toList then some (a5 == 0) else (slices_Contains_Lstring_string L_impl_covers a4).bind fun val => bif val then (impl_in a5 1 200).bind fun val => some val else some false
  else
   bif a0 == 0 then bif a1 != 0 then some false else (impl_in a2 (-1) 9999).bind fun val => bif !val then some false else bif !a3.toList == (bs []).toList then (slices_Contains_Lstring_string L_impl_weathers a3).bind fun val => bif !val then some false else bif a4.toList == (bs []).toList then some (a5 == 0) else bif a4.toList == (bs [83, 75, 67]).toList then some (a5 == 0) else (slices_Contains_Lstring_string L_impl_covers a4).bind fun val => bif val then (impl_in a5 1 200).bind fun val => some val else some false else bif a4.toList == (bs []).toList then some (a5 == 0) else bif a4.toList == (bs [83, 75, 67]).toList then some (a5 == 0) else (slices_Contains_Lstring_string L_impl_covers a4).bind fun val => bif val then (impl_in a5 1 200).bind fun val => some val else some false
   else
    (impl_in a0 1 36).bind fun val =>
     bif !val then bif a0 != 99 then some false else (impl_in a1 1 99).bind fun val => bif !val then some false else (impl_in a2 (-1) 9999).bind fun val => bif !val then some false else bif !a3.toList == (bs []).toList then (slices_Contains_Lstring_string L_impl_weathers a3).bind fun val => bif !val then some false else bif a4.toList == (bs []).toList then some (a5 == 0) else bif a4.toList == (bs [83, 75, 67]).toList then some (a5 == 0) else (slices_Contains_Lstring_string L_impl_covers a4).bind fun val => bif val then (impl_in a5 1 200).bind fun val => some val else some false else bif a4.toList == (bs []).toList then some (a5 == 0) else bif a4.toList == (bs [83, 75, 67]).toList then some (a5 == 0) else (slices_Contains_Lstring_string L_impl_covers a4).bind fun val => bif val then (impl_in a5 1 200).bind fun val => some val else some false
     else (impl_in a1 1 99).bind fun val => bif !val then some false else (impl_in a2 (-1) 9999).bind fun val => bif !val then some false else bif !a3.toList == (bs []).toList then (slices_Contains_Lstring_string L_impl_weathers a3).bind fun val => bif !val then some false else bif a4.toList == (bs []).toList then some (a5 == 0) else bif a4.toList == (bs [83, 75, 67]).toList then some (a5 == 0) else (slices_Contains_Lstring_string L_impl_covers a4).bind fun val => bif val then (impl_in a5 1 200).bind fun val => some val else some false else bif a4.toList == (bs []).toList then some (a5 == 0) else bif a4.toList == (bs [83, 75, 67]).toList then some (a5 == 0) else (slices_Contains_Lstring_string L_impl_covers a4).bind fun val => bif val then (impl_in a5 1 200).bind fun val => some val else some false
noncomputable def g_impl_SkyOk : Sg := ⟨i_impl_SkyOk, o_impl_SkyOk, Bool, fun y => ((y, ()), ()), fun x => impl_SkyOk x.1.1.1 x.1.1.2.1 x.1.1.2.2.1 x.1.1.2.2.2.1 x.1.1.2.2.2.2.1 x.1.1.2.2.2.2.2.1⟩
noncomputable def C_impl_SkyOk : Ctx := ⟨67, tiOf Tryd.prog, gl, sgOf [(73, g_impl_in), (139, g_slices_Contains_Lstring_string)]⟩
noncomputable def r_impl_SkyOk : AExit → Env → Option (Bool) := retK C_impl_SkyOk 0 o_impl_SkyOk (fun y => y.1.1) Tryd.f85.results.toList
theorem e_impl_SkyOk : Sound Tryd.prog gl 85 g_impl_SkyOk :=
  sound_plain (C := C_impl_SkyOk) ⟨fun _ _ h => h, by kernel_rfl⟩ (sgOf_all' ⟨⟨by kernel_rfl, e_impl_in⟩, ⟨by kernel_rfl, e_slices_Contains_Lstring_string⟩, trivial⟩) 85 Tryd.f85 g_impl_SkyOk (fun y => y.1.1) (by kernel_rfl) (by kernel_rfl) (by kernel_rfl) (by kernel_rfl) (by kernel_rfl) (by kernel_rfl) (fun _ => rfl) (fun x => by kernel_rfl)
-- loop.example/g00051/impl.said
noncomputable def i_impl_said : Shape := ⟨[(0, .agg [.int .i64, .int .i64, .int .i64, .str, .str, .int .i64])], []⟩
noncomputable def o_impl_said : Shape := ⟨[(0, .agg [.bool, .bool, .bool, .bool])], []⟩
noncomputable def impl_said (a0 : Int) (a1 : Int) (a2 : Int) (a3 : ByteArray) (a4 : ByteArray) (a5 : Int) : Option (Bool × Bool × Bool × Bool) :=
  some (a0 != -1, a2 != -1, !a3.toList == (bs []).toList, !a4.toList == (bs []).toList)
noncomputable def g_impl_said : Sg := ⟨i_impl_said, o_impl_said, Bool × Bool × Bool × Bool, fun y => (((y.1, y.2.1, y.2.2.1, y.2.2.2, ()), ()), ()), fun x => impl_said x.1.1.1 x.1.1.2.1 x.1.1.2.2.1 x.1.1.2.2.2.1 x.1.1.2.2.2.2.1 x.1.1.2.2.2.2.2.1⟩
noncomputable def C_impl_said : Ctx := ⟨16, tiOf Tryd.prog, gl, sgOf []⟩
noncomputable def r_impl_said : AExit → Env → Option (Bool × Bool × Bool × Bool) := retK C_impl_said 0 o_impl_said (fun y => (y.1.1.1, y.1.1.2.1, y.1.1.2.2.1, y.1.1.2.2.2.1)) Tryd.f86.results.toList
theorem e_impl_said : Sound Tryd.prog gl 86 g_impl_said :=
  sound_plain (C := C_impl_said) ⟨fun _ _ h => h, by kernel_rfl⟩ (sgOf_all' trivial) 86 Tryd.f86 g_impl_said (fun y => (y.1.1.1, y.1.1.2.1, y.1.1.2.2.1, y.1.1.2.2.2.1)) (by kernel_rfl) (by kernel_rfl) (by kernel_rfl) (by kernel_rfl) (by kernel_rfl) (by kernel_rfl) (fun _ => rfl) (fun x => by kernel_rfl)
-- loop.example/g00051/impl.full
noncomputable def i_impl_full : Shape := ⟨[(0, .agg [.int .i64, .int .i64, .int .i64, .str, .str, .int .i64])], []⟩
noncomputable def o_impl_full : Shape := ⟨[(0, .c (.bool))], []⟩
noncomputable def impl_full (a0 : Int) (a1 : Int) (a2 : Int) (a3 : ByteArray) (a4 : ByteArray) (a5 : Int) : Option (Bool) :=
  (impl_SkyOk a0 a1 a2 a3 a4 a5).bind fun val => bif val then (impl_said a0 a1 a2 a3 a4 a5).bind fun val => some (val.fst == true && (val.snd.fst == true && (val.snd.snd.fst == true && val.snd.snd.snd == true))) else some false
noncomputable def g_impl_full : Sg := ⟨i_impl_full, o_impl_full, Bool, fun y => ((y, ()), ()), fun x => impl_full x.1.1.1 x.1.1.2.1 x.1.1.2.2.1 x.1.1.2.2.2.1 x.1.1.2.2.2.2.1 x.1.1.2.2.2.2.2.1⟩
noncomputable def C_impl_full : Ctx := ⟨11, tiOf Tryd.prog, gl, sgOf [(85, g_impl_SkyOk), (86, g_impl_said)]⟩
noncomputable def r_impl_full : AExit → Env → Option (Bool) := retK C_impl_full 0 o_impl_full (fun y => y.1.1) Tryd.f126.results.toList
theorem e_impl_full : Sound Tryd.prog gl 126 g_impl_full :=
  sound_plain (C := C_impl_full) ⟨fun _ _ h => h, by kernel_rfl⟩ (sgOf_all' ⟨⟨by kernel_rfl, e_impl_SkyOk⟩, ⟨by kernel_rfl, e_impl_said⟩, trivial⟩) 126 Tryd.f126 g_impl_full (fun y => y.1.1) (by kernel_rfl) (by kernel_rfl) (by kernel_rfl) (by kernel_rfl) (by kernel_rfl) (by kernel_rfl) (fun _ => rfl) (fun x => by kernel_rfl)
-- loop.example/g00051/impl.TafOk
noncomputable def i_impl_TafOk : Shape := ⟨[(0, .agg [.str, .int .i64, .int .i64, .int .i64, .int .i64, .int .i64, .int .i64, .str, .str, .int .i64, .sl (.pair (.int .i64) (.pair (.int .i64) (.pair (.int .i64) (.pair (.int .i64) (.pair (.int .i64) (.pair (.int .i64) (.pair .str (.pair .str (.int .i64)))))))))])], []⟩
noncomputable def o_impl_TafOk : Shape := ⟨[(0, .c (.bool))], []⟩
noncomputable def s_impl_TafOk_6 : Shape := ⟨[(1, .c (.ptr 0 0)), (3, .c (.ptr 1 0)), (4, .c (.int .i64)), (66, .c (.sl (.pair (.int .i64) (.pair (.int .i64) (.pair (.int .i64) (.pair (.int .i64) (.pair (.int .i64) (.pair (.int .i64) (.pair .str (.pair .str (.int .i64))))))))))), (67, .c (.int .i64)), (68, .c (.int .i64))], [.box 37 [.str, .int .i64, .int .i64, .int .i64, .int .i64, .int .i64, .int .i64, .str, .str, .int .i64, .sl (.pair (.int .i64) (.pair (.int .i64) (.pair (.int .i64) (.pair (.int .i64) (.pair (.int .i64) (.pair (.int .i64) (.pair .str (.pair .str (.int .i64)))))))))], .box 34 [.int .i64, .int .i64]]⟩
noncomputable def impl_TafOk_L6 : Nat → Int → (List (Int × Int × Int × Int × Int × Int × ByteArray × ByteArray × Int)) → Int → Int → ByteArray → Int → Int → Int → Int → Int → Int → ByteArray → ByteArray → Int → (List (Int × Int × Int × Int × Int × Int × ByteArray × ByteArray × Int)) → Int → Int → Option (Bool)
  | 0, _, _, _, _, _, _, _, _, _, _, _, _, _, _, _, _, _ => none
  | k + 1, a0, a1, a2, a3, a4, a5, a6, a7, a8, a9, a10, a11, a12, a13, a14, a15, a16 =>
  bif decide (a3 < a2) then
   bif decide (0 ≤ a3) then
    bif decide (a3 < (↑a1.length : Int)) then
     (impl_in (rd K9_0 a1 a3).fst 1 4).bind fun val =>
      bif !val then some false
      else
       (impl_SkyOk (rd K9_0 a1 a3).snd.snd.snd.fst (rd K9_0 a1 a3).snd.snd.snd.snd.fst (rd K9_0 a1 a3).snd.snd.snd.snd.snd.fst (rd K9_0 a1 a3).snd.snd.snd.snd.snd.snd.fst (rd K9_0 a1 a3).snd.snd.snd.snd.snd.snd.snd.fst
          (rd K9_0 a1 a3).snd.snd.snd.snd.snd.snd.snd.snd).bind
        fun val =>
        bif !val then some false
        else
         (impl_said (rd K9_0 a1 a3).snd.snd.snd.fst (rd K9_0 a1 a3).snd.snd.snd.snd.fst (rd K9_0 a1 a3).snd.snd.snd.snd.snd.fst (rd K9_0 a1 a3).snd.snd.snd.snd.snd.snd.fst (rd K9_0 a1 a3).snd.snd.snd.snd.snd.snd.snd.fst
            (rd K9_0 a1 a3).snd.snd.snd.snd.snd.snd.snd.snd).bind
          fun val =>
          bif val.fst == false && (val.snd.fst == false && (val.snd.snd.fst == false && val.snd.snd.snd == false)) then some false
          else
           bif decide (a3 > 0) then
            bif decide (0 ≤ IntKind.i64.wrap (a3 - 1)) then
             bif decide (IntKind.i64.wrap (a3 - 1) < (↑a14.length : Int)) then
              bif decide ((rd K9_0 a1 a3).snd.fst < (rd K9_0 a14 (IntKind.i64.wrap (a3 - 1))).snd.fst) then some false
              else
               bif (rd K9_0 a1 a3).fst == 1 then
                bif decide ((rd K9_0 a1 a3).snd.fst < a15) then some false
                else
                 bif decide ((rd K9_0 a1 a3).snd.fst ≥ a16) then some false
                 else
                  bif (rd K9_0 a1 a3).snd.snd.fst != 0 then some false
                  else
                   (impl_full (rd K9_0 a1 a3).snd.snd.snd.fst (rd K9_0 a1 a3).snd.snd.snd.snd.fst (rd K9_0 a1 a3).snd.snd.snd.snd.snd.fst (rd K9_0 a1 a3).snd.snd.snd.snd.snd.snd.fst (rd K9_0 a1 a3).snd.snd.snd.snd.snd.snd.snd.fst
                      (rd K9_0 a1 a3).snd.snd.snd.snd.snd.snd.snd.snd).bind
                    fun val =>
                    bif !val then some false
                    else
                     bif (rd K9_0 a1 a3).fst == 1 then
                      bif decide ((rd K9_0 a1 a3).snd.fst < a0) then some false else impl_TafOk_L6 k (if (rd K9_0 a1 a3).snd.snd.fst > (rd K9_0 a1 a3).snd.fst then (rd K9_0 a1 a3).snd.snd.fst else (rd K9_0 a1 a3).snd.fst) a1 a2 (IntKind.i64.wrap (a3 + 1)) a4 a5 a6 a7 a8 a9 a10 a11 a12 a13 a14 a15 a16
                     else
                      bif (rd K9_0 a1 a3).fst == 2 then
                       bif decide ((rd K9_0 a1 a3).snd.fst < a0) then some false else impl_TafOk_L6 k (if (rd K9_0 a1 a3).snd.snd.fst > (rd K9_0 a1 a3).snd.fst then (rd K9_0 a1 a3).snd.snd.fst else (rd K9_0 a1 a3).snd.fst) a1 a2 (IntKind.i64.wrap (a3 + 1)) a4 a5 a6 a7 a8 a9 a10 a11 a12 a13 a14 a15 a16
                      else impl_TafOk_L6 k a0 a1 a2 (IntKind.i64.wrap (a3 + 1)) a4 a5 a6 a7 a8 a9 a10 a11 a12 a13 a14 a15 a16
               else
                bif decide ((rd K9_0 a1 a3).snd.fst < a15) then some false
                else
                 bif decide ((rd K9_0 a1 a3).snd.fst ≥ (rd K9_0 a1 a3).snd.snd.fst) then some false
                 else
                  bif decide ((rd K9_0 a1 a3).snd.snd.fst > a16) then some false
                  else
                   bif Int.tmod (rd K9_0 a1 a3).snd.fst 60 != 0 then some false
                   else
                    bif Int.tmod (rd K9_0 a1 a3).snd.snd.fst 60 != 0 then some false
                    else
                     bif (rd K9_0 a1 a3).fst == 1 then
                      bif decide ((rd K9_0 a1 a3).snd.fst < a0) then some false else impl_TafOk_L6 k (if (rd K9_0 a1 a3).snd.snd.fst > (rd K9_0 a1 a3).snd.fst then (rd K9_0 a1 a3).snd.snd.fst else (rd K9_0 a1 a3).snd.fst) a1 a2 (IntKind.i64.wrap (a3 + 1)) a4 a5 a6 a7 a8 a9 a10 a11 a12 a13 a14 a15 a16
                     else
                      bif (rd K9_0 a1 a3).fst == 2 then
                       bif decide ((rd K9_0 a1 a3).snd.fst < a0) then some false else impl_TafOk_L6 k (if (rd K9_0 a1 a3).snd.snd.fst > (rd K9_0 a1 a3).snd.fst then (rd K9_0 a1 a3).snd.snd.fst else (rd K9_0 a1 a3).snd.fst) a1 a2 (IntKind.i64.wrap (a3 + 1)) a4 a5 a6 a7 a8 a9 a10 a11 a12 a13 a14 a15 a16
                      else impl_TafOk_L6 k a0 a1 a2 (IntKind.i64.wrap (a3 + 1)) a4 a5 a6 a7 a8 a9 a10 a11 a12 a13 a14 a15 a16
             else none
            else none
           else
            bif (rd K9_0 a1 a3).fst == 1 then
             bif decide ((rd K9_0 a1 a3).snd.fst < a15) then some false
             else
              bif decide ((rd K9_0 a1 a3).snd.fst ≥ a16) then some false
              else
               bif (rd K9_0 a1 a3).snd.snd.fst != 0 then some false
               else
                (impl_full (rd K9_0 a1 a3).snd.snd.snd.fst (rd K9_0 a1 a3).snd.snd.snd.snd.fst (rd K9_0 a1 a3).snd.snd.snd.snd.snd.fst (rd K9_0 a1 a3).snd.snd.snd.snd.snd.snd.fst (rd K9_0 a1 a3).snd.snd.snd.snd.snd.snd.snd.fst
                   (rd K9_0 a1 a3).snd.snd.snd.snd.snd.snd.snd.snd).bind
                 fun val =>
                 bif !val then some false
                 else
                  bif (rd K9_0 a1 a3).fst == 1 then
                   bif decide ((rd K9_0 a1 a3).snd.fst < a0) then some false else impl_TafOk_L6 k (if (rd K9_0 a1 a3).snd.snd.fst > (rd K9_0 a1 a3).snd.fst then (rd K9_0 a1 a3).snd.snd.fst else (rd K9_0 a1 a3).snd.fst) a1 a2 (IntKind.i64.wrap (a3 + 1)) a4 a5 a6 a7 a8 a9 a10 a11 a12 a13 a14 a15 a16
                  else
                   bif (rd K9_0 a1 a3).fst == 2 then
                    bif decide ((rd K9_0 a1 a3).snd.fst < a0) then some false else impl_TafOk_L6 k (if (rd K9_0 a1 a3).snd.snd.fst > (rd K9_0 a1 a3).snd.fst then (rd K9_0 a1 a3).snd.snd.fst else (rd K9_0 a1 a3).snd.fst) a1 a2 (IntKind.i64.wrap (a3 + 1)) a4 a5 a6 a7 a8 a9 a10 a11 a12 a13 a14 a15 a16
                   else impl_TafOk_L6 k a0 a1 a2 (IntKind.i64.wrap (a3 + 1)) a4 a5 a6 a7 a8 a9 a10 a11 a12 a13 a14 a15 a16
            else
             bif decide ((rd K9_0 a1 a3).snd.fst < a15) then some false
             else
              bif decide ((rd K9_0 a1 a3).snd.fst ≥ (rd K9_0 a1 a3).snd.snd.fst) then some false
              else
               bif decide ((rd K9_0 a1 a3).snd.snd.fst > a16) then some false
               else
                bif Int.tmod (rd K9_0 a1 a3).snd.fst 60 != 0 then some false
                else
                 bif Int.tmod (rd K9_0 a1 a3).snd.snd.fst 60 != 0 then some false
                 else
                  bif (rd K9_0 a1 a3).fst == 1 then
                   bif decide ((rd K9_0 a1 a3).snd.fst < a0) then some false else impl_TafOk_L6 k (if (rd K9_0 a1 a3).snd.snd.fst > (rd K9_0 a1 a3).snd.fst then (rd K9_0 a1 a3).snd.snd.fst else (rd K9_0 a1 a3).snd.fst) a1 a2 (IntKind.i64.wrap (a3 + 1)) a4 a5 a6 a7 a8 a9 a10 a11 a12 a13 a14 a15 a16
                  else
                   bif (rd K9_0 a1 a3).fst == 2 then
                    bif decide ((rd K9_0 a1 a3).snd.fst < a0) then some false else impl_TafOk_L6 k (if (rd K9_0 a1 a3).snd.snd.fst > (rd K9_0 a1 a3).snd.fst then (rd K9_0 a1 a3).snd.snd.fst else (rd K9_0 a1 a3).snd.fst) a1 a2 (IntKind.i64.wrap (a3 + 1)) a4 a5 a6 a7 a8 a9 a10 a11 a12 a13 a14 a15 a16
                   else impl_TafOk_L6 k a0 a1 a2 (IntKind.i64.wrap (a3 + 1)) a4 a5 a6 a7 a8 a9 a10 a11 a12 a13 a14 a15 a16
    else none
   else none
  else some true
noncomputable def j_impl_TafOk : List (Nat × (Nat → Cut (Bool))) := [(6, fun k => ⟨s_impl_TafOk_6, fun x => impl_TafOk_L6 k x.1.2.2.1 x.1.2.2.2.1 x.1.2.2.2.2.1 x.1.2.2.2.2.2.1 x.2.1.1 x.2.1.2.1 x.2.1.2.2.1 x.2.1.2.2.2.1 x.2.1.2.2.2.2.1 x.2.1.2.2.2.2.2.1 x.2.1.2.2.2.2.2.2.1 x.2.1.2.2.2.2.2.2.2.1 x.2.1.2.2.2.2.2.2.2.2.1 x.2.1.2.2.2.2.2.2.2.2.2.1 x.2.1.2.2.2.2.2.2.2.2.2.2.1 x.2.2.1.1 x.2.2.1.2.1⟩)]
noncomputable def impl_TafOk_F (k : Nat) (a0 : ByteArray) (a1 : Int) (a2 : Int) (a3 : Int) (a4 : Int) (a5 : Int) (a6 : Int) (a7 : ByteArray) (a8 : ByteArray) (a9 : Int) (a10 : List (Int × Int × Int × Int × Int × Int × ByteArray × ByteArray × Int)) : Option (Bool) :=
  (impl_centreOk a0).bind fun val => bif !val then some false else (impl_isTime a1).bind fun val => bif !val then some false else (impl_spanOk a2 a3).bind fun val => bif !val then some false else bif a2.tmod 60 != 0 then some false else bif a3.tmod 60 != 0 then some false else (impl_in (IntKind.i64.wrap (a3 - a2)) 60 2160).bind fun val => bif !val then some false else (impl_away a2 a1).bind fun val => bif decide (val > 1440) then some false else (impl_full a4 a5 a6 a7 a8 a9).bind fun val => bif !val then some false else bif decide ((↑a10.length : Int) > 10) then some false else impl_TafOk_L6 k (-1) a10 (↑a10.length : Int) 0 a0 a1 a2 a3 a4 a5 a6 a7 a8 a9 a10 a2 a3
noncomputable def impl_TafOk (a0 : ByteArray) (a1 : Int) (a2 : Int) (a3 : Int) (a4 : Int) (a5 : Int) (a6 : Int) (a7 : ByteArray) (a8 : ByteArray) (a9 : Int) (a10 : List (Int × Int × Int × Int × Int × Int × ByteArray × ByteArray × Int)) : Option (Bool) := evF fun k => impl_TafOk_F k a0 a1 a2 a3 a4 a5 a6 a7 a8 a9 a10
noncomputable def g_impl_TafOk : Sg := ⟨i_impl_TafOk, o_impl_TafOk, Bool, fun y => ((y, ()), ()), fun x => impl_TafOk x.1.1.1 x.1.1.2.1 x.1.1.2.2.1 x.1.1.2.2.2.1 x.1.1.2.2.2.2.1 x.1.1.2.2.2.2.2.1 x.1.1.2.2.2.2.2.2.1 x.1.1.2.2.2.2.2.2.2.1 x.1.1.2.2.2.2.2.2.2.2.1 x.1.1.2.2.2.2.2.2.2.2.2.1 x.1.1.2.2.2.2.2.2.2.2.2.2.1⟩
noncomputable def C_impl_TafOk : Ctx := ⟨181, tiOf Tryd.prog, gl, sgOf [(109, g_impl_centreOk), (92, g_impl_isTime), (124, g_impl_spanOk), (73, g_impl_in), (125, g_impl_away), (126, g_impl_full), (85, g_impl_SkyOk), (86, g_impl_said)]⟩
noncomputable def r_impl_TafOk : AExit → Env → Option (Bool) := retK C_impl_TafOk 0 o_impl_TafOk (fun y => y.1.1) Tryd.f63.results.toList
theorem e_impl_TafOk : Sound Tryd.prog gl 63 g_impl_TafOk :=
  sound_cuts (C := C_impl_TafOk) ⟨fun _ _ h => h, by kernel_rfl⟩ (sgOf_all' ⟨⟨by kernel_rfl, e_impl_centreOk⟩, ⟨by kernel_rfl, e_impl_isTime⟩, ⟨by kernel_rfl, e_impl_spanOk⟩, ⟨by kernel_rfl, e_impl_in⟩, ⟨by kernel_rfl, e_impl_away⟩, ⟨by kernel_rfl, e_impl_full⟩, ⟨by kernel_rfl, e_impl_SkyOk⟩, ⟨by kernel_rfl, e_impl_said⟩, trivial⟩) 63 Tryd.f63 g_impl_TafOk (fun y => y.1.1) j_impl_TafOk 1 (by kernel_rfl) (by kernel_rfl) (by kernel_rfl) (by kernel_rfl) (by kernel_rfl) (by kernel_rfl) (fun _ => rfl) (by kernel_rfl) (by kernel_rfl)
    ⟨trivial, s_impl_TafOk_6, fun k x => impl_TafOk_L6 k x.1.2.2.1 x.1.2.2.2.1 x.1.2.2.2.2.1 x.1.2.2.2.2.2.1 x.2.1.1 x.2.1.2.1 x.2.1.2.2.1 x.2.1.2.2.2.1 x.2.1.2.2.2.2.1 x.2.1.2.2.2.2.2.1 x.2.1.2.2.2.2.2.2.1 x.2.1.2.2.2.2.2.2.2.1 x.2.1.2.2.2.2.2.2.2.2.1 x.2.1.2.2.2.2.2.2.2.2.2.1 x.2.1.2.2.2.2.2.2.2.2.2.2.1 x.2.2.1.1 x.2.2.1.2.1, ⟨fun k => by kernel_rfl, fun k y => by kernel_rfl, fun y => by kernel_rfl⟩⟩
    (fun k x => impl_TafOk_F k x.1.1.1 x.1.1.2.1 x.1.1.2.2.1 x.1.1.2.2.2.1 x.1.1.2.2.2.2.1 x.1.1.2.2.2.2.2.1 x.1.1.2.2.2.2.2.2.1 x.1.1.2.2.2.2.2.2.2.1 x.1.1.2.2.2.2.2.2.2.2.1 x.1.1.2.2.2.2.2.2.2.2.2.1 x.1.1.2.2.2.2.2.2.2.2.2.2.1) (fun x => rfl) (fun k x => by kernel_rfl)
-- loop.example/g00051/impl.Laid
noncomputable def i_impl_Laid : Shape := ⟨[(0, .agg [.int .i64, .int .i64, .int .i64, .str, .str, .int .i64]), (1, .agg [.int .i64, .int .i64, .int .i64, .str, .str, .int .i64])], []⟩
noncomputable def o_impl_Laid : Shape := ⟨[(0, .agg [.int .i64, .int .i64, .int .i64, .str, .str, .int .i64])], []⟩
noncomputable def impl_Laid (a0 : Int) (a1 : Int) (a2 : Int) (a3 : ByteArray) (a4 : ByteArray) (a5 : Int) (a6 : Int) (a7 : Int) (a8 : Int) (a9 : ByteArray) (a10 : ByteArray) (a11 : Int) : Option (Int × Int × Int × ByteArray × ByteArray × Int) :=
  (impl_SkyOk a0 a1 a2 a3 a4 a5).bind fun val => bif !val then some (0, 0, 0, bs [], bs [], 0) else (impl_SkyOk a6 a7 a8 a9 a10 a11).bind fun val => bif !val then some (0, 0, 0, bs [], bs [], 0) else (impl_said a6 a7 a8 a9 a10 a11).bind fun val => bif val.fst then bif val.snd.fst then bif val.snd.snd.fst then bif val.snd.snd.snd then some (a6, a7, a8, a9, a10, a11) else some (a6, a7, a8, a9, a4, a5) else bif val.snd.snd.snd then some (a6, a7, a8, a3, a10, a11) else some (a6, a7, a8, a3, a4, a5) else bif val.snd.snd.fst then bif val.snd.snd.snd then some (a6, a7, a2, a9, a10, a11) else some (a6, a7, a2, a9, a4, a5) else bif val.snd.snd.snd then some (a6, a7, a2, a3, a10, a11) else some (a6, a7, a2, a3, a4, a5) else bif val.snd.fst then bif val.snd.snd.fst then bif val.snd.snd.snd then some (a0, a1, a8, a9, a10, a11) else some (a0, a1, a8, a9, a4, a5) else bif val.snd.snd.snd then some (a0, a1, a8, a3, a10, a11) else some (a0, a1, a8, a3, a4, a5) else bif val.snd.snd.fst then bif val.snd.snd.snd then some (a0, a1, a2, a9, a10, a11) else some (a0, a1, a2, a9, a4, a5) else bif val.snd.snd.snd then some (a0, a1, a2, a3, a10, a11) else some (a0, a1, a2, a3, a4, a5)
noncomputable def g_impl_Laid : Sg := ⟨i_impl_Laid, o_impl_Laid, Int × Int × Int × ByteArray × ByteArray × Int, fun y => (((y.1, y.2.1, y.2.2.1, y.2.2.2.1, y.2.2.2.2.1, y.2.2.2.2.2, ()), ()), ()), fun x => impl_Laid x.1.1.1 x.1.1.2.1 x.1.1.2.2.1 x.1.1.2.2.2.1 x.1.1.2.2.2.2.1 x.1.1.2.2.2.2.2.1 x.1.2.1.1 x.1.2.1.2.1 x.1.2.1.2.2.1 x.1.2.1.2.2.2.1 x.1.2.1.2.2.2.2.1 x.1.2.1.2.2.2.2.2.1⟩
noncomputable def C_impl_Laid : Ctx := ⟨44, tiOf Tryd.prog, gl, sgOf [(85, g_impl_SkyOk), (86, g_impl_said)]⟩
noncomputable def r_impl_Laid : AExit → Env → Option (Int × Int × Int × ByteArray × ByteArray × Int) := retK C_impl_Laid 0 o_impl_Laid (fun y => (y.1.1.1, y.1.1.2.1, y.1.1.2.2.1, y.1.1.2.2.2.1, y.1.1.2.2.2.2.1, y.1.1.2.2.2.2.2.1)) Tryd.f64.results.toList
theorem e_impl_Laid : Sound Tryd.prog gl 64 g_impl_Laid :=
  sound_plain (C := C_impl_Laid) ⟨fun _ _ h => h, by kernel_rfl⟩ (sgOf_all' ⟨⟨by kernel_rfl, e_impl_SkyOk⟩, ⟨by kernel_rfl, e_impl_said⟩, trivial⟩) 64 Tryd.f64 g_impl_Laid (fun y => (y.1.1.1, y.1.1.2.1, y.1.1.2.2.1, y.1.1.2.2.2.1, y.1.1.2.2.2.2.1, y.1.1.2.2.2.2.2.1)) (by kernel_rfl) (by kernel_rfl) (by kernel_rfl) (by kernel_rfl) (by kernel_rfl) (by kernel_rfl) (fun _ => rfl) (fun x => by kernel_rfl)
-- loop.example/g00051/impl.StateAt
noncomputable def i_impl_StateAt : Shape := ⟨[(0, .agg [.str, .int .i64, .int .i64, .int .i64, .int .i64, .int .i64, .int .i64, .str, .str, .int .i64, .sl (.pair (.int .i64) (.pair (.int .i64) (.pair (.int .i64) (.pair (.int .i64) (.pair (.int .i64) (.pair (.int .i64) (.pair .str (.pair .str (.int .i64)))))))))]), (1, .c (.int .i64))], []⟩
noncomputable def o_impl_StateAt : Shape := ⟨[(0, .tup [(true, [.int .i64, .int .i64, .int .i64, .str, .str, .int .i64]), (false, [.ref 0]), (false, [.bool])])], [.lst 30 (.pair (.int .i64) (.pair (.int .i64) (.pair (.int .i64) (.pair .str (.pair .str (.int .i64))))))]⟩
noncomputable def s_impl_StateAt_5 : Shape := ⟨[(1, .c (.int .i64)), (2, .c (.ptr 0 0)), (4, .c (.ptr 1 0)), (7, .c (.ptr 2 0)), (34, .c (.sl (.pair (.int .i64) (.pair (.int .i64) (.pair (.int .i64) (.pair (.int .i64) (.pair (.int .i64) (.pair (.int .i64) (.pair .str (.pair .str (.int .i64))))))))))), (35, .c (.int .i64)), (36, .c (.int .i64))], [.box 37 [.str, .int .i64, .int .i64, .int .i64, .int .i64, .int .i64, .int .i64, .str, .str, .int .i64, .sl (.pair (.int .i64) (.pair (.int .i64) (.pair (.int .i64) (.pair (.int .i64) (.pair (.int .i64) (.pair (.int .i64) (.pair .str (.pair .str (.int .i64)))))))))], .box 30 [.int .i64, .int .i64, .int .i64, .str, .str, .int .i64], .box 30 [.int .i64, .int .i64, .int .i64, .str, .str, .int .i64]]⟩
noncomputable def s_impl_StateAt_14 : Shape := ⟨[(1, .c (.int .i64)), (4, .c (.ptr 0 0)), (7, .c (.ptr 1 0)), (10, .c (.ref 2)), (69, .c (.sl (.pair (.int .i64) (.pair (.int .i64) (.pair (.int .i64) (.pair (.int .i64) (.pair (.int .i64) (.pair (.int .i64) (.pair .str (.pair .str (.int .i64))))))))))), (70, .c (.int .i64)), (71, .c (.int .i64))], [.box 30 [.int .i64, .int .i64, .int .i64, .str, .str, .int .i64], .box 30 [.int .i64, .int .i64, .int .i64, .str, .str, .int .i64], .lst 30 (.pair (.int .i64) (.pair (.int .i64) (.pair (.int .i64) (.pair .str (.pair .str (.int .i64))))))]⟩
mutual
noncomputable def impl_StateAt_L5 : Nat → Int → (List (Int × Int × Int × Int × Int × Int × ByteArray × ByteArray × Int)) → Int → Int → ByteArray → Int → Int → Int → Int → Int → Int → ByteArray → ByteArray → Int → (List (Int × Int × Int × Int × Int × Int × ByteArray × ByteArray × Int)) → Int → Int → Int → ByteArray → ByteArray → Int → Int → Int → Int → ByteArray → ByteArray → Int → Option (Int × Int × Int × ByteArray × ByteArray × Int × Bool × (List (Int × Int × Int × ByteArray × ByteArray × Int)))
  | 0, _, _, _, _, _, _, _, _, _, _, _, _, _, _, _, _, _, _, _, _, _, _, _, _, _, _, _ => none
  | k + 1, a0, a1, a2, a3, a4, a5, a6, a7, a8, a9, a10, a11, a12, a13, a14, a15, a16, a17, a18, a19, a20, a21, a22, a23, a24, a25, a26 =>
  bif decide (a3 < a2) then
   bif decide (0 ≤ a3) then
    bif decide (a3 < (↑a1.length : Int)) then
     bif (rd K9_0 a1 a3).fst == 1 then
      bif decide ((rd K9_0 a1 a3).snd.fst ≤ a0) then
       impl_StateAt_L5 k a0 a1 a2 (IntKind.i64.wrap (a3 + 1)) a4 a5 a6 a7 a8 a9 a10 a11 a12 a13 a14 a15 a16 a17 a18 a19 a20 (rd K9_0 a1 a3).snd.snd.snd.fst (rd K9_0 a1 a3).snd.snd.snd.snd.fst (rd K9_0 a1 a3).snd.snd.snd.snd.snd.fst (rd K9_0 a1 a3).snd.snd.snd.snd.snd.snd.fst (rd K9_0 a1 a3).snd.snd.snd.snd.snd.snd.snd.fst
        (rd K9_0 a1 a3).snd.snd.snd.snd.snd.snd.snd.snd
      else
       bif (rd K9_0 a1 a3).fst == 2 then
        bif decide ((rd K9_0 a1 a3).snd.snd.fst ≤ a0) then
         (impl_Laid a21 a22 a23 a24 a25 a26 (rd K9_0 a1 a3).snd.snd.snd.fst (rd K9_0 a1 a3).snd.snd.snd.snd.fst (rd K9_0 a1 a3).snd.snd.snd.snd.snd.fst (rd K9_0 a1 a3).snd.snd.snd.snd.snd.snd.fst (rd K9_0 a1 a3).snd.snd.snd.snd.snd.snd.snd.fst
            (rd K9_0 a1 a3).snd.snd.snd.snd.snd.snd.snd.snd).bind
          fun val => impl_StateAt_L5 k a0 a1 a2 (IntKind.i64.wrap (a3 + 1)) a4 a5 a6 a7 a8 a9 a10 a11 a12 a13 a14 a15 a16 a17 a18 a19 a20 val.fst val.snd.fst val.snd.snd.fst val.snd.snd.snd.fst val.snd.snd.snd.snd.fst val.snd.snd.snd.snd.snd
        else impl_StateAt_L5 k a0 a1 a2 (IntKind.i64.wrap (a3 + 1)) a4 a5 a6 a7 a8 a9 a10 a11 a12 a13 a14 a15 a16 a17 a18 a19 a20 a21 a22 a23 a24 a25 a26
       else impl_StateAt_L5 k a0 a1 a2 (IntKind.i64.wrap (a3 + 1)) a4 a5 a6 a7 a8 a9 a10 a11 a12 a13 a14 a15 a16 a17 a18 a19 a20 a21 a22 a23 a24 a25 a26
     else
      bif (rd K9_0 a1 a3).fst == 2 then
       bif decide ((rd K9_0 a1 a3).snd.snd.fst ≤ a0) then
        (impl_Laid a21 a22 a23 a24 a25 a26 (rd K9_0 a1 a3).snd.snd.snd.fst (rd K9_0 a1 a3).snd.snd.snd.snd.fst (rd K9_0 a1 a3).snd.snd.snd.snd.snd.fst (rd K9_0 a1 a3).snd.snd.snd.snd.snd.snd.fst (rd K9_0 a1 a3).snd.snd.snd.snd.snd.snd.snd.fst
           (rd K9_0 a1 a3).snd.snd.snd.snd.snd.snd.snd.snd).bind
         fun val => impl_StateAt_L5 k a0 a1 a2 (IntKind.i64.wrap (a3 + 1)) a4 a5 a6 a7 a8 a9 a10 a11 a12 a13 a14 a15 a16 a17 a18 a19 a20 val.fst val.snd.fst val.snd.snd.fst val.snd.snd.snd.fst val.snd.snd.snd.snd.fst val.snd.snd.snd.snd.snd
       else impl_StateAt_L5 k a0 a1 a2 (IntKind.i64.wrap (a3 + 1)) a4 a5 a6 a7 a8 a9 a10 a11 a12 a13 a14 a15 a16 a17 a18 a19 a20 a21 a22 a23 a24 a25 a26
      else impl_StateAt_L5 k a0 a1 a2 (IntKind.i64.wrap (a3 + 1)) a4 a5 a6 a7 a8 a9 a10 a11 a12 a13 a14 a15 a16 a17 a18 a19 a20 a21 a22 a23 a24 a25 a26
    else none
   else none
  else impl_StateAt_L14 k a0 a14 (↑a14.length : Int) 0 a15 a16 a17 a18 a19 a20 a21 a22 a23 a24 a25 a26 []
noncomputable def impl_StateAt_L14 : Nat → Int → (List (Int × Int × Int × Int × Int × Int × ByteArray × ByteArray × Int)) → Int → Int → Int → Int → Int → ByteArray → ByteArray → Int → Int → Int → Int → ByteArray → ByteArray → Int → (List (Int × Int × Int × ByteArray × ByteArray × Int)) → Option (Int × Int × Int × ByteArray × ByteArray × Int × Bool × (List (Int × Int × Int × ByteArray × ByteArray × Int)))
  | 0, _, _, _, _, _, _, _, _, _, _, _, _, _, _, _, _, _ => none
  | k + 1, a0, a1, a2, a3, a4, a5, a6, a7, a8, a9, a10, a11, a12, a13, a14, a15, a16 =>
  bif decide (a3 < a2) then
   bif decide (0 ≤ a3) then
    bif decide (a3 < (↑a1.length : Int)) then
     bif (rd K9_0 a1 a3).fst != 1 then
      bif decide ((rd K9_0 a1 a3).snd.fst ≤ a0) then
       bif decide (a0 < (rd K9_0 a1 a3).snd.snd.fst) then
        (impl_Laid a10 a11 a12 a13 a14 a15 (rd K9_0 a1 a3).snd.snd.snd.fst (rd K9_0 a1 a3).snd.snd.snd.snd.fst (rd K9_0 a1 a3).snd.snd.snd.snd.snd.fst (rd K9_0 a1 a3).snd.snd.snd.snd.snd.snd.fst (rd K9_0 a1 a3).snd.snd.snd.snd.snd.snd.snd.fst
           (rd K9_0 a1 a3).snd.snd.snd.snd.snd.snd.snd.snd).bind
         fun val => bif decide (a16.length + [(val.fst, val.snd.fst, val.snd.snd.fst, val.snd.snd.snd.fst, val.snd.snd.snd.snd.fst, val.snd.snd.snd.snd.snd)].length ≤ maxBytes / 64) then impl_StateAt_L14 k a0 a1 a2 (IntKind.i64.wrap (a3 + 1)) a4 a5 a6 a7 a8 a9 a10 a11 a12 a13 a14 a15 (a16 ++ [(val.fst, val.snd.fst, val.snd.snd.fst, val.snd.snd.snd.fst, val.snd.snd.snd.snd.fst, val.snd.snd.snd.snd.snd)]) else none
       else impl_StateAt_L14 k a0 a1 a2 (IntKind.i64.wrap (a3 + 1)) a4 a5 a6 a7 a8 a9 a10 a11 a12 a13 a14 a15 a16
      else impl_StateAt_L14 k a0 a1 a2 (IntKind.i64.wrap (a3 + 1)) a4 a5 a6 a7 a8 a9 a10 a11 a12 a13 a14 a15 a16
     else impl_StateAt_L14 k a0 a1 a2 (IntKind.i64.wrap (a3 + 1)) a4 a5 a6 a7 a8 a9 a10 a11 a12 a13 a14 a15 a16
    else none
   else none
  else some (a10, a11, a12, a13, a14, a15, true, a16)
end
noncomputable def j_impl_StateAt : List (Nat × (Nat → Cut (Int × Int × Int × ByteArray × ByteArray × Int × Bool × (List (Int × Int × Int × ByteArray × ByteArray × Int))))) := [(5, fun k => ⟨s_impl_StateAt_5, fun x => impl_StateAt_L5 k x.1.1 x.1.2.2.2.2.1 x.1.2.2.2.2.2.1 x.1.2.2.2.2.2.2.1 x.2.1.1 x.2.1.2.1 x.2.1.2.2.1 x.2.1.2.2.2.1 x.2.1.2.2.2.2.1 x.2.1.2.2.2.2.2.1 x.2.1.2.2.2.2.2.2.1 x.2.1.2.2.2.2.2.2.2.1 x.2.1.2.2.2.2.2.2.2.2.1 x.2.1.2.2.2.2.2.2.2.2.2.1 x.2.1.2.2.2.2.2.2.2.2.2.2.1 x.2.2.1.1 x.2.2.1.2.1 x.2.2.1.2.2.1 x.2.2.1.2.2.2.1 x.2.2.1.2.2.2.2.1 x.2.2.1.2.2.2.2.2.1 x.2.2.2.1.1 x.2.2.2.1.2.1 x.2.2.2.1.2.2.1 x.2.2.2.1.2.2.2.1 x.2.2.2.1.2.2.2.2.1 x.2.2.2.1.2.2.2.2.2.1⟩), (14, fun k => ⟨s_impl_StateAt_14, fun x => impl_StateAt_L14 k x.1.1 x.1.2.2.2.2.1 x.1.2.2.2.2.2.1 x.1.2.2.2.2.2.2.1 x.2.1.1 x.2.1.2.1 x.2.1.2.2.1 x.2.1.2.2.2.1 x.2.1.2.2.2.2.1 x.2.1.2.2.2.2.2.1 x.2.2.1.1 x.2.2.1.2.1 x.2.2.1.2.2.1 x.2.2.1.2.2.2.1 x.2.2.1.2.2.2.2.1 x.2.2.1.2.2.2.2.2.1 x.2.2.2.1⟩)]
noncomputable def impl_StateAt_F (k : Nat) (a0 : ByteArray) (a1 : Int) (a2 : Int) (a3 : Int) (a4 : Int) (a5 : Int) (a6 : Int) (a7 : ByteArray) (a8 : ByteArray) (a9 : Int) (a10 : List (Int × Int × Int × Int × Int × Int × ByteArray × ByteArray × Int)) (a11 : Int) : Option (Int × Int × Int × ByteArray × ByteArray × Int × Bool × (List (Int × Int × Int × ByteArray × ByteArray × Int))) :=
  (impl_TafOk a0 a1 a2 a3 a4 a5 a6 a7 a8 a9 a10).bind fun val => bif !val then some (0, 0, 0, bs [], bs [], 0, false, []) else bif decide (a11 < a2) then some (0, 0, 0, bs [], bs [], 0, false, []) else bif decide (a11 ≥ a3) then some (0, 0, 0, bs [], bs [], 0, false, []) else impl_StateAt_L5 k a11 a10 (↑a10.length : Int) 0 a0 a1 a2 a3 a4 a5 a6 a7 a8 a9 a10 0 0 0 (bs []) (bs []) 0 a4 a5 a6 a7 a8 a9
noncomputable def impl_StateAt (a0 : ByteArray) (a1 : Int) (a2 : Int) (a3 : Int) (a4 : Int) (a5 : Int) (a6 : Int) (a7 : ByteArray) (a8 : ByteArray) (a9 : Int) (a10 : List (Int × Int × Int × Int × Int × Int × ByteArray × ByteArray × Int)) (a11 : Int) : Option (Int × Int × Int × ByteArray × ByteArray × Int × Bool × (List (Int × Int × Int × ByteArray × ByteArray × Int))) := evF fun k => impl_StateAt_F k a0 a1 a2 a3 a4 a5 a6 a7 a8 a9 a10 a11
noncomputable def g_impl_StateAt : Sg := ⟨i_impl_StateAt, o_impl_StateAt, Int × Int × Int × ByteArray × ByteArray × Int × Bool × (List (Int × Int × Int × ByteArray × ByteArray × Int)), fun y => ((((y.1, y.2.1, y.2.2.1, y.2.2.2.1, y.2.2.2.2.1, y.2.2.2.2.2.1, ()), ((), ()), (y.2.2.2.2.2.2.1, ()), ()), ()), (y.2.2.2.2.2.2.2, ())), fun x => impl_StateAt x.1.1.1 x.1.1.2.1 x.1.1.2.2.1 x.1.1.2.2.2.1 x.1.1.2.2.2.2.1 x.1.1.2.2.2.2.2.1 x.1.1.2.2.2.2.2.2.1 x.1.1.2.2.2.2.2.2.2.1 x.1.1.2.2.2.2.2.2.2.2.1 x.1.1.2.2.2.2.2.2.2.2.2.1 x.1.1.2.2.2.2.2.2.2.2.2.2.1 x.1.2.1⟩
noncomputable def C_impl_StateAt : Ctx := ⟨100, tiOf Tryd.prog, gl, sgOf [(63, g_impl_TafOk), (64, g_impl_Laid)]⟩
noncomputable def r_impl_StateAt : AExit → Env → Option (Int × Int × Int × ByteArray × ByteArray × Int × Bool × (List (Int × Int × Int × ByteArray × ByteArray × Int))) := retK C_impl_StateAt 0 o_impl_StateAt (fun y => (y.1.1.1.1, y.1.1.1.2.1, y.1.1.1.2.2.1, y.1.1.1.2.2.2.1, y.1.1.1.2.2.2.2.1, y.1.1.1.2.2.2.2.2.1, y.1.1.2.2.1.1, y.2.1)) Tryd.f17.results.toList
theorem e_impl_StateAt : Sound Tryd.prog gl 17 g_impl_StateAt :=
  sound_cuts (C := C_impl_StateAt) ⟨fun _ _ h => h, by kernel_rfl⟩ (sgOf_all' ⟨⟨by kernel_rfl, e_impl_TafOk⟩, ⟨by kernel_rfl, e_impl_Laid⟩, trivial⟩) 17 Tryd.f17 g_impl_StateAt (fun y => (y.1.1.1.1, y.1.1.1.2.1, y.1.1.1.2.2.1, y.1.1.1.2.2.2.1, y.1.1.1.2.2.2.2.1, y.1.1.1.2.2.2.2.2.1, y.1.1.2.2.1.1, y.2.1)) j_impl_StateAt 2 (by kernel_rfl) (by kernel_rfl) (by kernel_rfl) (by kernel_rfl) (by kernel_rfl) (by kernel_rfl) (fun _ => rfl) (by kernel_rfl) (by kernel_rfl)
    ⟨⟨trivial, s_impl_StateAt_5, fun k x => impl_StateAt_L5 k x.1.1 x.1.2.2.2.2.1 x.1.2.2.2.2.2.1 x.1.2.2.2.2.2.2.1 x.2.1.1 x.2.1.2.1 x.2.1.2.2.1 x.2.1.2.2.2.1 x.2.1.2.2.2.2.1 x.2.1.2.2.2.2.2.1 x.2.1.2.2.2.2.2.2.1 x.2.1.2.2.2.2.2.2.2.1 x.2.1.2.2.2.2.2.2.2.2.1 x.2.1.2.2.2.2.2.2.2.2.2.1 x.2.1.2.2.2.2.2.2.2.2.2.2.1 x.2.2.1.1 x.2.2.1.2.1 x.2.2.1.2.2.1 x.2.2.1.2.2.2.1 x.2.2.1.2.2.2.2.1 x.2.2.1.2.2.2.2.2.1 x.2.2.2.1.1 x.2.2.2.1.2.1 x.2.2.2.1.2.2.1 x.2.2.2.1.2.2.2.1 x.2.2.2.1.2.2.2.2.1 x.2.2.2.1.2.2.2.2.2.1, ⟨fun k => by kernel_rfl, fun k y => by kernel_rfl, fun y => by kernel_rfl⟩⟩, s_impl_StateAt_14, fun k x => impl_StateAt_L14 k x.1.1 x.1.2.2.2.2.1 x.1.2.2.2.2.2.1 x.1.2.2.2.2.2.2.1 x.2.1.1 x.2.1.2.1 x.2.1.2.2.1 x.2.1.2.2.2.1 x.2.1.2.2.2.2.1 x.2.1.2.2.2.2.2.1 x.2.2.1.1 x.2.2.1.2.1 x.2.2.1.2.2.1 x.2.2.1.2.2.2.1 x.2.2.1.2.2.2.2.1 x.2.2.1.2.2.2.2.2.1 x.2.2.2.1, ⟨fun k => by kernel_rfl, fun k y => by kernel_rfl, fun y => by kernel_rfl⟩⟩
    (fun k x => impl_StateAt_F k x.1.1.1 x.1.1.2.1 x.1.1.2.2.1 x.1.1.2.2.2.1 x.1.1.2.2.2.2.1 x.1.1.2.2.2.2.2.1 x.1.1.2.2.2.2.2.2.1 x.1.1.2.2.2.2.2.2.2.1 x.1.1.2.2.2.2.2.2.2.2.1 x.1.1.2.2.2.2.2.2.2.2.2.1 x.1.1.2.2.2.2.2.2.2.2.2.2.1 x.1.2.1) (fun x => rfl) (fun k x => by kernel_rfl)
-- loop.example/g00051/laws.eqSky
noncomputable def i_laws_eqSky : Shape := ⟨[(0, .agg [.int .i64, .int .i64, .int .i64, .str, .str, .int .i64]), (1, .agg [.int .i64, .int .i64, .int .i64, .str, .str, .int .i64])], []⟩
noncomputable def o_laws_eqSky : Shape := ⟨[(0, .c (.bool))], []⟩
noncomputable def laws_eqSky (a0 : Int) (a1 : Int) (a2 : Int) (a3 : ByteArray) (a4 : ByteArray) (a5 : Int) (a6 : Int) (a7 : Int) (a8 : Int) (a9 : ByteArray) (a10 : ByteArray) (a11 : Int) : Option (Bool) :=
  bif a0 != a6 then some false else bif a1 != a7 then some false else bif a2 != a8 then some false else bif !a3.toList == a9.toList then some false else bif !a4.toList == a10.toList then some false else bif a5 != a11 then some false else some true
noncomputable def g_laws_eqSky : Sg := ⟨i_laws_eqSky, o_laws_eqSky, Bool, fun y => ((y, ()), ()), fun x => laws_eqSky x.1.1.1 x.1.1.2.1 x.1.1.2.2.1 x.1.1.2.2.2.1 x.1.1.2.2.2.2.1 x.1.1.2.2.2.2.2.1 x.1.2.1.1 x.1.2.1.2.1 x.1.2.1.2.2.1 x.1.2.1.2.2.2.1 x.1.2.1.2.2.2.2.1 x.1.2.1.2.2.2.2.2.1⟩
noncomputable def C_laws_eqSky : Ctx := ⟨35, tiOf Tryd.prog, gl, sgOf []⟩
noncomputable def r_laws_eqSky : AExit → Env → Option (Bool) := retK C_laws_eqSky 0 o_laws_eqSky (fun y => y.1.1) Tryd.f18.results.toList
theorem e_laws_eqSky : Sound Tryd.prog gl 18 g_laws_eqSky :=
  sound_plain (C := C_laws_eqSky) ⟨fun _ _ h => h, by kernel_rfl⟩ (sgOf_all' trivial) 18 Tryd.f18 g_laws_eqSky (fun y => y.1.1) (by kernel_rfl) (by kernel_rfl) (by kernel_rfl) (by kernel_rfl) (by kernel_rfl) (by kernel_rfl) (fun _ => rfl) (fun x => by kernel_rfl)
-- loop.example/g00051/laws.eqSkyS
noncomputable def i_laws_eqSkyS : Shape := ⟨[(0, .c (.sl (.pair (.int .i64) (.pair (.int .i64) (.pair (.int .i64) (.pair .str (.pair .str (.int .i64)))))))), (1, .c (.sl (.pair (.int .i64) (.pair (.int .i64) (.pair (.int .i64) (.pair .str (.pair .str (.int .i64))))))))], []⟩
noncomputable def o_laws_eqSkyS : Shape := ⟨[(0, .c (.bool))], []⟩
noncomputable def s_laws_eqSkyS_4 : Shape := ⟨[(0, .c (.sl (.pair (.int .i64) (.pair (.int .i64) (.pair (.int .i64) (.pair .str (.pair .str (.int .i64)))))))), (1, .c (.sl (.pair (.int .i64) (.pair (.int .i64) (.pair (.int .i64) (.pair .str (.pair .str (.int .i64)))))))), (5, .c (.int .i64))], []⟩
noncomputable def laws_eqSkyS_L4 : Nat → (List (Int × Int × Int × ByteArray × ByteArray × Int)) → (List (Int × Int × Int × ByteArray × ByteArray × Int)) → Int → Option (Bool)
  | 0, _, _, _ => none
  | k + 1, a0, a1, a2 =>
  bif decide (a2 < (↑a0.length : Int)) then
   bif decide (0 ≤ a2) then
    bif decide (a2 < (↑a0.length : Int)) then
     bif decide (0 ≤ a2) then
      bif decide (a2 < (↑a1.length : Int)) then
       (laws_eqSky (rd K6_1 a0 a2).fst (rd K6_1 a0 a2).snd.fst (rd K6_1 a0 a2).snd.snd.fst (rd K6_1 a0 a2).snd.snd.snd.fst (rd K6_1 a0 a2).snd.snd.snd.snd.fst (rd K6_1 a0 a2).snd.snd.snd.snd.snd (rd K6_1 a1 a2).fst (rd K6_1 a1 a2).snd.fst
          (rd K6_1 a1 a2).snd.snd.fst (rd K6_1 a1 a2).snd.snd.snd.fst (rd K6_1 a1 a2).snd.snd.snd.snd.fst (rd K6_1 a1 a2).snd.snd.snd.snd.snd).bind
        fun val => bif !val then some false else laws_eqSkyS_L4 k a0 a1 (IntKind.i64.wrap (a2 + 1))
      else none
     else none
    else none
   else none
  else some true
noncomputable def j_laws_eqSkyS : List (Nat × (Nat → Cut (Bool))) := [(4, fun k => ⟨s_laws_eqSkyS_4, fun x => laws_eqSkyS_L4 k x.1.1 x.1.2.1 x.1.2.2.1⟩)]
noncomputable def laws_eqSkyS_F (k : Nat) (a0 : List (Int × Int × Int × ByteArray × ByteArray × Int)) (a1 : List (Int × Int × Int × ByteArray × ByteArray × Int)) : Option (Bool) :=
  bif (↑a0.length : Int) != (↑a1.length : Int) then some false else laws_eqSkyS_L4 k a0 a1 0
noncomputable def laws_eqSkyS (a0 : List (Int × Int × Int × ByteArray × ByteArray × Int)) (a1 : List (Int × Int × Int × ByteArray × ByteArray × Int)) : Option (Bool) := evF fun k => laws_eqSkyS_F k a0 a1
noncomputable def g_laws_eqSkyS : Sg := ⟨i_laws_eqSkyS, o_laws_eqSkyS, Bool, fun y => ((y, ()), ()), fun x => laws_eqSkyS x.1.1 x.1.2.1⟩
noncomputable def C_laws_eqSkyS : Ctx := ⟨27, tiOf Tryd.prog, gl, sgOf [(18, g_laws_eqSky)]⟩
noncomputable def r_laws_eqSkyS : AExit → Env → Option (Bool) := retK C_laws_eqSkyS 0 o_laws_eqSkyS (fun y => y.1.1) Tryd.f19.results.toList
theorem e_laws_eqSkyS : Sound Tryd.prog gl 19 g_laws_eqSkyS :=
  sound_cuts (C := C_laws_eqSkyS) ⟨fun _ _ h => h, by kernel_rfl⟩ (sgOf_all' ⟨⟨by kernel_rfl, e_laws_eqSky⟩, trivial⟩) 19 Tryd.f19 g_laws_eqSkyS (fun y => y.1.1) j_laws_eqSkyS 1 (by kernel_rfl) (by kernel_rfl) (by kernel_rfl) (by kernel_rfl) (by kernel_rfl) (by kernel_rfl) (fun _ => rfl) (by kernel_rfl) (by kernel_rfl)
    ⟨trivial, s_laws_eqSkyS_4, fun k x => laws_eqSkyS_L4 k x.1.1 x.1.2.1 x.1.2.2.1, ⟨fun k => by kernel_rfl, fun k y => by kernel_rfl, fun y => by kernel_rfl⟩⟩
    (fun k x => laws_eqSkyS_F k x.1.1 x.1.2.1) (fun x => rfl) (fun k x => by kernel_rfl)
-- loop.example/g00051/laws.eqSpan
noncomputable def i_laws_eqSpan : Shape := ⟨[(0, .agg [.int .i64, .int .i64]), (1, .agg [.int .i64, .int .i64])], []⟩
noncomputable def o_laws_eqSpan : Shape := ⟨[(0, .c (.bool))], []⟩
noncomputable def laws_eqSpan (a0 : Int) (a1 : Int) (a2 : Int) (a3 : Int) : Option (Bool) :=
  bif a0 != a2 then some false else bif a1 != a3 then some false else some true
noncomputable def g_laws_eqSpan : Sg := ⟨i_laws_eqSpan, o_laws_eqSpan, Bool, fun y => ((y, ()), ()), fun x => laws_eqSpan x.1.1.1 x.1.1.2.1 x.1.2.1.1 x.1.2.1.2.1⟩
noncomputable def C_laws_eqSpan : Ctx := ⟨15, tiOf Tryd.prog, gl, sgOf []⟩
noncomputable def r_laws_eqSpan : AExit → Env → Option (Bool) := retK C_laws_eqSpan 0 o_laws_eqSpan (fun y => y.1.1) Tryd.f65.results.toList
theorem e_laws_eqSpan : Sound Tryd.prog gl 65 g_laws_eqSpan :=
  sound_plain (C := C_laws_eqSpan) ⟨fun _ _ h => h, by kernel_rfl⟩ (sgOf_all' trivial) 65 Tryd.f65 g_laws_eqSpan (fun y => y.1.1) (by kernel_rfl) (by kernel_rfl) (by kernel_rfl) (by kernel_rfl) (by kernel_rfl) (by kernel_rfl) (fun _ => rfl) (fun x => by kernel_rfl)
-- loop.example/g00051/laws.eqChange
noncomputable def i_laws_eqChange : Shape := ⟨[(0, .agg [.int .i64, .int .i64, .int .i64, .int .i64, .int .i64, .int .i64, .str, .str, .int .i64]), (1, .agg [.int .i64, .int .i64, .int .i64, .int .i64, .int .i64, .int .i64, .str, .str, .int .i64])], []⟩
noncomputable def o_laws_eqChange : Shape := ⟨[(0, .c (.bool))], []⟩
noncomputable def laws_eqChange (a0 : Int) (a1 : Int) (a2 : Int) (a3 : Int) (a4 : Int) (a5 : Int) (a6 : ByteArray) (a7 : ByteArray) (a8 : Int) (a9 : Int) (a10 : Int) (a11 : Int) (a12 : Int) (a13 : Int) (a14 : Int) (a15 : ByteArray) (a16 : ByteArray) (a17 : Int) : Option (Bool) :=
  bif a0 != a9 then some false else bif a1 != a10 then some false else bif a2 != a11 then some false else (laws_eqSky a3 a4 a5 a6 a7 a8 a12 a13 a14 a15 a16 a17).bind fun val => bif !val then some false else some true
noncomputable def g_laws_eqChange : Sg := ⟨i_laws_eqChange, o_laws_eqChange, Bool, fun y => ((y, ()), ()), fun x => laws_eqChange x.1.1.1 x.1.1.2.1 x.1.1.2.2.1 x.1.1.2.2.2.1 x.1.1.2.2.2.2.1 x.1.1.2.2.2.2.2.1 x.1.1.2.2.2.2.2.2.1 x.1.1.2.2.2.2.2.2.2.1 x.1.1.2.2.2.2.2.2.2.2.1 x.1.2.1.1 x.1.2.1.2.1 x.1.2.1.2.2.1 x.1.2.1.2.2.2.1 x.1.2.1.2.2.2.2.1 x.1.2.1.2.2.2.2.2.1 x.1.2.1.2.2.2.2.2.2.1 x.1.2.1.2.2.2.2.2.2.2.1 x.1.2.1.2.2.2.2.2.2.2.2.1⟩
noncomputable def C_laws_eqChange : Ctx := ⟨26, tiOf Tryd.prog, gl, sgOf [(18, g_laws_eqSky)]⟩
noncomputable def r_laws_eqChange : AExit → Env → Option (Bool) := retK C_laws_eqChange 0 o_laws_eqChange (fun y => y.1.1) Tryd.f127.results.toList
theorem e_laws_eqChange : Sound Tryd.prog gl 127 g_laws_eqChange :=
  sound_plain (C := C_laws_eqChange) ⟨fun _ _ h => h, by kernel_rfl⟩ (sgOf_all' ⟨⟨by kernel_rfl, e_laws_eqSky⟩, trivial⟩) 127 Tryd.f127 g_laws_eqChange (fun y => y.1.1) (by kernel_rfl) (by kernel_rfl) (by kernel_rfl) (by kernel_rfl) (by kernel_rfl) (by kernel_rfl) (fun _ => rfl) (fun x => by kernel_rfl)
-- loop.example/g00051/laws.eqChangeS
noncomputable def i_laws_eqChangeS : Shape := ⟨[(0, .c (.sl (.pair (.int .i64) (.pair (.int .i64) (.pair (.int .i64) (.pair (.int .i64) (.pair (.int .i64) (.pair (.int .i64) (.pair .str (.pair .str (.int .i64))))))))))), (1, .c (.sl (.pair (.int .i64) (.pair (.int .i64) (.pair (.int .i64) (.pair (.int .i64) (.pair (.int .i64) (.pair (.int .i64) (.pair .str (.pair .str (.int .i64)))))))))))], []⟩
noncomputable def o_laws_eqChangeS : Shape := ⟨[(0, .c (.bool))], []⟩
noncomputable def s_laws_eqChangeS_4 : Shape := ⟨[(0, .c (.sl (.pair (.int .i64) (.pair (.int .i64) (.pair (.int .i64) (.pair (.int .i64) (.pair (.int .i64) (.pair (.int .i64) (.pair .str (.pair .str (.int .i64))))))))))), (1, .c (.sl (.pair (.int .i64) (.pair (.int .i64) (.pair (.int .i64) (.pair (.int .i64) (.pair (.int .i64) (.pair (.int .i64) (.pair .str (.pair .str (.int .i64))))))))))), (5, .c (.int .i64))], []⟩
noncomputable def laws_eqChangeS_L4 : Nat → (List (Int × Int × Int × Int × Int × Int × ByteArray × ByteArray × Int)) → (List (Int × Int × Int × Int × Int × Int × ByteArray × ByteArray × Int)) → Int → Option (Bool)
  | 0, _, _, _ => none
  | k + 1, a0, a1, a2 =>
  bif decide (a2 < (↑a0.length : Int)) then
   bif decide (0 ≤ a2) then
    bif decide (a2 < (↑a0.length : Int)) then
     bif decide (0 ≤ a2) then
      bif decide (a2 < (↑a1.length : Int)) then
       (laws_eqChange (rd K9_0 a0 a2).fst (rd K9_0 a0 a2).snd.fst (rd K9_0 a0 a2).snd.snd.fst (rd K9_0 a0 a2).snd.snd.snd.fst (rd K9_0 a0 a2).snd.snd.snd.snd.fst
          (rd K9_0 a0 a2).snd.snd.snd.snd.snd.fst (rd K9_0 a0 a2).snd.snd.snd.snd.snd.snd.fst (rd K9_0 a0 a2).snd.snd.snd.snd.snd.snd.snd.fst (rd K9_0 a0 a2).snd.snd.snd.snd.snd.snd.snd.snd (rd K9_0 a1 a2).fst
          (rd K9_0 a1 a2).snd.fst (rd K9_0 a1 a2).snd.snd.fst (rd K9_0 a1 a2).snd.snd.snd.fst (rd K9_0 a1 a2).snd.snd.snd.snd.fst (rd K9_0 a1 a2).snd.snd.snd.snd.snd.fst
          (rd K9_0 a1 a2).snd.snd.snd.snd.snd.snd.fst (rd K9_0 a1 a2).snd.snd.snd.snd.snd.snd.snd.fst (rd K9_0 a1 a2).snd.snd.snd.snd.snd.snd.snd.snd).bind
        fun val => bif !val then some false else laws_eqChangeS_L4 k a0 a1 (IntKind.i64.wrap (a2 + 1))
      else none
     else none
    else none
   else none
  else some true
noncomputable def j_laws_eqChangeS : List (Nat × (Nat → Cut (Bool))) := [(4, fun k => ⟨s_laws_eqChangeS_4, fun x => laws_eqChangeS_L4 k x.1.1 x.1.2.1 x.1.2.2.1⟩)]
noncomputable def laws_eqChangeS_F (k : Nat) (a0 : List (Int × Int × Int × Int × Int × Int × ByteArray × ByteArray × Int)) (a1 : List (Int × Int × Int × Int × Int × Int × ByteArray × ByteArray × Int)) : Option (Bool) :=
  bif (↑a0.length : Int) != (↑a1.length : Int) then some false else laws_eqChangeS_L4 k a0 a1 0
noncomputable def laws_eqChangeS (a0 : List (Int × Int × Int × Int × Int × Int × ByteArray × ByteArray × Int)) (a1 : List (Int × Int × Int × Int × Int × Int × ByteArray × ByteArray × Int)) : Option (Bool) := evF fun k => laws_eqChangeS_F k a0 a1
noncomputable def g_laws_eqChangeS : Sg := ⟨i_laws_eqChangeS, o_laws_eqChangeS, Bool, fun y => ((y, ()), ()), fun x => laws_eqChangeS x.1.1 x.1.2.1⟩
noncomputable def C_laws_eqChangeS : Ctx := ⟨27, tiOf Tryd.prog, gl, sgOf [(127, g_laws_eqChange)]⟩
noncomputable def r_laws_eqChangeS : AExit → Env → Option (Bool) := retK C_laws_eqChangeS 0 o_laws_eqChangeS (fun y => y.1.1) Tryd.f66.results.toList
theorem e_laws_eqChangeS : Sound Tryd.prog gl 66 g_laws_eqChangeS :=
  sound_cuts (C := C_laws_eqChangeS) ⟨fun _ _ h => h, by kernel_rfl⟩ (sgOf_all' ⟨⟨by kernel_rfl, e_laws_eqChange⟩, trivial⟩) 66 Tryd.f66 g_laws_eqChangeS (fun y => y.1.1) j_laws_eqChangeS 1 (by kernel_rfl) (by kernel_rfl) (by kernel_rfl) (by kernel_rfl) (by kernel_rfl) (by kernel_rfl) (fun _ => rfl) (by kernel_rfl) (by kernel_rfl)
    ⟨trivial, s_laws_eqChangeS_4, fun k x => laws_eqChangeS_L4 k x.1.1 x.1.2.1 x.1.2.2.1, ⟨fun k => by kernel_rfl, fun k y => by kernel_rfl, fun y => by kernel_rfl⟩⟩
    (fun k x => laws_eqChangeS_F k x.1.1 x.1.2.1) (fun x => rfl) (fun k x => by kernel_rfl)
-- loop.example/g00051/laws.eqTaf
noncomputable def i_laws_eqTaf : Shape := ⟨[(0, .agg [.str, .int .i64, .int .i64, .int .i64, .int .i64, .int .i64, .int .i64, .str, .str, .int .i64, .sl (.pair (.int .i64) (.pair (.int .i64) (.pair (.int .i64) (.pair (.int .i64) (.pair (.int .i64) (.pair (.int .i64) (.pair .str (.pair .str (.int .i64)))))))))]), (1, .agg [.str, .int .i64, .int .i64, .int .i64, .int .i64, .int .i64, .int .i64, .str, .str, .int .i64, .sl (.pair (.int .i64) (.pair (.int .i64) (.pair (.int .i64) (.pair (.int .i64) (.pair (.int .i64) (.pair (.int .i64) (.pair .str (.pair .str (.int .i64)))))))))])], []⟩
noncomputable def o_laws_eqTaf : Shape := ⟨[(0, .c (.bool))], []⟩
noncomputable def laws_eqTaf (a0 : ByteArray) (a1 : Int) (a2 : Int) (a3 : Int) (a4 : Int) (a5 : Int) (a6 : Int) (a7 : ByteArray) (a8 : ByteArray) (a9 : Int) (a10 : List (Int × Int × Int × Int × Int × Int × ByteArray × ByteArray × Int)) (a11 : ByteArray) (a12 : Int) (a13 : Int) (a14 : Int) (a15 : Int) (a16 : Int) (a17 : Int) (a18 : ByteArray) (a19 : ByteArray) (a20 : Int) (a21 : List (Int × Int × Int × Int × Int × Int × ByteArray × ByteArray × Int)) : Option (Bool) :=
  bif !a0.toList == a11.toList then some false else bif a1 != a12 then some false else (laws_eqSpan a2 a3 a13 a14).bind fun val => bif !val then some false else (laws_eqSky a4 a5 a6 a7 a8 a9 a15 a16 a17 a18 a19 a20).bind fun val => bif !val then some false else (laws_eqChangeS a10 a21).bind fun val => bif !val then some false else some true
noncomputable def g_laws_eqTaf : Sg := ⟨i_laws_eqTaf, o_laws_eqTaf, Bool, fun y => ((y, ()), ()), fun x => laws_eqTaf x.1.1.1 x.1.1.2.1 x.1.1.2.2.1 x.1.1.2.2.2.1 x.1.1.2.2.2.2.1 x.1.1.2.2.2.2.2.1 x.1.1.2.2.2.2.2.2.1 x.1.1.2.2.2.2.2.2.2.1 x.1.1.2.2.2.2.2.2.2.2.1 x.1.1.2.2.2.2.2.2.2.2.2.1 x.1.1.2.2.2.2.2.2.2.2.2.2.1 x.1.2.1.1 x.1.2.1.2.1 x.1.2.1.2.2.1 x.1.2.1.2.2.2.1 x.1.2.1.2.2.2.2.1 x.1.2.1.2.2.2.2.2.1 x.1.2.1.2.2.2.2.2.2.1 x.1.2.1.2.2.2.2.2.2.2.1 x.1.2.1.2.2.2.2.2.2.2.2.1 x.1.2.1.2.2.2.2.2.2.2.2.2.1 x.1.2.1.2.2.2.2.2.2.2.2.2.2.1⟩
noncomputable def C_laws_eqTaf : Ctx := ⟨33, tiOf Tryd.prog, gl, sgOf [(65, g_laws_eqSpan), (18, g_laws_eqSky), (66, g_laws_eqChangeS)]⟩
noncomputable def r_laws_eqTaf : AExit → Env → Option (Bool) := retK C_laws_eqTaf 0 o_laws_eqTaf (fun y => y.1.1) Tryd.f20.results.toList
theorem e_laws_eqTaf : Sound Tryd.prog gl 20 g_laws_eqTaf :=
  sound_plain (C := C_laws_eqTaf) ⟨fun _ _ h => h, by kernel_rfl⟩ (sgOf_all' ⟨⟨by kernel_rfl, e_laws_eqSpan⟩, ⟨by kernel_rfl, e_laws_eqSky⟩, ⟨by kernel_rfl, e_laws_eqChangeS⟩, trivial⟩) 20 Tryd.f20 g_laws_eqTaf (fun y => y.1.1) (by kernel_rfl) (by kernel_rfl) (by kernel_rfl) (by kernel_rfl) (by kernel_rfl) (by kernel_rfl) (fun _ => rfl) (fun x => by kernel_rfl)
-- loop.example/g00051/laws.markText
noncomputable def i_laws_markText : Shape := ⟨[(0, .c (.int .i64))], []⟩
noncomputable def o_laws_markText : Shape := ⟨[(0, .c (.str))], []⟩
noncomputable def s_laws_markText_4 : Shape := ⟨[(0, .c (.int .i64)), (3, .c (.str))], []⟩
noncomputable def laws_markText_L4 : Nat → Int → ByteArray → Option (ByteArray)
  | 0, _, _ => none
  | k + 1, a0, a1 =>
  bif decide (a0 > 0) then bif decide ((bytesOf [IntKind.u8.wrap (IntKind.i64.wrap (48 + a0.tmod 10))]).size + a1.size ≤ 9223372036854775807) then laws_markText_L4 k (IntKind.i64.wrap (a0.tdiv 10)) (bytesOf [IntKind.u8.wrap (IntKind.i64.wrap (48 + a0.tmod 10))] ++ a1) else none else bif decide ((bs [109]).size + a1.size ≤ 9223372036854775807) then some (bs [109] ++ a1) else none
noncomputable def j_laws_markText : List (Nat × (Nat → Cut (ByteArray))) := [(4, fun k => ⟨s_laws_markText_4, fun x => laws_markText_L4 k x.1.1 x.1.2.1⟩)]
noncomputable def laws_markText_F (k : Nat) (a0 : Int) : Option (ByteArray) :=
  bif decide (a0 ≤ 0) then some (bs [109, 48]) else laws_markText_L4 k a0 (bs [])
noncomputable def laws_markText (a0 : Int) : Option (ByteArray) := evF fun k => laws_markText_F k a0
noncomputable def g_laws_markText : Sg := ⟨i_laws_markText, o_laws_markText, ByteArray, fun y => ((y, ()), ()), fun x => laws_markText x.1.1⟩
noncomputable def C_laws_markText : Ctx := ⟨20, tiOf Tryd.prog, gl, sgOf []⟩
noncomputable def r_laws_markText : AExit → Env → Option (ByteArray) := retK C_laws_markText 0 o_laws_markText (fun y => y.1.1) Tryd.f68.results.toList
theorem e_laws_markText : Sound Tryd.prog gl 68 g_laws_markText :=
  sound_cuts (C := C_laws_markText) ⟨fun _ _ h => h, by kernel_rfl⟩ (sgOf_all' trivial) 68 Tryd.f68 g_laws_markText (fun y => y.1.1) j_laws_markText 1 (by kernel_rfl) (by kernel_rfl) (by kernel_rfl) (by kernel_rfl) (by kernel_rfl) (by kernel_rfl) (fun _ => rfl) (by kernel_rfl) (by kernel_rfl)
    ⟨trivial, s_laws_markText_4, fun k x => laws_markText_L4 k x.1.1 x.1.2.1, ⟨fun k => by kernel_rfl, fun k y => by kernel_rfl, fun y => by kernel_rfl⟩⟩
    (fun k x => laws_markText_F k x.1.1) (fun x => rfl) (fun k x => by kernel_rfl)
-- loop.example/g00051/laws.markChangeS
noncomputable def i_laws_markChangeS : Shape := ⟨[(0, .c (.ref 0)), (1, .c (.int .i64))], [.lst 90 (.pair (.int .i64) (.pair (.int .i64) (.pair (.int .i64) (.pair (.int .i64) (.pair (.int .i64) (.pair (.int .i64) (.pair .str (.pair .str (.int .i64)))))))))]⟩
noncomputable def o_laws_markChangeS : Shape := ⟨[(0, .c (.int .i64))], [.lst 90 (.pair (.int .i64) (.pair (.int .i64) (.pair (.int .i64) (.pair (.int .i64) (.pair (.int .i64) (.pair (.int .i64) (.pair .str (.pair .str (.int .i64)))))))))]⟩
noncomputable def s_laws_markChangeS_2 : Shape := ⟨[(0, .c (.ref 0)), (1, .c (.int .i64)), (5, .c (.int .i64))], [.lst 90 (.pair (.int .i64) (.pair (.int .i64) (.pair (.int .i64) (.pair (.int .i64) (.pair (.int .i64) (.pair (.int .i64) (.pair .str (.pair .str (.int .i64)))))))))]⟩
noncomputable def laws_markChangeS_L2 : Nat → Int → Int → (List (Int × Int × Int × Int × Int × Int × ByteArray × ByteArray × Int)) → Option (Int × (List (Int × Int × Int × Int × Int × Int × ByteArray × ByteArray × Int)))
  | 0, _, _, _ => none
  | k + 1, a0, a1, a2 =>
  bif decide (a1 < (↑a2.length : Int)) then
   bif decide (0 ≤ a1) then
    bif decide (a1 < (↑a2.length : Int)) then
     (setO K9_0 0 [Cell.int IntKind.i64 a0] a2 a1).bind fun val =>
      bif decide (0 ≤ a1) then
       bif decide (a1 < (↑val.length : Int)) then
        (setO K9_0 1 [Cell.int IntKind.i64 (IntKind.i64.wrap (a0 + 1))] val a1).bind fun val =>
         bif decide (0 ≤ a1) then
          bif decide (a1 < (↑val.length : Int)) then
           (setO K9_0 2 [Cell.int IntKind.i64 (IntKind.i64.wrap (IntKind.i64.wrap (a0 + 1) + 1))] val a1).bind fun val =>
            bif decide (0 ≤ a1) then
             bif decide (a1 < (↑val.length : Int)) then
              (setO K9_0 3 [Cell.int IntKind.i64 (IntKind.i64.wrap (IntKind.i64.wrap (IntKind.i64.wrap (a0 + 1) + 1) + 1))] val a1).bind fun val =>
               bif decide (0 ≤ a1) then
                bif decide (a1 < (↑val.length : Int)) then
                 (setO K9_0 4 [Cell.int IntKind.i64 (IntKind.i64.wrap (IntKind.i64.wrap (IntKind.i64.wrap (IntKind.i64.wrap (a0 + 1) + 1) + 1) + 1))] val a1).bind fun val =>
                  bif decide (0 ≤ a1) then
                   bif decide (a1 < (↑val.length : Int)) then
                    (setO K9_0 5 [Cell.int IntKind.i64 (IntKind.i64.wrap (IntKind.i64.wrap (IntKind.i64.wrap (IntKind.i64.wrap (IntKind.i64.wrap (a0 + 1) + 1) + 1) + 1) + 1))] val a1).bind fun val =>
                     (laws_markText (IntKind.i64.wrap (IntKind.i64.wrap (IntKind.i64.wrap (IntKind.i64.wrap (IntKind.i64.wrap (IntKind.i64.wrap (a0 + 1) + 1) + 1) + 1) + 1) + 1))).bind fun val_1 =>
                      bif decide (0 ≤ a1) then
                       bif decide (a1 < (↑val.length : Int)) then
                        (setO K9_0 6 [Cell.str val_1] val a1).bind fun val =>
                         (laws_markText (IntKind.i64.wrap (IntKind.i64.wrap (IntKind.i64.wrap (IntKind.i64.wrap (IntKind.i64.wrap (IntKind.i64.wrap (IntKind.i64.wrap (a0 + 1) + 1) + 1) + 1) + 1) + 1) + 1))).bind fun val_2 => bif decide (0 ≤ a1) then bif decide (a1 < (↑val.length : Int)) then (setO K9_0 7 [Cell.str val_2] val a1).bind fun val => bif decide (0 ≤ a1) then bif decide (a1 < (↑val.length : Int)) then (setO K9_0 8 [Cell.int IntKind.i64 (IntKind.i64.wrap (IntKind.i64.wrap (IntKind.i64.wrap (IntKind.i64.wrap (IntKind.i64.wrap (IntKind.i64.wrap (IntKind.i64.wrap (IntKind.i64.wrap (a0 + 1) + 1) + 1) + 1) + 1) + 1) + 1) + 1))] val a1).bind fun val => laws_markChangeS_L2 k (IntKind.i64.wrap (IntKind.i64.wrap (IntKind.i64.wrap (IntKind.i64.wrap (IntKind.i64.wrap (IntKind.i64.wrap (IntKind.i64.wrap (IntKind.i64.wrap (IntKind.i64.wrap (a0 + 1) + 1) + 1) + 1) + 1) + 1) + 1) + 1) + 1)) (IntKind.i64.wrap (a1 + 1)) val else none else none else none else none
                       else none
                      else none
                   else none
                  else none
                else none
               else none
             else none
            else none
          else none
         else none
       else none
      else none
    else none
   else none
  else some (a0, a2)
noncomputable def j_laws_markChangeS : List (Nat × (Nat → Cut (Int × (List (Int × Int × Int × Int × Int × Int × ByteArray × ByteArray × Int))))) := [(2, fun k => ⟨s_laws_markChangeS_2, fun x => laws_markChangeS_L2 k x.1.2.1 x.1.2.2.1 x.2.1⟩)]
noncomputable def laws_markChangeS_F (k : Nat) (a0 : Int) (a1 : List (Int × Int × Int × Int × Int × Int × ByteArray × ByteArray × Int)) : Option (Int × (List (Int × Int × Int × Int × Int × Int × ByteArray × ByteArray × Int))) :=
  laws_markChangeS_L2 k a0 0 a1
noncomputable def laws_markChangeS (a0 : Int) (a1 : List (Int × Int × Int × Int × Int × Int × ByteArray × ByteArray × Int)) : Option (Int × (List (Int × Int × Int × Int × Int × Int × ByteArray × ByteArray × Int))) := evF fun k => laws_markChangeS_F k a0 a1
noncomputable def g_laws_markChangeS : Sg := ⟨i_laws_markChangeS, o_laws_markChangeS, Int × (List (Int × Int × Int × Int × Int × Int × ByteArray × ByteArray × Int)), fun y => ((y.1, ()), (y.2, ())), fun x => laws_markChangeS x.1.2.1 x.2.1⟩
noncomputable def C_laws_markChangeS : Ctx := ⟨84, tiOf Tryd.prog, gl, sgOf [(68, g_laws_markText)]⟩
noncomputable def r_laws_markChangeS : AExit → Env → Option (Int × (List (Int × Int × Int × Int × Int × Int × ByteArray × ByteArray × Int))) := retK C_laws_markChangeS 1 o_laws_markChangeS (fun y => (y.1.1, y.2.1)) Tryd.f67.results.toList
theorem e_laws_markChangeS : Sound Tryd.prog gl 67 g_laws_markChangeS :=
  sound_cuts (C := C_laws_markChangeS) ⟨fun _ _ h => h, by kernel_rfl⟩ (sgOf_all' ⟨⟨by kernel_rfl, e_laws_markText⟩, trivial⟩) 67 Tryd.f67 g_laws_markChangeS (fun y => (y.1.1, y.2.1)) j_laws_markChangeS 1 (by kernel_rfl) (by kernel_rfl) (by kernel_rfl) (by kernel_rfl) (by kernel_rfl) (by kernel_rfl) (fun _ => rfl) (by kernel_rfl) (by kernel_rfl)
    ⟨trivial, s_laws_markChangeS_2, fun k x => laws_markChangeS_L2 k x.1.2.1 x.1.2.2.1 x.2.1, ⟨fun k => by kernel_rfl, fun k y => by kernel_rfl, fun y => by kernel_rfl⟩⟩
    (fun k x => laws_markChangeS_F k x.1.2.1 x.2.1) (fun x => rfl) (fun k x => by kernel_rfl)
-- loop.example/g00051/laws.markTaf
noncomputable def i_laws_markTaf : Shape := ⟨[(0, .agg [.str, .int .i64, .int .i64, .int .i64, .int .i64, .int .i64, .int .i64, .str, .str, .int .i64, .ref 0]), (1, .c (.int .i64))], [.lst 90 (.pair (.int .i64) (.pair (.int .i64) (.pair (.int .i64) (.pair (.int .i64) (.pair (.int .i64) (.pair (.int .i64) (.pair .str (.pair .str (.int .i64)))))))))]⟩
noncomputable def o_laws_markTaf : Shape := ⟨[(0, .c (.int .i64))], [.lst 90 (.pair (.int .i64) (.pair (.int .i64) (.pair (.int .i64) (.pair (.int .i64) (.pair (.int .i64) (.pair (.int .i64) (.pair .str (.pair .str (.int .i64)))))))))]⟩
noncomputable def laws_markTaf (a0 : ByteArray) (a1 : Int) (a2 : Int) (a3 : Int) (a4 : Int) (a5 : Int) (a6 : Int) (a7 : ByteArray) (a8 : ByteArray) (a9 : Int) (a10 : Int) (a11 : List (Int × Int × Int × Int × Int × Int × ByteArray × ByteArray × Int)) : Option (Int × (List (Int × Int × Int × Int × Int × Int × ByteArray × ByteArray × Int))) :=
  (laws_markChangeS a10 a11).bind fun val => some (val.fst, val.snd)
noncomputable def g_laws_markTaf : Sg := ⟨i_laws_markTaf, o_laws_markTaf, Int × (List (Int × Int × Int × Int × Int × Int × ByteArray × ByteArray × Int)), fun y => ((y.1, ()), (y.2, ())), fun x => laws_markTaf x.1.1.1 x.1.1.2.1 x.1.1.2.2.1 x.1.1.2.2.2.1 x.1.1.2.2.2.2.1 x.1.1.2.2.2.2.2.1 x.1.1.2.2.2.2.2.2.1 x.1.1.2.2.2.2.2.2.2.1 x.1.1.2.2.2.2.2.2.2.2.1 x.1.1.2.2.2.2.2.2.2.2.2.1 x.1.2.1 x.2.1⟩
noncomputable def C_laws_markTaf : Ctx := ⟨10, tiOf Tryd.prog, gl, sgOf [(67, g_laws_markChangeS)]⟩
noncomputable def r_laws_markTaf : AExit → Env → Option (Int × (List (Int × Int × Int × Int × Int × Int × ByteArray × ByteArray × Int))) := retK C_laws_markTaf 1 o_laws_markTaf (fun y => (y.1.1, y.2.1)) Tryd.f21.results.toList
theorem e_laws_markTaf : Sound Tryd.prog gl 21 g_laws_markTaf :=
  sound_plain (C := C_laws_markTaf) ⟨fun _ _ h => h, by kernel_rfl⟩ (sgOf_all' ⟨⟨by kernel_rfl, e_laws_markChangeS⟩, trivial⟩) 21 Tryd.f21 g_laws_markTaf (fun y => (y.1.1, y.2.1)) (by kernel_rfl) (by kernel_rfl) (by kernel_rfl) (by kernel_rfl) (by kernel_rfl) (by kernel_rfl) (fun _ => rfl) (fun x => by kernel_rfl)
-- loop.example/g00051/laws.markSkyS
noncomputable def i_laws_markSkyS : Shape := ⟨[(0, .c (.ref 0)), (1, .c (.int .i64))], [.lst 30 (.pair (.int .i64) (.pair (.int .i64) (.pair (.int .i64) (.pair .str (.pair .str (.int .i64))))))]⟩
noncomputable def o_laws_markSkyS : Shape := ⟨[(0, .c (.int .i64))], [.lst 30 (.pair (.int .i64) (.pair (.int .i64) (.pair (.int .i64) (.pair .str (.pair .str (.int .i64))))))]⟩
noncomputable def s_laws_markSkyS_2 : Shape := ⟨[(0, .c (.ref 0)), (1, .c (.int .i64)), (5, .c (.int .i64))], [.lst 30 (.pair (.int .i64) (.pair (.int .i64) (.pair (.int .i64) (.pair .str (.pair .str (.int .i64))))))]⟩
noncomputable def laws_markSkyS_L2 : Nat → Int → Int → (List (Int × Int × Int × ByteArray × ByteArray × Int)) → Option (Int × (List (Int × Int × Int × ByteArray × ByteArray × Int)))
  | 0, _, _, _ => none
  | k + 1, a0, a1, a2 =>
  bif decide (a1 < (↑a2.length : Int)) then
   bif decide (0 ≤ a1) then
    bif decide (a1 < (↑a2.length : Int)) then
     (setO K6_1 0 [Cell.int IntKind.i64 a0] a2 a1).bind fun val =>
      bif decide (0 ≤ a1) then
       bif decide (a1 < (↑val.length : Int)) then
        (setO K6_1 1 [Cell.int IntKind.i64 (IntKind.i64.wrap (a0 + 1))] val a1).bind fun val =>
         bif decide (0 ≤ a1) then
          bif decide (a1 < (↑val.length : Int)) then
           (setO K6_1 2 [Cell.int IntKind.i64 (IntKind.i64.wrap (IntKind.i64.wrap (a0 + 1) + 1))] val a1).bind fun val =>
            (laws_markText (IntKind.i64.wrap (IntKind.i64.wrap (IntKind.i64.wrap (a0 + 1) + 1) + 1))).bind fun val_1 => bif decide (0 ≤ a1) then bif decide (a1 < (↑val.length : Int)) then (setO K6_1 3 [Cell.str val_1] val a1).bind fun val => (laws_markText (IntKind.i64.wrap (IntKind.i64.wrap (IntKind.i64.wrap (IntKind.i64.wrap (a0 + 1) + 1) + 1) + 1))).bind fun val_2 => bif decide (0 ≤ a1) then bif decide (a1 < (↑val.length : Int)) then (setO K6_1 4 [Cell.str val_2] val a1).bind fun val => bif decide (0 ≤ a1) then bif decide (a1 < (↑val.length : Int)) then (setO K6_1 5 [Cell.int IntKind.i64 (IntKind.i64.wrap (IntKind.i64.wrap (IntKind.i64.wrap (IntKind.i64.wrap (IntKind.i64.wrap (a0 + 1) + 1) + 1) + 1) + 1))] val a1).bind fun val => laws_markSkyS_L2 k (IntKind.i64.wrap (IntKind.i64.wrap (IntKind.i64.wrap (IntKind.i64.wrap (IntKind.i64.wrap (IntKind.i64.wrap (a0 + 1) + 1) + 1) + 1) + 1) + 1)) (IntKind.i64.wrap (a1 + 1)) val else none else none else none else none else none else none
          else none
         else none
       else none
      else none
    else none
   else none
  else some (a0, a2)
noncomputable def j_laws_markSkyS : List (Nat × (Nat → Cut (Int × (List (Int × Int × Int × ByteArray × ByteArray × Int))))) := [(2, fun k => ⟨s_laws_markSkyS_2, fun x => laws_markSkyS_L2 k x.1.2.1 x.1.2.2.1 x.2.1⟩)]
noncomputable def laws_markSkyS_F (k : Nat) (a0 : Int) (a1 : List (Int × Int × Int × ByteArray × ByteArray × Int)) : Option (Int × (List (Int × Int × Int × ByteArray × ByteArray × Int))) :=
  laws_markSkyS_L2 k a0 0 a1
noncomputable def laws_markSkyS (a0 : Int) (a1 : List (Int × Int × Int × ByteArray × ByteArray × Int)) : Option (Int × (List (Int × Int × Int × ByteArray × ByteArray × Int))) := evF fun k => laws_markSkyS_F k a0 a1
noncomputable def g_laws_markSkyS : Sg := ⟨i_laws_markSkyS, o_laws_markSkyS, Int × (List (Int × Int × Int × ByteArray × ByteArray × Int)), fun y => ((y.1, ()), (y.2, ())), fun x => laws_markSkyS x.1.2.1 x.2.1⟩
noncomputable def C_laws_markSkyS : Ctx := ⟨57, tiOf Tryd.prog, gl, sgOf [(68, g_laws_markText)]⟩
noncomputable def r_laws_markSkyS : AExit → Env → Option (Int × (List (Int × Int × Int × ByteArray × ByteArray × Int))) := retK C_laws_markSkyS 1 o_laws_markSkyS (fun y => (y.1.1, y.2.1)) Tryd.f22.results.toList
theorem e_laws_markSkyS : Sound Tryd.prog gl 22 g_laws_markSkyS :=
  sound_cuts (C := C_laws_markSkyS) ⟨fun _ _ h => h, by kernel_rfl⟩ (sgOf_all' ⟨⟨by kernel_rfl, e_laws_markText⟩, trivial⟩) 22 Tryd.f22 g_laws_markSkyS (fun y => (y.1.1, y.2.1)) j_laws_markSkyS 1 (by kernel_rfl) (by kernel_rfl) (by kernel_rfl) (by kernel_rfl) (by kernel_rfl) (by kernel_rfl) (fun _ => rfl) (by kernel_rfl) (by kernel_rfl)
    ⟨trivial, s_laws_markSkyS_2, fun k x => laws_markSkyS_L2 k x.1.2.1 x.1.2.2.1 x.2.1, ⟨fun k => by kernel_rfl, fun k y => by kernel_rfl, fun y => by kernel_rfl⟩⟩
    (fun k x => laws_markSkyS_F k x.1.2.1 x.2.1) (fun x => rfl) (fun k x => by kernel_rfl)
-- loop.example/g00051/laws.heldSkyS
noncomputable def i_laws_heldSkyS : Shape := ⟨[(0, .c (.sl (.pair (.int .i64) (.pair (.int .i64) (.pair (.int .i64) (.pair .str (.pair .str (.int .i64)))))))), (1, .c (.int .i64))], []⟩
noncomputable def o_laws_heldSkyS : Shape := ⟨[(0, .c (.int .i64))], []⟩
noncomputable def s_laws_heldSkyS_2 : Shape := ⟨[(0, .c (.sl (.pair (.int .i64) (.pair (.int .i64) (.pair (.int .i64) (.pair .str (.pair .str (.int .i64)))))))), (1, .c (.int .i64)), (5, .c (.int .i64))], []⟩
noncomputable def laws_heldSkyS_L2 : Nat → (List (Int × Int × Int × ByteArray × ByteArray × Int)) → Int → Int → Option (Int)
  | 0, _, _, _ => none
  | k + 1, a0, a1, a2 =>
  bif decide (a2 < (↑a0.length : Int)) then
   bif decide (0 ≤ a2) then
    bif decide (a2 < (↑a0.length : Int)) then
     bif (rd K6_1 a0 a2).fst != a1 then some (-1)
     else
      bif decide (0 ≤ a2) then
       bif decide (a2 < (↑a0.length : Int)) then
        bif (rd K6_1 a0 a2).snd.fst != IntKind.i64.wrap (a1 + 1) then some (-1)
        else
         bif decide (0 ≤ a2) then
          bif decide (a2 < (↑a0.length : Int)) then
           bif (rd K6_1 a0 a2).snd.snd.fst != IntKind.i64.wrap (IntKind.i64.wrap (a1 + 1) + 1) then some (-1)
           else
            bif decide (0 ≤ a2) then bif decide (a2 < (↑a0.length : Int)) then (laws_markText (IntKind.i64.wrap (IntKind.i64.wrap (IntKind.i64.wrap (a1 + 1) + 1) + 1))).bind fun val => bif !ByteArray.toList (rd K6_1 a0 a2).snd.snd.snd.fst == ByteArray.toList val then some (-1) else bif decide (0 ≤ a2) then bif decide (a2 < (↑a0.length : Int)) then (laws_markText (IntKind.i64.wrap (IntKind.i64.wrap (IntKind.i64.wrap (IntKind.i64.wrap (a1 + 1) + 1) + 1) + 1))).bind fun val => bif !ByteArray.toList (rd K6_1 a0 a2).snd.snd.snd.snd.fst == ByteArray.toList val then some (-1) else bif decide (0 ≤ a2) then bif decide (a2 < (↑a0.length : Int)) then bif (rd K6_1 a0 a2).snd.snd.snd.snd.snd != IntKind.i64.wrap (IntKind.i64.wrap (IntKind.i64.wrap (IntKind.i64.wrap (IntKind.i64.wrap (a1 + 1) + 1) + 1) + 1) + 1) then some (-1) else laws_heldSkyS_L2 k a0 (IntKind.i64.wrap (IntKind.i64.wrap (IntKind.i64.wrap (IntKind.i64.wrap (IntKind.i64.wrap (IntKind.i64.wrap (a1 + 1) + 1) + 1) + 1) + 1) + 1)) (IntKind.i64.wrap (a2 + 1)) else none else none else none else none else none
            else none
          else none
         else none
       else none
      else none
    else none
   else none
  else some a1
noncomputable def j_laws_heldSkyS : List (Nat × (Nat → Cut (Int))) := [(2, fun k => ⟨s_laws_heldSkyS_2, fun x => laws_heldSkyS_L2 k x.1.1 x.1.2.1 x.1.2.2.1⟩)]
noncomputable def laws_heldSkyS_F (k : Nat) (a0 : List (Int × Int × Int × ByteArray × ByteArray × Int)) (a1 : Int) : Option (Int) :=
  laws_heldSkyS_L2 k a0 a1 0
noncomputable def laws_heldSkyS (a0 : List (Int × Int × Int × ByteArray × ByteArray × Int)) (a1 : Int) : Option (Int) := evF fun k => laws_heldSkyS_F k a0 a1
noncomputable def g_laws_heldSkyS : Sg := ⟨i_laws_heldSkyS, o_laws_heldSkyS, Int, fun y => ((y, ()), ()), fun x => laws_heldSkyS x.1.1 x.1.2.1⟩
noncomputable def C_laws_heldSkyS : Ctx := ⟨69, tiOf Tryd.prog, gl, sgOf [(68, g_laws_markText)]⟩
noncomputable def r_laws_heldSkyS : AExit → Env → Option (Int) := retK C_laws_heldSkyS 0 o_laws_heldSkyS (fun y => y.1.1) Tryd.f23.results.toList
theorem e_laws_heldSkyS : Sound Tryd.prog gl 23 g_laws_heldSkyS :=
  sound_cuts (C := C_laws_heldSkyS) ⟨fun _ _ h => h, by kernel_rfl⟩ (sgOf_all' ⟨⟨by kernel_rfl, e_laws_markText⟩, trivial⟩) 23 Tryd.f23 g_laws_heldSkyS (fun y => y.1.1) j_laws_heldSkyS 1 (by kernel_rfl) (by kernel_rfl) (by kernel_rfl) (by kernel_rfl) (by kernel_rfl) (by kernel_rfl) (fun _ => rfl) (by kernel_rfl) (by kernel_rfl)
    ⟨trivial, s_laws_heldSkyS_2, fun k x => laws_heldSkyS_L2 k x.1.1 x.1.2.1 x.1.2.2.1, ⟨fun k => by kernel_rfl, fun k y => by kernel_rfl, fun y => by kernel_rfl⟩⟩
    (fun k x => laws_heldSkyS_F k x.1.1 x.1.2.1) (fun x => rfl) (fun k x => by kernel_rfl)
-- loop.example/g00051/laws.FnExactStateAt
noncomputable def i_laws_FnExactStateAt : Shape := ⟨[(0, .agg [.str, .int .i64, .int .i64, .int .i64, .int .i64, .int .i64, .int .i64, .str, .str, .int .i64, .sl (.pair (.int .i64) (.pair (.int .i64) (.pair (.int .i64) (.pair (.int .i64) (.pair (.int .i64) (.pair (.int .i64) (.pair .str (.pair .str (.int .i64)))))))))]), (1, .c (.int .i64))], []⟩
noncomputable def o_laws_FnExactStateAt : Shape := ⟨[(0, .c (.bool))], []⟩
noncomputable def laws_FnExactStateAt (a0 : ByteArray) (a1 : Int) (a2 : Int) (a3 : Int) (a4 : Int) (a5 : Int) (a6 : Int) (a7 : ByteArray) (a8 : ByteArray) (a9 : Int) (a10 : List (Int × Int × Int × Int × Int × Int × ByteArray × ByteArray × Int)) (a11 : Int) : Option (Bool) :=
  (laws_szTaf a0 a1 a2 a3 a4 a5 a6 a7 a8 a9 a10 1048576).bind fun val =>
   bif decide (val < 0) then some true
   else
    (laws_toTaf a0 a1 a2 a3 a4 a5 a6 a7 a8 a9 a10).bind fun val =>
     (spec_StateAt val.fst val.snd.fst val.snd.snd.fst val.snd.snd.snd.fst val.snd.snd.snd.snd.fst val.snd.snd.snd.snd.snd.fst val.snd.snd.snd.snd.snd.snd.fst val.snd.snd.snd.snd.snd.snd.snd.fst val.snd.snd.snd.snd.snd.snd.snd.snd.fst val.snd.snd.snd.snd.snd.snd.snd.snd.snd.fst val.snd.snd.snd.snd.snd.snd.snd.snd.snd.snd a11).bind fun val =>
      (laws_toTaf a0 a1 a2 a3 a4 a5 a6 a7 a8 a9 a10).bind fun val_1 =>
       (impl_StateAt val_1.fst val_1.snd.fst val_1.snd.snd.fst val_1.snd.snd.snd.fst val_1.snd.snd.snd.snd.fst val_1.snd.snd.snd.snd.snd.fst val_1.snd.snd.snd.snd.snd.snd.fst val_1.snd.snd.snd.snd.snd.snd.snd.fst val_1.snd.snd.snd.snd.snd.snd.snd.snd.fst val_1.snd.snd.snd.snd.snd.snd.snd.snd.snd.fst val_1.snd.snd.snd.snd.snd.snd.snd.snd.snd.snd a11).bind fun val_2 =>
        (laws_eqSky val_2.fst val_2.snd.fst val_2.snd.snd.fst val_2.snd.snd.snd.fst val_2.snd.snd.snd.snd.fst val_2.snd.snd.snd.snd.snd.fst val.fst val.snd.fst val.snd.snd.fst val.snd.snd.snd.fst val.snd.snd.snd.snd.fst val.snd.snd.snd.snd.snd.fst).bind fun val_3 =>
         bif !val_3 then some false
         else
          (laws_eqSkyS val_2.snd.snd.snd.snd.snd.snd.snd val.snd.snd.snd.snd.snd.snd.snd).bind fun val_4 =>
           bif !val_4 then some false
           else
            bif !val_2.snd.snd.snd.snd.snd.snd.fst == val.snd.snd.snd.snd.snd.snd.fst then some false
            else
             (laws_toTaf a0 a1 a2 a3 a4 a5 a6 a7 a8 a9 a10).bind fun val_5 =>
              (laws_eqTaf val_1.fst val_1.snd.fst val_1.snd.snd.fst val_1.snd.snd.snd.fst val_1.snd.snd.snd.snd.fst val_1.snd.snd.snd.snd.snd.fst val_1.snd.snd.snd.snd.snd.snd.fst val_1.snd.snd.snd.snd.snd.snd.snd.fst val_1.snd.snd.snd.snd.snd.snd.snd.snd.fst val_1.snd.snd.snd.snd.snd.snd.snd.snd.snd.fst val_1.snd.snd.snd.snd.snd.snd.snd.snd.snd.snd val_5.fst val_5.snd.fst val_5.snd.snd.fst val_5.snd.snd.snd.fst val_5.snd.snd.snd.snd.fst val_5.snd.snd.snd.snd.snd.fst val_5.snd.snd.snd.snd.snd.snd.fst val_5.snd.snd.snd.snd.snd.snd.snd.fst val_5.snd.snd.snd.snd.snd.snd.snd.snd.fst val_5.snd.snd.snd.snd.snd.snd.snd.snd.snd.fst val_5.snd.snd.snd.snd.snd.snd.snd.snd.snd.snd).bind fun val_6 =>
               bif !val_6 then some false
               else
                (laws_markTaf val_1.fst val_1.snd.fst val_1.snd.snd.fst val_1.snd.snd.snd.fst val_1.snd.snd.snd.snd.fst val_1.snd.snd.snd.snd.snd.fst val_1.snd.snd.snd.snd.snd.snd.fst val_1.snd.snd.snd.snd.snd.snd.snd.fst val_1.snd.snd.snd.snd.snd.snd.snd.snd.fst val_1.snd.snd.snd.snd.snd.snd.snd.snd.snd.fst 1 val_1.snd.snd.snd.snd.snd.snd.snd.snd.snd.snd).bind fun val_7 =>
                 bif decide (val_7.fst < 0) then some false
                 else
                  (laws_eqSky val_2.fst val_2.snd.fst val_2.snd.snd.fst val_2.snd.snd.snd.fst val_2.snd.snd.snd.snd.fst val_2.snd.snd.snd.snd.snd.fst val.fst val.snd.fst val.snd.snd.fst val.snd.snd.snd.fst val.snd.snd.snd.snd.fst val.snd.snd.snd.snd.snd.fst).bind fun val_8 =>
                   bif !val_8 then some false
                   else
                    (laws_eqSkyS val_2.snd.snd.snd.snd.snd.snd.snd val.snd.snd.snd.snd.snd.snd.snd).bind fun val_9 =>
                     bif !val_9 then some false else bif !val_2.snd.snd.snd.snd.snd.snd.fst == val.snd.snd.snd.snd.snd.snd.fst then some false else (laws_markSkyS 1 val_2.snd.snd.snd.snd.snd.snd.snd).bind fun val_10 => (laws_heldSkyS val_10.snd 1).bind fun val_11 => bif decide (val_11 < 0) then some false else bif val_11 != val_10.fst then some false else (laws_toTaf a0 a1 a2 a3 a4 a5 a6 a7 a8 a9 a10).bind fun val_12 => (impl_StateAt val_12.fst val_12.snd.fst val_12.snd.snd.fst val_12.snd.snd.snd.fst val_12.snd.snd.snd.snd.fst val_12.snd.snd.snd.snd.snd.fst val_12.snd.snd.snd.snd.snd.snd.fst val_12.snd.snd.snd.snd.snd.snd.snd.fst val_12.snd.snd.snd.snd.snd.snd.snd.snd.fst val_12.snd.snd.snd.snd.snd.snd.snd.snd.snd.fst val_12.snd.snd.snd.snd.snd.snd.snd.snd.snd.snd a11).bind fun val_13 => (laws_eqSky val_13.fst val_13.snd.fst val_13.snd.snd.fst val_13.snd.snd.snd.fst val_13.snd.snd.snd.snd.fst val_13.snd.snd.snd.snd.snd.fst val.fst val.snd.fst val.snd.snd.fst val.snd.snd.snd.fst val.snd.snd.snd.snd.fst val.snd.snd.snd.snd.snd.fst).bind fun val_14 => bif !val_14 then some false else (laws_eqSkyS val_13.snd.snd.snd.snd.snd.snd.snd val.snd.snd.snd.snd.snd.snd.snd).bind fun val_15 => bif !val_15 then some false else bif !val_13.snd.snd.snd.snd.snd.snd.fst == val.snd.snd.snd.snd.snd.snd.fst then some false else (laws_heldSkyS val_10.snd 1).bind fun val => bif decide (val < 0) then some false else bif val != val_10.fst then some false else some true
noncomputable def g_laws_FnExactStateAt : Sg := ⟨i_laws_FnExactStateAt, o_laws_FnExactStateAt, Bool, fun y => ((y, ()), ()), fun x => laws_FnExactStateAt x.1.1.1 x.1.1.2.1 x.1.1.2.2.1 x.1.1.2.2.2.1 x.1.1.2.2.2.2.1 x.1.1.2.2.2.2.2.1 x.1.1.2.2.2.2.2.2.1 x.1.1.2.2.2.2.2.2.2.1 x.1.1.2.2.2.2.2.2.2.2.1 x.1.1.2.2.2.2.2.2.2.2.2.1 x.1.1.2.2.2.2.2.2.2.2.2.2.1 x.1.2.1⟩
noncomputable def C_laws_FnExactStateAt : Ctx := ⟨125, tiOf Tryd.prog, gl, sgOf [(14, g_laws_szTaf), (16, g_laws_toTaf), (15, g_spec_StateAt), (17, g_impl_StateAt), (18, g_laws_eqSky), (19, g_laws_eqSkyS), (20, g_laws_eqTaf), (21, g_laws_markTaf), (22, g_laws_markSkyS), (23, g_laws_heldSkyS)]⟩
noncomputable def r_laws_FnExactStateAt : AExit → Env → Option (Bool) := retK C_laws_FnExactStateAt 0 o_laws_FnExactStateAt (fun y => y.1.1) Tryd.f3.results.toList
theorem e_laws_FnExactStateAt : Sound Tryd.prog gl 3 g_laws_FnExactStateAt :=
  sound_plain (C := C_laws_FnExactStateAt) ⟨fun _ _ h => h, by kernel_rfl⟩ (sgOf_all' ⟨⟨by kernel_rfl, e_laws_szTaf⟩, ⟨by kernel_rfl, e_laws_toTaf⟩, ⟨by kernel_rfl, e_spec_StateAt⟩, ⟨by kernel_rfl, e_impl_StateAt⟩, ⟨by kernel_rfl, e_laws_eqSky⟩, ⟨by kernel_rfl, e_laws_eqSkyS⟩, ⟨by kernel_rfl, e_laws_eqTaf⟩, ⟨by kernel_rfl, e_laws_markTaf⟩, ⟨by kernel_rfl, e_laws_markSkyS⟩, ⟨by kernel_rfl, e_laws_heldSkyS⟩, trivial⟩) 3 Tryd.f3 g_laws_FnExactStateAt (fun y => y.1.1) (by kernel_rfl) (by kernel_rfl) (by kernel_rfl) (by kernel_rfl) (by kernel_rfl) (by kernel_rfl) (fun _ => rfl) (fun x => by kernel_rfl)
end Go.Proofs.YtmcmkdiefpepnaaDoor.SA
