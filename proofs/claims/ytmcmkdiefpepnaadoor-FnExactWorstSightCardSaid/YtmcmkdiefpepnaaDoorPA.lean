/-
  Part of a proof by the engine: texts that a program of ours printed, or plain lemmas on them. No condition but what each theorem says.
-/
import Derived.Test.YtmcmkdiefpepnaaDoorSA
import Derived.Test.YtmcmkdiefpepnaaDoorEngU
import Derived.Test.YtmcmkdiefpepnaaDoorProg
import Derived.KernelRfl
import Derived.Test.YtmcmkdiefpepnaaDoorEngY
import Derived.Test.YtmcmkdiefpepnaaDoorDoors4
set_option linter.unusedSimpArgs false
set_option linter.unusedVariables false
set_option maxRecDepth 100000
namespace Go.Proofs.YtmcmkdiefpepnaaDoor.PA
open Go Go.Eng Go.Proofs
open Go.Proofs.YtmcmkdiefpepnaaDoor.EX
open Go.Proofs.YtmcmkdiefpepnaaDoor.SA hiding gl
noncomputable def gl : Nat → Option (List Cell) := glOf [(2, [.sl .str L_impl_weathers]), (3, [.sl .str L_impl_covers])]
theorem gl_SA : ∀ g cs, Go.Proofs.YtmcmkdiefpepnaaDoor.SA.gl g = some cs → gl g = some cs := glOf_mono (by intro p hp; simp only [List.mem_cons, List.not_mem_nil, or_false] at hp; rcases hp with rfl | rfl <;> rfl)
abbrev K2_PA2 : Kind := (.pair (.int .i64) (.int .i64))
-- loop.example/g00051/spec.Parts
noncomputable def i_spec_Parts : Shape := ⟨[(0, .agg [.str, .int .i64, .int .i64, .int .i64, .int .i64, .int .i64, .int .i64, .str, .str, .int .i64, .sl (.pair (.int .i64) (.pair (.int .i64) (.pair (.int .i64) (.pair (.int .i64) (.pair (.int .i64) (.pair (.int .i64) (.pair .str (.pair .str (.int .i64)))))))))])], []⟩
noncomputable def o_spec_Parts : Shape := ⟨[(0, .c (.ref 0))], [.lst 34 (.pair (.int .i64) (.int .i64))]⟩
noncomputable def s_spec_Parts_6 : Shape := ⟨[(1, .c (.ptr 0 0)), (3, .c (.ref 1)), (4, .c (.int .i64)), (5, .c (.int .i64))], [.box 37 [.str, .int .i64, .int .i64, .int .i64, .int .i64, .int .i64, .int .i64, .str, .str, .int .i64, .sl (.pair (.int .i64) (.pair (.int .i64) (.pair (.int .i64) (.pair (.int .i64) (.pair (.int .i64) (.pair (.int .i64) (.pair .str (.pair .str (.int .i64)))))))))], .lst 34 (.pair (.int .i64) (.int .i64))]⟩
noncomputable def s_spec_Parts_10 : Shape := ⟨[(1, .c (.ptr 0 0)), (3, .c (.ref 1)), (4, .c (.int .i64)), (5, .c (.int .i64)), (6, .c (.bool)), (7, .c (.int .i64))], [.box 37 [.str, .int .i64, .int .i64, .int .i64, .int .i64, .int .i64, .int .i64, .str, .str, .int .i64, .sl (.pair (.int .i64) (.pair (.int .i64) (.pair (.int .i64) (.pair (.int .i64) (.pair (.int .i64) (.pair (.int .i64) (.pair .str (.pair .str (.int .i64)))))))))], .lst 34 (.pair (.int .i64) (.int .i64))]⟩
mutual
noncomputable def spec_Parts_L6 : Nat → Int → Int → ByteArray → Int → Int → Int → Int → Int → Int → ByteArray → ByteArray → Int → (List (Int × Int × Int × Int × Int × Int × ByteArray × ByteArray × Int)) → (List (Int × Int)) → Option ((List (Int × Int)))
  | 0, _, _, _, _, _, _, _, _, _, _, _, _, _, _ => none
  | k + 1, a0, a1, a2, a3, a4, a5, a6, a7, a8, a9, a10, a11, a12, a13 =>
  bif decide (a1 ≤ a5) then spec_Parts_L10 k a0 a1 (a1 == a5) 0 a2 a3 a4 a5 a6 a7 a8 a9 a10 a11 a12 a13 else some a13
noncomputable def spec_Parts_L10 : Nat → Int → Int → Bool → Int → ByteArray → Int → Int → Int → Int → Int → Int → ByteArray → ByteArray → Int → (List (Int × Int × Int × Int × Int × Int × ByteArray × ByteArray × Int)) → (List (Int × Int)) → Option ((List (Int × Int)))
  | 0, _, _, _, _, _, _, _, _, _, _, _, _, _, _, _, _ => none
  | k + 1, a0, a1, a2, a3, a4, a5, a6, a7, a8, a9, a10, a11, a12, a13, a14, a15 =>
  bif decide (a3 < (↑a14.length : Int)) then bif a2 then spec_Parts_L10 k a0 a1 true (IntKind.i64.wrap (a3 + 1)) a4 a5 a6 a7 a8 a9 a10 a11 a12 a13 a14 a15 else bif decide (0 ≤ a3) then bif decide (a3 < (↑a14.length : Int)) then bif (rd K9_0 a14 a3).snd.fst == a1 then spec_Parts_L10 k a0 a1 true (IntKind.i64.wrap (a3 + 1)) a4 a5 a6 a7 a8 a9 a10 a11 a12 a13 a14 a15 else bif decide (0 ≤ a3) then bif decide (a3 < (↑a14.length : Int)) then spec_Parts_L10 k a0 a1 ((rd K9_0 a14 a3).snd.snd.fst == a1) (IntKind.i64.wrap (a3 + 1)) a4 a5 a6 a7 a8 a9 a10 a11 a12 a13 a14 a15 else none else none else none else none else bif a2 then bif decide (a15.length + [(a0, a1)].length ≤ maxBytes / 16) then spec_Parts_L6 k a1 (IntKind.i64.wrap (a1 + 1)) a4 a5 a6 a7 a8 a9 a10 a11 a12 a13 a14 (a15 ++ [(a0, a1)]) else none else spec_Parts_L6 k a0 (IntKind.i64.wrap (a1 + 1)) a4 a5 a6 a7 a8 a9 a10 a11 a12 a13 a14 a15
end
noncomputable def j_spec_Parts : List (Nat × (Nat → Cut ((List (Int × Int))))) := [(6, fun k => ⟨s_spec_Parts_6, fun x => spec_Parts_L6 k x.1.2.2.1 x.1.2.2.2.1 x.2.1.1 x.2.1.2.1 x.2.1.2.2.1 x.2.1.2.2.2.1 x.2.1.2.2.2.2.1 x.2.1.2.2.2.2.2.1 x.2.1.2.2.2.2.2.2.1 x.2.1.2.2.2.2.2.2.2.1 x.2.1.2.2.2.2.2.2.2.2.1 x.2.1.2.2.2.2.2.2.2.2.2.1 x.2.1.2.2.2.2.2.2.2.2.2.2.1 x.2.2.1⟩), (10, fun k => ⟨s_spec_Parts_10, fun x => spec_Parts_L10 k x.1.2.2.1 x.1.2.2.2.1 x.1.2.2.2.2.1 x.1.2.2.2.2.2.1 x.2.1.1 x.2.1.2.1 x.2.1.2.2.1 x.2.1.2.2.2.1 x.2.1.2.2.2.2.1 x.2.1.2.2.2.2.2.1 x.2.1.2.2.2.2.2.2.1 x.2.1.2.2.2.2.2.2.2.1 x.2.1.2.2.2.2.2.2.2.2.1 x.2.1.2.2.2.2.2.2.2.2.2.1 x.2.1.2.2.2.2.2.2.2.2.2.2.1 x.2.2.1⟩)]
noncomputable def spec_Parts_F (k : Nat) (a0 : ByteArray) (a1 : Int) (a2 : Int) (a3 : Int) (a4 : Int) (a5 : Int) (a6 : Int) (a7 : ByteArray) (a8 : ByteArray) (a9 : Int) (a10 : List (Int × Int × Int × Int × Int × Int × ByteArray × ByteArray × Int)) : Option ((List (Int × Int))) :=
  (spec_TafOk a0 a1 a2 a3 a4 a5 a6 a7 a8 a9 a10).bind fun val => bif !val then some [] else spec_Parts_L6 k a2 (IntKind.i64.wrap (a2 + 1)) a0 a1 a2 a3 a4 a5 a6 a7 a8 a9 a10 []
noncomputable def spec_Parts (a0 : ByteArray) (a1 : Int) (a2 : Int) (a3 : Int) (a4 : Int) (a5 : Int) (a6 : Int) (a7 : ByteArray) (a8 : ByteArray) (a9 : Int) (a10 : List (Int × Int × Int × Int × Int × Int × ByteArray × ByteArray × Int)) : Option ((List (Int × Int))) := evF fun k => spec_Parts_F k a0 a1 a2 a3 a4 a5 a6 a7 a8 a9 a10
noncomputable def g_spec_Parts : Sg := ⟨i_spec_Parts, o_spec_Parts, (List (Int × Int)), fun y => (((), ()), (y, ())), fun x => spec_Parts x.1.1.1 x.1.1.2.1 x.1.1.2.2.1 x.1.1.2.2.2.1 x.1.1.2.2.2.2.1 x.1.1.2.2.2.2.2.1 x.1.1.2.2.2.2.2.2.1 x.1.1.2.2.2.2.2.2.2.1 x.1.1.2.2.2.2.2.2.2.2.1 x.1.1.2.2.2.2.2.2.2.2.2.1 x.1.1.2.2.2.2.2.2.2.2.2.2.1⟩
noncomputable def C_spec_Parts : Ctx := ⟨69, tiOf Tryd.prog, gl, sgOf [(59, g_spec_TafOk)]⟩
noncomputable def r_spec_Parts : AExit → Env → Option ((List (Int × Int))) := retK C_spec_Parts 0 o_spec_Parts (fun y => y.2.1) Tryd.f44.results.toList
theorem e_spec_Parts : Sound Tryd.prog gl 44 g_spec_Parts :=
  sound_cuts (C := C_spec_Parts) ⟨fun _ _ h => h, by kernel_rfl⟩ (sgOf_all' ⟨⟨by kernel_rfl, (Sound.mono gl_SA (by rfl) e_spec_TafOk)⟩, trivial⟩) 44 Tryd.f44 g_spec_Parts (fun y => y.2.1) j_spec_Parts 2 (by kernel_rfl) (by kernel_rfl) (by kernel_rfl) (by kernel_rfl) (by kernel_rfl) (by kernel_rfl) (fun _ => rfl) (by kernel_rfl) (by kernel_rfl)
    ⟨⟨trivial, s_spec_Parts_6, fun k x => spec_Parts_L6 k x.1.2.2.1 x.1.2.2.2.1 x.2.1.1 x.2.1.2.1 x.2.1.2.2.1 x.2.1.2.2.2.1 x.2.1.2.2.2.2.1 x.2.1.2.2.2.2.2.1 x.2.1.2.2.2.2.2.2.1 x.2.1.2.2.2.2.2.2.2.1 x.2.1.2.2.2.2.2.2.2.2.1 x.2.1.2.2.2.2.2.2.2.2.2.1 x.2.1.2.2.2.2.2.2.2.2.2.2.1 x.2.2.1, ⟨fun k => by kernel_rfl, fun k y => by kernel_rfl, fun y => by kernel_rfl⟩⟩, s_spec_Parts_10, fun k x => spec_Parts_L10 k x.1.2.2.1 x.1.2.2.2.1 x.1.2.2.2.2.1 x.1.2.2.2.2.2.1 x.2.1.1 x.2.1.2.1 x.2.1.2.2.1 x.2.1.2.2.2.1 x.2.1.2.2.2.2.1 x.2.1.2.2.2.2.2.1 x.2.1.2.2.2.2.2.2.1 x.2.1.2.2.2.2.2.2.2.1 x.2.1.2.2.2.2.2.2.2.2.1 x.2.1.2.2.2.2.2.2.2.2.2.1 x.2.1.2.2.2.2.2.2.2.2.2.2.1 x.2.2.1, ⟨fun k => by kernel_rfl, fun k y => by kernel_rfl, fun y => by kernel_rfl⟩⟩
    (fun k x => spec_Parts_F k x.1.1.1 x.1.1.2.1 x.1.1.2.2.1 x.1.1.2.2.2.1 x.1.1.2.2.2.2.1 x.1.1.2.2.2.2.2.1 x.1.1.2.2.2.2.2.2.1 x.1.1.2.2.2.2.2.2.2.1 x.1.1.2.2.2.2.2.2.2.2.1 x.1.1.2.2.2.2.2.2.2.2.2.1 x.1.1.2.2.2.2.2.2.2.2.2.2.1) (fun x => rfl) (fun k x => by kernel_rfl)
-- loop.example/g00051/impl.sorted
noncomputable def i_impl_sorted : Shape := ⟨[(0, .c (.sl (.int .i64)))], []⟩
noncomputable def o_impl_sorted : Shape := ⟨[(0, .c (.ref 0))], [.lst 2 (.int .i64)]⟩
noncomputable def impl_sorted (a0 : List Int) : Option ((List Int)) :=
  (dClone a0).bind fun val => (dSort val).bind fun val => some val
noncomputable def g_impl_sorted : Sg := ⟨i_impl_sorted, o_impl_sorted, (List Int), fun y => (((), ()), (y, ())), fun x => impl_sorted x.1.1⟩
noncomputable def C_impl_sorted : Ctx := ⟨9, tiOf Tryd.prog, gl, sgOf [(149, gClone), (150, gSort)]⟩
noncomputable def r_impl_sorted : AExit → Env → Option ((List Int)) := retK C_impl_sorted 0 o_impl_sorted (fun y => y.2.1) Tryd.f101.results.toList
theorem e_impl_sorted : Sound Tryd.prog gl 101 g_impl_sorted :=
  sound_plain (C := C_impl_sorted) ⟨fun _ _ h => h, by kernel_rfl⟩ (sgOf_all' ⟨⟨by kernel_rfl, eClone⟩, ⟨by kernel_rfl, eSort⟩, trivial⟩) 101 Tryd.f101 g_impl_sorted (fun y => y.2.1) (by kernel_rfl) (by kernel_rfl) (by kernel_rfl) (by kernel_rfl) (by kernel_rfl) (by kernel_rfl) (fun _ => rfl) (fun x => by kernel_rfl)
-- loop.example/g00051/impl.Parts
noncomputable def i_impl_Parts : Shape := ⟨[(0, .agg [.str, .int .i64, .int .i64, .int .i64, .int .i64, .int .i64, .int .i64, .str, .str, .int .i64, .sl (.pair (.int .i64) (.pair (.int .i64) (.pair (.int .i64) (.pair (.int .i64) (.pair (.int .i64) (.pair (.int .i64) (.pair .str (.pair .str (.int .i64)))))))))])], []⟩
noncomputable def o_impl_Parts : Shape := ⟨[(0, .c (.ref 0))], [.lst 34 (.pair (.int .i64) (.int .i64))]⟩
noncomputable def s_impl_Parts_5 : Shape := ⟨[(3, .c (.ref 0)), (19, .c (.sl (.pair (.int .i64) (.pair (.int .i64) (.pair (.int .i64) (.pair (.int .i64) (.pair (.int .i64) (.pair (.int .i64) (.pair .str (.pair .str (.int .i64))))))))))), (20, .c (.int .i64)), (21, .c (.int .i64))], [.lst 2 (.int .i64)]⟩
noncomputable def s_impl_Parts_15 : Shape := ⟨[(3, .c (.ref 0)), (6, .c (.ref 1)), (7, .c (.int .i64))], [.lst 2 (.int .i64), .lst 34 (.pair (.int .i64) (.int .i64))]⟩
mutual
noncomputable def impl_Parts_L5 : Nat → (List (Int × Int × Int × Int × Int × Int × ByteArray × ByteArray × Int)) → Int → Int → (List Int) → Option ((List (Int × Int)))
  | 0, _, _, _, _ => none
  | k + 1, a0, a1, a2, a3 =>
  bif decide (a2 < a1) then
   bif decide (0 ≤ a2) then
    bif decide (a2 < (↑a0.length : Int)) then
     bif decide (a3.length + [(rd K9_0 a0 a2).snd.fst].length ≤ maxBytes / 8) then
      bif (rd K9_0 a0 a2).fst != 1 then bif decide ((a3 ++ [(rd K9_0 a0 a2).snd.fst]).length + [(rd K9_0 a0 a2).snd.snd.fst].length ≤ maxBytes / 8) then impl_Parts_L5 k a0 a1 (IntKind.i64.wrap (a2 + 1)) (a3 ++ [(rd K9_0 a0 a2).snd.fst] ++ [(rd K9_0 a0 a2).snd.snd.fst]) else none
      else impl_Parts_L5 k a0 a1 (IntKind.i64.wrap (a2 + 1)) (a3 ++ [(rd K9_0 a0 a2).snd.fst])
     else none
    else none
   else none
  else (impl_sorted a3).bind fun val => (dCompact val).bind fun val => impl_Parts_L15 k 0 val []
noncomputable def impl_Parts_L15 : Nat → Int → (List Int) → (List (Int × Int)) → Option ((List (Int × Int)))
  | 0, _, _, _ => none
  | k + 1, a0, a1, a2 =>
  bif decide (IntKind.i64.wrap (a0 + 1) < (↑a1.length : Int)) then bif decide (0 ≤ a0) then bif decide (a0 < (↑a1.length : Int)) then bif decide (a0 < (↑a1.length : Int)) then bif decide (0 ≤ IntKind.i64.wrap (a0 + 1)) then bif decide (IntKind.i64.wrap (a0 + 1) < (↑a1.length : Int)) then bif decide (IntKind.i64.wrap (a0 + 1) < (↑a1.length : Int)) then bif decide (a2.length + [(rd (Kind.int IntKind.i64) a1 a0, rd (Kind.int IntKind.i64) a1 (IntKind.i64.wrap (a0 + 1)))].length ≤ maxBytes / 16) then impl_Parts_L15 k (IntKind.i64.wrap (a0 + 1)) a1 (a2 ++ [(rd (Kind.int IntKind.i64) a1 a0, rd (Kind.int IntKind.i64) a1 (IntKind.i64.wrap (a0 + 1)))]) else none else none else none else none else none else none else none else some a2
end
noncomputable def j_impl_Parts : List (Nat × (Nat → Cut ((List (Int × Int))))) := [(5, fun k => ⟨s_impl_Parts_5, fun x => impl_Parts_L5 k x.1.2.1 x.1.2.2.1 x.1.2.2.2.1 x.2.1⟩), (15, fun k => ⟨s_impl_Parts_15, fun x => impl_Parts_L15 k x.1.2.2.1 x.2.1 x.2.2.1⟩)]
noncomputable def impl_Parts_F (k : Nat) (a0 : ByteArray) (a1 : Int) (a2 : Int) (a3 : Int) (a4 : Int) (a5 : Int) (a6 : Int) (a7 : ByteArray) (a8 : ByteArray) (a9 : Int) (a10 : List (Int × Int × Int × Int × Int × Int × ByteArray × ByteArray × Int)) : Option ((List (Int × Int))) :=
  (impl_TafOk a0 a1 a2 a3 a4 a5 a6 a7 a8 a9 a10).bind fun val => bif !val then some [] else impl_Parts_L5 k a10 (↑a10.length : Int) 0 [a2, a3]
noncomputable def impl_Parts (a0 : ByteArray) (a1 : Int) (a2 : Int) (a3 : Int) (a4 : Int) (a5 : Int) (a6 : Int) (a7 : ByteArray) (a8 : ByteArray) (a9 : Int) (a10 : List (Int × Int × Int × Int × Int × Int × ByteArray × ByteArray × Int)) : Option ((List (Int × Int))) := evF fun k => impl_Parts_F k a0 a1 a2 a3 a4 a5 a6 a7 a8 a9 a10
noncomputable def g_impl_Parts : Sg := ⟨i_impl_Parts, o_impl_Parts, (List (Int × Int)), fun y => (((), ()), (y, ())), fun x => impl_Parts x.1.1.1 x.1.1.2.1 x.1.1.2.2.1 x.1.1.2.2.2.1 x.1.1.2.2.2.2.1 x.1.1.2.2.2.2.2.1 x.1.1.2.2.2.2.2.2.1 x.1.1.2.2.2.2.2.2.2.1 x.1.1.2.2.2.2.2.2.2.2.1 x.1.1.2.2.2.2.2.2.2.2.2.1 x.1.1.2.2.2.2.2.2.2.2.2.2.1⟩
noncomputable def C_impl_Parts : Ctx := ⟨65, tiOf Tryd.prog, gl, sgOf [(63, g_impl_TafOk), (101, g_impl_sorted), (102, gCompact)]⟩
noncomputable def r_impl_Parts : AExit → Env → Option ((List (Int × Int))) := retK C_impl_Parts 0 o_impl_Parts (fun y => y.2.1) Tryd.f45.results.toList
theorem e_impl_Parts : Sound Tryd.prog gl 45 g_impl_Parts :=
  sound_cuts (C := C_impl_Parts) ⟨fun _ _ h => h, by kernel_rfl⟩ (sgOf_all' ⟨⟨by kernel_rfl, (Sound.mono gl_SA (by rfl) e_impl_TafOk)⟩, ⟨by kernel_rfl, e_impl_sorted⟩, ⟨by kernel_rfl, eCompact⟩, trivial⟩) 45 Tryd.f45 g_impl_Parts (fun y => y.2.1) j_impl_Parts 2 (by kernel_rfl) (by kernel_rfl) (by kernel_rfl) (by kernel_rfl) (by kernel_rfl) (by kernel_rfl) (fun _ => rfl) (by kernel_rfl) (by kernel_rfl)
    ⟨⟨trivial, s_impl_Parts_5, fun k x => impl_Parts_L5 k x.1.2.1 x.1.2.2.1 x.1.2.2.2.1 x.2.1, ⟨fun k => by kernel_rfl, fun k y => by kernel_rfl, fun y => by kernel_rfl⟩⟩, s_impl_Parts_15, fun k x => impl_Parts_L15 k x.1.2.2.1 x.2.1 x.2.2.1, ⟨fun k => by kernel_rfl, fun k y => by kernel_rfl, fun y => by kernel_rfl⟩⟩
    (fun k x => impl_Parts_F k x.1.1.1 x.1.1.2.1 x.1.1.2.2.1 x.1.1.2.2.2.1 x.1.1.2.2.2.2.1 x.1.1.2.2.2.2.2.1 x.1.1.2.2.2.2.2.2.1 x.1.1.2.2.2.2.2.2.2.1 x.1.1.2.2.2.2.2.2.2.2.1 x.1.1.2.2.2.2.2.2.2.2.2.1 x.1.1.2.2.2.2.2.2.2.2.2.2.1) (fun x => rfl) (fun k x => by kernel_rfl)
-- loop.example/g00051/laws.eqSpanS
noncomputable def i_laws_eqSpanS : Shape := ⟨[(0, .c (.sl (.pair (.int .i64) (.int .i64)))), (1, .c (.sl (.pair (.int .i64) (.int .i64))))], []⟩
noncomputable def o_laws_eqSpanS : Shape := ⟨[(0, .c (.bool))], []⟩
noncomputable def s_laws_eqSpanS_4 : Shape := ⟨[(0, .c (.sl (.pair (.int .i64) (.int .i64)))), (1, .c (.sl (.pair (.int .i64) (.int .i64)))), (5, .c (.int .i64))], []⟩
noncomputable def laws_eqSpanS_L4 : Nat → (List (Int × Int)) → (List (Int × Int)) → Int → Option (Bool)
  | 0, _, _, _ => none
  | k + 1, a0, a1, a2 =>
  bif decide (a2 < (↑a0.length : Int)) then bif decide (0 ≤ a2) then bif decide (a2 < (↑a0.length : Int)) then bif decide (0 ≤ a2) then bif decide (a2 < (↑a1.length : Int)) then (laws_eqSpan (rd K2_PA2 a0 a2).fst (rd K2_PA2 a0 a2).snd (rd K2_PA2 a1 a2).fst (rd K2_PA2 a1 a2).snd).bind fun val => bif !val then some false else laws_eqSpanS_L4 k a0 a1 (IntKind.i64.wrap (a2 + 1)) else none else none else none else none else some true
noncomputable def j_laws_eqSpanS : List (Nat × (Nat → Cut (Bool))) := [(4, fun k => ⟨s_laws_eqSpanS_4, fun x => laws_eqSpanS_L4 k x.1.1 x.1.2.1 x.1.2.2.1⟩)]
noncomputable def laws_eqSpanS_F (k : Nat) (a0 : List (Int × Int)) (a1 : List (Int × Int)) : Option (Bool) :=
  bif (↑a0.length : Int) != (↑a1.length : Int) then some false else laws_eqSpanS_L4 k a0 a1 0
noncomputable def laws_eqSpanS (a0 : List (Int × Int)) (a1 : List (Int × Int)) : Option (Bool) := evF fun k => laws_eqSpanS_F k a0 a1
noncomputable def g_laws_eqSpanS : Sg := ⟨i_laws_eqSpanS, o_laws_eqSpanS, Bool, fun y => ((y, ()), ()), fun x => laws_eqSpanS x.1.1 x.1.2.1⟩
noncomputable def C_laws_eqSpanS : Ctx := ⟨27, tiOf Tryd.prog, gl, sgOf [(65, g_laws_eqSpan)]⟩
noncomputable def r_laws_eqSpanS : AExit → Env → Option (Bool) := retK C_laws_eqSpanS 0 o_laws_eqSpanS (fun y => y.1.1) Tryd.f46.results.toList
theorem e_laws_eqSpanS : Sound Tryd.prog gl 46 g_laws_eqSpanS :=
  sound_cuts (C := C_laws_eqSpanS) ⟨fun _ _ h => h, by kernel_rfl⟩ (sgOf_all' ⟨⟨by kernel_rfl, (Sound.mono gl_SA (by rfl) e_laws_eqSpan)⟩, trivial⟩) 46 Tryd.f46 g_laws_eqSpanS (fun y => y.1.1) j_laws_eqSpanS 1 (by kernel_rfl) (by kernel_rfl) (by kernel_rfl) (by kernel_rfl) (by kernel_rfl) (by kernel_rfl) (fun _ => rfl) (by kernel_rfl) (by kernel_rfl)
    ⟨trivial, s_laws_eqSpanS_4, fun k x => laws_eqSpanS_L4 k x.1.1 x.1.2.1 x.1.2.2.1, ⟨fun k => by kernel_rfl, fun k y => by kernel_rfl, fun y => by kernel_rfl⟩⟩
    (fun k x => laws_eqSpanS_F k x.1.1 x.1.2.1) (fun x => rfl) (fun k x => by kernel_rfl)
-- loop.example/g00051/laws.markSpanS
noncomputable def i_laws_markSpanS : Shape := ⟨[(0, .c (.ref 0)), (1, .c (.int .i64))], [.lst 34 (.pair (.int .i64) (.int .i64))]⟩
noncomputable def o_laws_markSpanS : Shape := ⟨[(0, .c (.int .i64))], [.lst 34 (.pair (.int .i64) (.int .i64))]⟩
noncomputable def s_laws_markSpanS_2 : Shape := ⟨[(0, .c (.ref 0)), (1, .c (.int .i64)), (5, .c (.int .i64))], [.lst 34 (.pair (.int .i64) (.int .i64))]⟩
noncomputable def laws_markSpanS_L2 : Nat → Int → Int → (List (Int × Int)) → Option (Int × (List (Int × Int)))
  | 0, _, _, _ => none
  | k + 1, a0, a1, a2 =>
  bif decide (a1 < (↑a2.length : Int)) then bif decide (0 ≤ a1) then bif decide (a1 < (↑a2.length : Int)) then (setO K2_PA2 0 [Cell.int IntKind.i64 a0] a2 a1).bind fun val => bif decide (0 ≤ a1) then bif decide (a1 < (↑val.length : Int)) then (setO K2_PA2 1 [Cell.int IntKind.i64 (IntKind.i64.wrap (a0 + 1))] val a1).bind fun val => laws_markSpanS_L2 k (IntKind.i64.wrap (IntKind.i64.wrap (a0 + 1) + 1)) (IntKind.i64.wrap (a1 + 1)) val else none else none else none else none else some (a0, a2)
noncomputable def j_laws_markSpanS : List (Nat × (Nat → Cut (Int × (List (Int × Int))))) := [(2, fun k => ⟨s_laws_markSpanS_2, fun x => laws_markSpanS_L2 k x.1.2.1 x.1.2.2.1 x.2.1⟩)]
noncomputable def laws_markSpanS_F (k : Nat) (a0 : Int) (a1 : List (Int × Int)) : Option (Int × (List (Int × Int))) :=
  laws_markSpanS_L2 k a0 0 a1
noncomputable def laws_markSpanS (a0 : Int) (a1 : List (Int × Int)) : Option (Int × (List (Int × Int))) := evF fun k => laws_markSpanS_F k a0 a1
noncomputable def g_laws_markSpanS : Sg := ⟨i_laws_markSpanS, o_laws_markSpanS, Int × (List (Int × Int)), fun y => ((y.1, ()), (y.2, ())), fun x => laws_markSpanS x.1.2.1 x.2.1⟩
noncomputable def C_laws_markSpanS : Ctx := ⟨27, tiOf Tryd.prog, gl, sgOf []⟩
noncomputable def r_laws_markSpanS : AExit → Env → Option (Int × (List (Int × Int))) := retK C_laws_markSpanS 1 o_laws_markSpanS (fun y => (y.1.1, y.2.1)) Tryd.f47.results.toList
theorem e_laws_markSpanS : Sound Tryd.prog gl 47 g_laws_markSpanS :=
  sound_cuts (C := C_laws_markSpanS) ⟨fun _ _ h => h, by kernel_rfl⟩ (sgOf_all' trivial) 47 Tryd.f47 g_laws_markSpanS (fun y => (y.1.1, y.2.1)) j_laws_markSpanS 1 (by kernel_rfl) (by kernel_rfl) (by kernel_rfl) (by kernel_rfl) (by kernel_rfl) (by kernel_rfl) (fun _ => rfl) (by kernel_rfl) (by kernel_rfl)
    ⟨trivial, s_laws_markSpanS_2, fun k x => laws_markSpanS_L2 k x.1.2.1 x.1.2.2.1 x.2.1, ⟨fun k => by kernel_rfl, fun k y => by kernel_rfl, fun y => by kernel_rfl⟩⟩
    (fun k x => laws_markSpanS_F k x.1.2.1 x.2.1) (fun x => rfl) (fun k x => by kernel_rfl)
-- loop.example/g00051/laws.heldSpanS
noncomputable def i_laws_heldSpanS : Shape := ⟨[(0, .c (.sl (.pair (.int .i64) (.int .i64)))), (1, .c (.int .i64))], []⟩
noncomputable def o_laws_heldSpanS : Shape := ⟨[(0, .c (.int .i64))], []⟩
noncomputable def s_laws_heldSpanS_2 : Shape := ⟨[(0, .c (.sl (.pair (.int .i64) (.int .i64)))), (1, .c (.int .i64)), (5, .c (.int .i64))], []⟩
noncomputable def laws_heldSpanS_L2 : Nat → (List (Int × Int)) → Int → Int → Option (Int)
  | 0, _, _, _ => none
  | k + 1, a0, a1, a2 =>
  bif decide (a2 < (↑a0.length : Int)) then bif decide (0 ≤ a2) then bif decide (a2 < (↑a0.length : Int)) then bif (rd K2_PA2 a0 a2).fst != a1 then some (-1) else bif decide (0 ≤ a2) then bif decide (a2 < (↑a0.length : Int)) then bif (rd K2_PA2 a0 a2).snd != IntKind.i64.wrap (a1 + 1) then some (-1) else laws_heldSpanS_L2 k a0 (IntKind.i64.wrap (IntKind.i64.wrap (a1 + 1) + 1)) (IntKind.i64.wrap (a2 + 1)) else none else none else none else none else some a1
noncomputable def j_laws_heldSpanS : List (Nat × (Nat → Cut (Int))) := [(2, fun k => ⟨s_laws_heldSpanS_2, fun x => laws_heldSpanS_L2 k x.1.1 x.1.2.1 x.1.2.2.1⟩)]
noncomputable def laws_heldSpanS_F (k : Nat) (a0 : List (Int × Int)) (a1 : Int) : Option (Int) :=
  laws_heldSpanS_L2 k a0 a1 0
noncomputable def laws_heldSpanS (a0 : List (Int × Int)) (a1 : Int) : Option (Int) := evF fun k => laws_heldSpanS_F k a0 a1
noncomputable def g_laws_heldSpanS : Sg := ⟨i_laws_heldSpanS, o_laws_heldSpanS, Int, fun y => ((y, ()), ()), fun x => laws_heldSpanS x.1.1 x.1.2.1⟩
noncomputable def C_laws_heldSpanS : Ctx := ⟨31, tiOf Tryd.prog, gl, sgOf []⟩
noncomputable def r_laws_heldSpanS : AExit → Env → Option (Int) := retK C_laws_heldSpanS 0 o_laws_heldSpanS (fun y => y.1.1) Tryd.f48.results.toList
theorem e_laws_heldSpanS : Sound Tryd.prog gl 48 g_laws_heldSpanS :=
  sound_cuts (C := C_laws_heldSpanS) ⟨fun _ _ h => h, by kernel_rfl⟩ (sgOf_all' trivial) 48 Tryd.f48 g_laws_heldSpanS (fun y => y.1.1) j_laws_heldSpanS 1 (by kernel_rfl) (by kernel_rfl) (by kernel_rfl) (by kernel_rfl) (by kernel_rfl) (by kernel_rfl) (fun _ => rfl) (by kernel_rfl) (by kernel_rfl)
    ⟨trivial, s_laws_heldSpanS_2, fun k x => laws_heldSpanS_L2 k x.1.1 x.1.2.1 x.1.2.2.1, ⟨fun k => by kernel_rfl, fun k y => by kernel_rfl, fun y => by kernel_rfl⟩⟩
    (fun k x => laws_heldSpanS_F k x.1.1 x.1.2.1) (fun x => rfl) (fun k x => by kernel_rfl)
-- loop.example/g00051/laws.FnExactParts
noncomputable def i_laws_FnExactParts : Shape := ⟨[(0, .agg [.str, .int .i64, .int .i64, .int .i64, .int .i64, .int .i64, .int .i64, .str, .str, .int .i64, .sl (.pair (.int .i64) (.pair (.int .i64) (.pair (.int .i64) (.pair (.int .i64) (.pair (.int .i64) (.pair (.int .i64) (.pair .str (.pair .str (.int .i64)))))))))])], []⟩
noncomputable def o_laws_FnExactParts : Shape := ⟨[(0, .c (.bool))], []⟩
noncomputable def laws_FnExactParts (a0 : ByteArray) (a1 : Int) (a2 : Int) (a3 : Int) (a4 : Int) (a5 : Int) (a6 : Int) (a7 : ByteArray) (a8 : ByteArray) (a9 : Int) (a10 : List (Int × Int × Int × Int × Int × Int × ByteArray × ByteArray × Int)) : Option (Bool) :=
  (laws_szTaf a0 a1 a2 a3 a4 a5 a6 a7 a8 a9 a10 1048576).bind fun val =>
   bif decide (val < 0) then some true
   else
    (laws_toTaf a0 a1 a2 a3 a4 a5 a6 a7 a8 a9 a10).bind fun val =>
     (spec_Parts val.fst val.snd.fst val.snd.snd.fst val.snd.snd.snd.fst val.snd.snd.snd.snd.fst val.snd.snd.snd.snd.snd.fst val.snd.snd.snd.snd.snd.snd.fst val.snd.snd.snd.snd.snd.snd.snd.fst val.snd.snd.snd.snd.snd.snd.snd.snd.fst val.snd.snd.snd.snd.snd.snd.snd.snd.snd.fst val.snd.snd.snd.snd.snd.snd.snd.snd.snd.snd).bind fun val =>
      (laws_toTaf a0 a1 a2 a3 a4 a5 a6 a7 a8 a9 a10).bind fun val_1 =>
       (impl_Parts val_1.fst val_1.snd.fst val_1.snd.snd.fst val_1.snd.snd.snd.fst val_1.snd.snd.snd.snd.fst val_1.snd.snd.snd.snd.snd.fst val_1.snd.snd.snd.snd.snd.snd.fst val_1.snd.snd.snd.snd.snd.snd.snd.fst val_1.snd.snd.snd.snd.snd.snd.snd.snd.fst val_1.snd.snd.snd.snd.snd.snd.snd.snd.snd.fst val_1.snd.snd.snd.snd.snd.snd.snd.snd.snd.snd).bind fun val_2 =>
        (laws_eqSpanS val_2 val).bind fun val_3 =>
         bif !val_3 then some false
         else
          (laws_toTaf a0 a1 a2 a3 a4 a5 a6 a7 a8 a9 a10).bind fun val_4 =>
           (laws_eqTaf val_1.fst val_1.snd.fst val_1.snd.snd.fst val_1.snd.snd.snd.fst val_1.snd.snd.snd.snd.fst val_1.snd.snd.snd.snd.snd.fst val_1.snd.snd.snd.snd.snd.snd.fst val_1.snd.snd.snd.snd.snd.snd.snd.fst val_1.snd.snd.snd.snd.snd.snd.snd.snd.fst val_1.snd.snd.snd.snd.snd.snd.snd.snd.snd.fst val_1.snd.snd.snd.snd.snd.snd.snd.snd.snd.snd val_4.fst val_4.snd.fst val_4.snd.snd.fst val_4.snd.snd.snd.fst val_4.snd.snd.snd.snd.fst val_4.snd.snd.snd.snd.snd.fst val_4.snd.snd.snd.snd.snd.snd.fst val_4.snd.snd.snd.snd.snd.snd.snd.fst val_4.snd.snd.snd.snd.snd.snd.snd.snd.fst val_4.snd.snd.snd.snd.snd.snd.snd.snd.snd.fst val_4.snd.snd.snd.snd.snd.snd.snd.snd.snd.snd).bind fun val_5 =>
            bif !val_5 then some false else (laws_markTaf val_1.fst val_1.snd.fst val_1.snd.snd.fst val_1.snd.snd.snd.fst val_1.snd.snd.snd.snd.fst val_1.snd.snd.snd.snd.snd.fst val_1.snd.snd.snd.snd.snd.snd.fst val_1.snd.snd.snd.snd.snd.snd.snd.fst val_1.snd.snd.snd.snd.snd.snd.snd.snd.fst val_1.snd.snd.snd.snd.snd.snd.snd.snd.snd.fst 1 val_1.snd.snd.snd.snd.snd.snd.snd.snd.snd.snd).bind fun val_6 => bif decide (val_6.fst < 0) then some false else (laws_eqSpanS val_2 val).bind fun val_7 => bif !val_7 then some false else (laws_markSpanS 1 val_2).bind fun val_8 => (laws_heldSpanS val_8.snd 1).bind fun val_9 => bif decide (val_9 < 0) then some false else bif val_9 != val_8.fst then some false else (laws_toTaf a0 a1 a2 a3 a4 a5 a6 a7 a8 a9 a10).bind fun val_10 => (impl_Parts val_10.fst val_10.snd.fst val_10.snd.snd.fst val_10.snd.snd.snd.fst val_10.snd.snd.snd.snd.fst val_10.snd.snd.snd.snd.snd.fst val_10.snd.snd.snd.snd.snd.snd.fst val_10.snd.snd.snd.snd.snd.snd.snd.fst val_10.snd.snd.snd.snd.snd.snd.snd.snd.fst val_10.snd.snd.snd.snd.snd.snd.snd.snd.snd.fst val_10.snd.snd.snd.snd.snd.snd.snd.snd.snd.snd).bind fun val_11 => (laws_eqSpanS val_11 val).bind fun val => bif !val then some false else (laws_heldSpanS val_8.snd 1).bind fun val => bif decide (val < 0) then some false else bif val != val_8.fst then some false else some true
noncomputable def g_laws_FnExactParts : Sg := ⟨i_laws_FnExactParts, o_laws_FnExactParts, Bool, fun y => ((y, ()), ()), fun x => laws_FnExactParts x.1.1.1 x.1.1.2.1 x.1.1.2.2.1 x.1.1.2.2.2.1 x.1.1.2.2.2.2.1 x.1.1.2.2.2.2.2.1 x.1.1.2.2.2.2.2.2.1 x.1.1.2.2.2.2.2.2.2.1 x.1.1.2.2.2.2.2.2.2.2.1 x.1.1.2.2.2.2.2.2.2.2.2.1 x.1.1.2.2.2.2.2.2.2.2.2.2.1⟩
noncomputable def C_laws_FnExactParts : Ctx := ⟨69, tiOf Tryd.prog, gl, sgOf [(14, g_laws_szTaf), (16, g_laws_toTaf), (44, g_spec_Parts), (45, g_impl_Parts), (46, g_laws_eqSpanS), (20, g_laws_eqTaf), (21, g_laws_markTaf), (47, g_laws_markSpanS), (48, g_laws_heldSpanS)]⟩
noncomputable def r_laws_FnExactParts : AExit → Env → Option (Bool) := retK C_laws_FnExactParts 0 o_laws_FnExactParts (fun y => y.1.1) Tryd.f9.results.toList
theorem e_laws_FnExactParts : Sound Tryd.prog gl 9 g_laws_FnExactParts :=
  sound_plain (C := C_laws_FnExactParts) ⟨fun _ _ h => h, by kernel_rfl⟩ (sgOf_all' ⟨⟨by kernel_rfl, (Sound.mono gl_SA (by rfl) e_laws_szTaf)⟩, ⟨by kernel_rfl, (Sound.mono gl_SA (by rfl) e_laws_toTaf)⟩, ⟨by kernel_rfl, e_spec_Parts⟩, ⟨by kernel_rfl, e_impl_Parts⟩, ⟨by kernel_rfl, e_laws_eqSpanS⟩, ⟨by kernel_rfl, (Sound.mono gl_SA (by rfl) e_laws_eqTaf)⟩, ⟨by kernel_rfl, (Sound.mono gl_SA (by rfl) e_laws_markTaf)⟩, ⟨by kernel_rfl, e_laws_markSpanS⟩, ⟨by kernel_rfl, e_laws_heldSpanS⟩, trivial⟩) 9 Tryd.f9 g_laws_FnExactParts (fun y => y.1.1) (by kernel_rfl) (by kernel_rfl) (by kernel_rfl) (by kernel_rfl) (by kernel_rfl) (by kernel_rfl) (fun _ => rfl) (fun x => by kernel_rfl)
-- loop.example/g00051/spec.WorstSight
noncomputable def i_spec_WorstSight : Shape := ⟨[(0, .agg [.str, .int .i64, .int .i64, .int .i64, .int .i64, .int .i64, .int .i64, .str, .str, .int .i64, .sl (.pair (.int .i64) (.pair (.int .i64) (.pair (.int .i64) (.pair (.int .i64) (.pair (.int .i64) (.pair (.int .i64) (.pair .str (.pair .str (.int .i64)))))))))])], []⟩
noncomputable def o_spec_WorstSight : Shape := ⟨[(0, .c (.int .i64))], []⟩
noncomputable def s_spec_WorstSight_6 : Shape := ⟨[(1, .c (.ptr 0 0)), (3, .c (.int .i64)), (4, .c (.ref 1)), (5, .c (.int .i64))], [.box 37 [.str, .int .i64, .int .i64, .int .i64, .int .i64, .int .i64, .int .i64, .str, .str, .int .i64, .sl (.pair (.int .i64) (.pair (.int .i64) (.pair (.int .i64) (.pair (.int .i64) (.pair (.int .i64) (.pair (.int .i64) (.pair .str (.pair .str (.int .i64)))))))))], .lst 34 (.pair (.int .i64) (.int .i64))]⟩
noncomputable def s_spec_WorstSight_11 : Shape := ⟨[(1, .c (.ptr 0 0)), (3, .c (.int .i64)), (4, .c (.ref 1)), (5, .c (.int .i64)), (7, .c (.ref 2)), (9, .c (.int .i64))], [.box 37 [.str, .int .i64, .int .i64, .int .i64, .int .i64, .int .i64, .int .i64, .str, .str, .int .i64, .sl (.pair (.int .i64) (.pair (.int .i64) (.pair (.int .i64) (.pair (.int .i64) (.pair (.int .i64) (.pair (.int .i64) (.pair .str (.pair .str (.int .i64)))))))))], .lst 34 (.pair (.int .i64) (.int .i64)), .lst 30 (.pair (.int .i64) (.pair (.int .i64) (.pair (.int .i64) (.pair .str (.pair .str (.int .i64))))))]⟩
mutual
noncomputable def spec_WorstSight_L6 : Nat → Int → Int → ByteArray → Int → Int → Int → Int → Int → Int → ByteArray → ByteArray → Int → (List (Int × Int × Int × Int × Int × Int × ByteArray × ByteArray × Int)) → (List (Int × Int)) → Option (Int)
  | 0, _, _, _, _, _, _, _, _, _, _, _, _, _, _ => none
  | k + 1, a0, a1, a2, a3, a4, a5, a6, a7, a8, a9, a10, a11, a12, a13 =>
  bif decide (a1 < (↑a13.length : Int)) then bif decide (0 ≤ a1) then bif decide (a1 < (↑a13.length : Int)) then bif decide (a1 < (↑a13.length : Int)) then (spec_StateAt a2 a3 a4 a5 a6 a7 a8 a9 a10 a11 a12 (rd K2_PA2 a13 a1).fst).bind fun val => spec_WorstSight_L11 k (if val.snd.snd.fst < a0 then val.snd.snd.fst else a0) a1 0 a2 a3 a4 a5 a6 a7 a8 a9 a10 a11 a12 a13 val.snd.snd.snd.snd.snd.snd.snd else none else none else none else some a0
noncomputable def spec_WorstSight_L11 : Nat → Int → Int → Int → ByteArray → Int → Int → Int → Int → Int → Int → ByteArray → ByteArray → Int → (List (Int × Int × Int × Int × Int × Int × ByteArray × ByteArray × Int)) → (List (Int × Int)) → (List (Int × Int × Int × ByteArray × ByteArray × Int)) → Option (Int)
  | 0, _, _, _, _, _, _, _, _, _, _, _, _, _, _, _, _ => none
  | k + 1, a0, a1, a2, a3, a4, a5, a6, a7, a8, a9, a10, a11, a12, a13, a14, a15 =>
  bif decide (a2 < (↑a15.length : Int)) then bif decide (0 ≤ a2) then bif decide (a2 < (↑a15.length : Int)) then bif decide (a2 < (↑a15.length : Int)) then spec_WorstSight_L11 k (if (rd K6_1 a15 a2).snd.snd.fst < a0 then (rd K6_1 a15 a2).snd.snd.fst else a0) a1 (IntKind.i64.wrap (a2 + 1)) a3 a4 a5 a6 a7 a8 a9 a10 a11 a12 a13 a14 a15 else none else none else none else spec_WorstSight_L6 k a0 (IntKind.i64.wrap (a1 + 1)) a3 a4 a5 a6 a7 a8 a9 a10 a11 a12 a13 a14
end
noncomputable def j_spec_WorstSight : List (Nat × (Nat → Cut (Int))) := [(6, fun k => ⟨s_spec_WorstSight_6, fun x => spec_WorstSight_L6 k x.1.2.1 x.1.2.2.2.1 x.2.1.1 x.2.1.2.1 x.2.1.2.2.1 x.2.1.2.2.2.1 x.2.1.2.2.2.2.1 x.2.1.2.2.2.2.2.1 x.2.1.2.2.2.2.2.2.1 x.2.1.2.2.2.2.2.2.2.1 x.2.1.2.2.2.2.2.2.2.2.1 x.2.1.2.2.2.2.2.2.2.2.2.1 x.2.1.2.2.2.2.2.2.2.2.2.2.1 x.2.2.1⟩), (11, fun k => ⟨s_spec_WorstSight_11, fun x => spec_WorstSight_L11 k x.1.2.1 x.1.2.2.2.1 x.1.2.2.2.2.2.1 x.2.1.1 x.2.1.2.1 x.2.1.2.2.1 x.2.1.2.2.2.1 x.2.1.2.2.2.2.1 x.2.1.2.2.2.2.2.1 x.2.1.2.2.2.2.2.2.1 x.2.1.2.2.2.2.2.2.2.1 x.2.1.2.2.2.2.2.2.2.2.1 x.2.1.2.2.2.2.2.2.2.2.2.1 x.2.1.2.2.2.2.2.2.2.2.2.2.1 x.2.2.1 x.2.2.2.1⟩)]
noncomputable def spec_WorstSight_F (k : Nat) (a0 : ByteArray) (a1 : Int) (a2 : Int) (a3 : Int) (a4 : Int) (a5 : Int) (a6 : Int) (a7 : ByteArray) (a8 : ByteArray) (a9 : Int) (a10 : List (Int × Int × Int × Int × Int × Int × ByteArray × ByteArray × Int)) : Option (Int) :=
  (spec_TafOk a0 a1 a2 a3 a4 a5 a6 a7 a8 a9 a10).bind fun val => bif !val then some (-1) else (spec_Parts a0 a1 a2 a3 a4 a5 a6 a7 a8 a9 a10).bind fun val => spec_WorstSight_L6 k 9999 0 a0 a1 a2 a3 a4 a5 a6 a7 a8 a9 a10 val
noncomputable def spec_WorstSight (a0 : ByteArray) (a1 : Int) (a2 : Int) (a3 : Int) (a4 : Int) (a5 : Int) (a6 : Int) (a7 : ByteArray) (a8 : ByteArray) (a9 : Int) (a10 : List (Int × Int × Int × Int × Int × Int × ByteArray × ByteArray × Int)) : Option (Int) := evF fun k => spec_WorstSight_F k a0 a1 a2 a3 a4 a5 a6 a7 a8 a9 a10
noncomputable def g_spec_WorstSight : Sg := ⟨i_spec_WorstSight, o_spec_WorstSight, Int, fun y => ((y, ()), ()), fun x => spec_WorstSight x.1.1.1 x.1.1.2.1 x.1.1.2.2.1 x.1.1.2.2.2.1 x.1.1.2.2.2.2.1 x.1.1.2.2.2.2.2.1 x.1.1.2.2.2.2.2.2.1 x.1.1.2.2.2.2.2.2.2.1 x.1.1.2.2.2.2.2.2.2.2.1 x.1.1.2.2.2.2.2.2.2.2.2.1 x.1.1.2.2.2.2.2.2.2.2.2.2.1⟩
noncomputable def C_spec_WorstSight : Ctx := ⟨50, tiOf Tryd.prog, gl, sgOf [(59, g_spec_TafOk), (44, g_spec_Parts), (15, g_spec_StateAt)]⟩
noncomputable def r_spec_WorstSight : AExit → Env → Option (Int) := retK C_spec_WorstSight 0 o_spec_WorstSight (fun y => y.1.1) Tryd.f49.results.toList
theorem e_spec_WorstSight : Sound Tryd.prog gl 49 g_spec_WorstSight :=
  sound_cuts (C := C_spec_WorstSight) ⟨fun _ _ h => h, by kernel_rfl⟩ (sgOf_all' ⟨⟨by kernel_rfl, (Sound.mono gl_SA (by rfl) e_spec_TafOk)⟩, ⟨by kernel_rfl, e_spec_Parts⟩, ⟨by kernel_rfl, (Sound.mono gl_SA (by rfl) e_spec_StateAt)⟩, trivial⟩) 49 Tryd.f49 g_spec_WorstSight (fun y => y.1.1) j_spec_WorstSight 2 (by kernel_rfl) (by kernel_rfl) (by kernel_rfl) (by kernel_rfl) (by kernel_rfl) (by kernel_rfl) (fun _ => rfl) (by kernel_rfl) (by kernel_rfl)
    ⟨⟨trivial, s_spec_WorstSight_6, fun k x => spec_WorstSight_L6 k x.1.2.1 x.1.2.2.2.1 x.2.1.1 x.2.1.2.1 x.2.1.2.2.1 x.2.1.2.2.2.1 x.2.1.2.2.2.2.1 x.2.1.2.2.2.2.2.1 x.2.1.2.2.2.2.2.2.1 x.2.1.2.2.2.2.2.2.2.1 x.2.1.2.2.2.2.2.2.2.2.1 x.2.1.2.2.2.2.2.2.2.2.2.1 x.2.1.2.2.2.2.2.2.2.2.2.2.1 x.2.2.1, ⟨fun k => by kernel_rfl, fun k y => by kernel_rfl, fun y => by kernel_rfl⟩⟩, s_spec_WorstSight_11, fun k x => spec_WorstSight_L11 k x.1.2.1 x.1.2.2.2.1 x.1.2.2.2.2.2.1 x.2.1.1 x.2.1.2.1 x.2.1.2.2.1 x.2.1.2.2.2.1 x.2.1.2.2.2.2.1 x.2.1.2.2.2.2.2.1 x.2.1.2.2.2.2.2.2.1 x.2.1.2.2.2.2.2.2.2.1 x.2.1.2.2.2.2.2.2.2.2.1 x.2.1.2.2.2.2.2.2.2.2.2.1 x.2.1.2.2.2.2.2.2.2.2.2.2.1 x.2.2.1 x.2.2.2.1, ⟨fun k => by kernel_rfl, fun k y => by kernel_rfl, fun y => by kernel_rfl⟩⟩
    (fun k x => spec_WorstSight_F k x.1.1.1 x.1.1.2.1 x.1.1.2.2.1 x.1.1.2.2.2.1 x.1.1.2.2.2.2.1 x.1.1.2.2.2.2.2.1 x.1.1.2.2.2.2.2.2.1 x.1.1.2.2.2.2.2.2.2.1 x.1.1.2.2.2.2.2.2.2.2.1 x.1.1.2.2.2.2.2.2.2.2.2.1 x.1.1.2.2.2.2.2.2.2.2.2.2.1) (fun x => rfl) (fun k x => by kernel_rfl)
-- loop.example/g00051/impl.WorstSight
noncomputable def i_impl_WorstSight : Shape := ⟨[(0, .agg [.str, .int .i64, .int .i64, .int .i64, .int .i64, .int .i64, .int .i64, .str, .str, .int .i64, .sl (.pair (.int .i64) (.pair (.int .i64) (.pair (.int .i64) (.pair (.int .i64) (.pair (.int .i64) (.pair (.int .i64) (.pair .str (.pair .str (.int .i64)))))))))])], []⟩
noncomputable def o_impl_WorstSight : Shape := ⟨[(0, .c (.int .i64))], []⟩
noncomputable def s_impl_WorstSight_3 : Shape := ⟨[(1, .c (.ptr 0 0)), (3, .c (.int .i64)), (12, .c (.ref 1)), (13, .c (.int .i64)), (14, .c (.int .i64))], [.box 37 [.str, .int .i64, .int .i64, .int .i64, .int .i64, .int .i64, .int .i64, .str, .str, .int .i64, .sl (.pair (.int .i64) (.pair (.int .i64) (.pair (.int .i64) (.pair (.int .i64) (.pair (.int .i64) (.pair (.int .i64) (.pair .str (.pair .str (.int .i64)))))))))], .lst 34 (.pair (.int .i64) (.int .i64))]⟩
noncomputable def s_impl_WorstSight_7 : Shape := ⟨[(1, .c (.ptr 0 0)), (3, .c (.int .i64)), (12, .c (.ref 1)), (13, .c (.int .i64)), (14, .c (.int .i64)), (29, .c (.ref 2)), (30, .c (.int .i64)), (31, .c (.int .i64))], [.box 37 [.str, .int .i64, .int .i64, .int .i64, .int .i64, .int .i64, .int .i64, .str, .str, .int .i64, .sl (.pair (.int .i64) (.pair (.int .i64) (.pair (.int .i64) (.pair (.int .i64) (.pair (.int .i64) (.pair (.int .i64) (.pair .str (.pair .str (.int .i64)))))))))], .lst 34 (.pair (.int .i64) (.int .i64)), .lst 30 (.pair (.int .i64) (.pair (.int .i64) (.pair (.int .i64) (.pair .str (.pair .str (.int .i64))))))]⟩
mutual
noncomputable def impl_WorstSight_L3 : Nat → Int → Int → Int → ByteArray → Int → Int → Int → Int → Int → Int → ByteArray → ByteArray → Int → (List (Int × Int × Int × Int × Int × Int × ByteArray × ByteArray × Int)) → (List (Int × Int)) → Option (Int)
  | 0, _, _, _, _, _, _, _, _, _, _, _, _, _, _, _ => none
  | k + 1, a0, a1, a2, a3, a4, a5, a6, a7, a8, a9, a10, a11, a12, a13, a14 =>
  bif decide (a2 < a1) then bif decide (0 ≤ a2) then bif decide (a2 < (↑a14.length : Int)) then bif decide (a2 < (↑a14.length : Int)) then (impl_StateAt a3 a4 a5 a6 a7 a8 a9 a10 a11 a12 a13 (rd K2_PA2 a14 a2).fst).bind fun val => bif decide (val.snd.snd.snd.snd.snd.snd.snd.length + [(val.fst, val.snd.fst, val.snd.snd.fst, val.snd.snd.snd.fst, val.snd.snd.snd.snd.fst, val.snd.snd.snd.snd.snd.fst)].length ≤ maxBytes / 64) then impl_WorstSight_L7 k a0 a1 a2 (↑(val.snd.snd.snd.snd.snd.snd.snd ++ [(val.fst, val.snd.fst, val.snd.snd.fst, val.snd.snd.snd.fst, val.snd.snd.snd.snd.fst, val.snd.snd.snd.snd.snd.fst)]).length : Int) 0 a3 a4 a5 a6 a7 a8 a9 a10 a11 a12 a13 a14 (val.snd.snd.snd.snd.snd.snd.snd ++ [(val.fst, val.snd.fst, val.snd.snd.fst, val.snd.snd.snd.fst, val.snd.snd.snd.snd.fst, val.snd.snd.snd.snd.snd.fst)]) else none else none else none else none else some a0
noncomputable def impl_WorstSight_L7 : Nat → Int → Int → Int → Int → Int → ByteArray → Int → Int → Int → Int → Int → Int → ByteArray → ByteArray → Int → (List (Int × Int × Int × Int × Int × Int × ByteArray × ByteArray × Int)) → (List (Int × Int)) → (List (Int × Int × Int × ByteArray × ByteArray × Int)) → Option (Int)
  | 0, _, _, _, _, _, _, _, _, _, _, _, _, _, _, _, _, _, _ => none
  | k + 1, a0, a1, a2, a3, a4, a5, a6, a7, a8, a9, a10, a11, a12, a13, a14, a15, a16, a17 =>
  bif decide (a4 < a3) then bif decide (0 ≤ a4) then bif decide (a4 < (↑a17.length : Int)) then bif decide (a4 < (↑a17.length : Int)) then bif decide (a0 < 0) then impl_WorstSight_L7 k (rd K6_1 a17 a4).snd.snd.fst a1 a2 a3 (IntKind.i64.wrap (a4 + 1)) a5 a6 a7 a8 a9 a10 a11 a12 a13 a14 a15 a16 a17 else bif decide ((rd K6_1 a17 a4).snd.snd.fst < a0) then impl_WorstSight_L7 k (rd K6_1 a17 a4).snd.snd.fst a1 a2 a3 (IntKind.i64.wrap (a4 + 1)) a5 a6 a7 a8 a9 a10 a11 a12 a13 a14 a15 a16 a17 else impl_WorstSight_L7 k a0 a1 a2 a3 (IntKind.i64.wrap (a4 + 1)) a5 a6 a7 a8 a9 a10 a11 a12 a13 a14 a15 a16 a17 else none else none else none else impl_WorstSight_L3 k a0 a1 (IntKind.i64.wrap (a2 + 1)) a5 a6 a7 a8 a9 a10 a11 a12 a13 a14 a15 a16
end
noncomputable def j_impl_WorstSight : List (Nat × (Nat → Cut (Int))) := [(3, fun k => ⟨s_impl_WorstSight_3, fun x => impl_WorstSight_L3 k x.1.2.1 x.1.2.2.2.1 x.1.2.2.2.2.1 x.2.1.1 x.2.1.2.1 x.2.1.2.2.1 x.2.1.2.2.2.1 x.2.1.2.2.2.2.1 x.2.1.2.2.2.2.2.1 x.2.1.2.2.2.2.2.2.1 x.2.1.2.2.2.2.2.2.2.1 x.2.1.2.2.2.2.2.2.2.2.1 x.2.1.2.2.2.2.2.2.2.2.2.1 x.2.1.2.2.2.2.2.2.2.2.2.2.1 x.2.2.1⟩), (7, fun k => ⟨s_impl_WorstSight_7, fun x => impl_WorstSight_L7 k x.1.2.1 x.1.2.2.2.1 x.1.2.2.2.2.1 x.1.2.2.2.2.2.2.1 x.1.2.2.2.2.2.2.2.1 x.2.1.1 x.2.1.2.1 x.2.1.2.2.1 x.2.1.2.2.2.1 x.2.1.2.2.2.2.1 x.2.1.2.2.2.2.2.1 x.2.1.2.2.2.2.2.2.1 x.2.1.2.2.2.2.2.2.2.1 x.2.1.2.2.2.2.2.2.2.2.1 x.2.1.2.2.2.2.2.2.2.2.2.1 x.2.1.2.2.2.2.2.2.2.2.2.2.1 x.2.2.1 x.2.2.2.1⟩)]
noncomputable def impl_WorstSight_F (k : Nat) (a0 : ByteArray) (a1 : Int) (a2 : Int) (a3 : Int) (a4 : Int) (a5 : Int) (a6 : Int) (a7 : ByteArray) (a8 : ByteArray) (a9 : Int) (a10 : List (Int × Int × Int × Int × Int × Int × ByteArray × ByteArray × Int)) : Option (Int) :=
  (impl_Parts a0 a1 a2 a3 a4 a5 a6 a7 a8 a9 a10).bind fun val => impl_WorstSight_L3 k (-1) (↑(List.length val) : Int) 0 a0 a1 a2 a3 a4 a5 a6 a7 a8 a9 a10 val
noncomputable def impl_WorstSight (a0 : ByteArray) (a1 : Int) (a2 : Int) (a3 : Int) (a4 : Int) (a5 : Int) (a6 : Int) (a7 : ByteArray) (a8 : ByteArray) (a9 : Int) (a10 : List (Int × Int × Int × Int × Int × Int × ByteArray × ByteArray × Int)) : Option (Int) := evF fun k => impl_WorstSight_F k a0 a1 a2 a3 a4 a5 a6 a7 a8 a9 a10
noncomputable def g_impl_WorstSight : Sg := ⟨i_impl_WorstSight, o_impl_WorstSight, Int, fun y => ((y, ()), ()), fun x => impl_WorstSight x.1.1.1 x.1.1.2.1 x.1.1.2.2.1 x.1.1.2.2.2.1 x.1.1.2.2.2.2.1 x.1.1.2.2.2.2.2.1 x.1.1.2.2.2.2.2.2.1 x.1.1.2.2.2.2.2.2.2.1 x.1.1.2.2.2.2.2.2.2.2.1 x.1.1.2.2.2.2.2.2.2.2.2.1 x.1.1.2.2.2.2.2.2.2.2.2.2.1⟩
noncomputable def C_impl_WorstSight : Ctx := ⟨48, tiOf Tryd.prog, gl, sgOf [(45, g_impl_Parts), (17, g_impl_StateAt)]⟩
noncomputable def r_impl_WorstSight : AExit → Env → Option (Int) := retK C_impl_WorstSight 0 o_impl_WorstSight (fun y => y.1.1) Tryd.f50.results.toList
theorem e_impl_WorstSight : Sound Tryd.prog gl 50 g_impl_WorstSight :=
  sound_cuts (C := C_impl_WorstSight) ⟨fun _ _ h => h, by kernel_rfl⟩ (sgOf_all' ⟨⟨by kernel_rfl, e_impl_Parts⟩, ⟨by kernel_rfl, (Sound.mono gl_SA (by rfl) e_impl_StateAt)⟩, trivial⟩) 50 Tryd.f50 g_impl_WorstSight (fun y => y.1.1) j_impl_WorstSight 2 (by kernel_rfl) (by kernel_rfl) (by kernel_rfl) (by kernel_rfl) (by kernel_rfl) (by kernel_rfl) (fun _ => rfl) (by kernel_rfl) (by kernel_rfl)
    ⟨⟨trivial, s_impl_WorstSight_3, fun k x => impl_WorstSight_L3 k x.1.2.1 x.1.2.2.2.1 x.1.2.2.2.2.1 x.2.1.1 x.2.1.2.1 x.2.1.2.2.1 x.2.1.2.2.2.1 x.2.1.2.2.2.2.1 x.2.1.2.2.2.2.2.1 x.2.1.2.2.2.2.2.2.1 x.2.1.2.2.2.2.2.2.2.1 x.2.1.2.2.2.2.2.2.2.2.1 x.2.1.2.2.2.2.2.2.2.2.2.1 x.2.1.2.2.2.2.2.2.2.2.2.2.1 x.2.2.1, ⟨fun k => by kernel_rfl, fun k y => by kernel_rfl, fun y => by kernel_rfl⟩⟩, s_impl_WorstSight_7, fun k x => impl_WorstSight_L7 k x.1.2.1 x.1.2.2.2.1 x.1.2.2.2.2.1 x.1.2.2.2.2.2.2.1 x.1.2.2.2.2.2.2.2.1 x.2.1.1 x.2.1.2.1 x.2.1.2.2.1 x.2.1.2.2.2.1 x.2.1.2.2.2.2.1 x.2.1.2.2.2.2.2.1 x.2.1.2.2.2.2.2.2.1 x.2.1.2.2.2.2.2.2.2.1 x.2.1.2.2.2.2.2.2.2.2.1 x.2.1.2.2.2.2.2.2.2.2.2.1 x.2.1.2.2.2.2.2.2.2.2.2.2.1 x.2.2.1 x.2.2.2.1, ⟨fun k => by kernel_rfl, fun k y => by kernel_rfl, fun y => by kernel_rfl⟩⟩
    (fun k x => impl_WorstSight_F k x.1.1.1 x.1.1.2.1 x.1.1.2.2.1 x.1.1.2.2.2.1 x.1.1.2.2.2.2.1 x.1.1.2.2.2.2.2.1 x.1.1.2.2.2.2.2.2.1 x.1.1.2.2.2.2.2.2.2.1 x.1.1.2.2.2.2.2.2.2.2.1 x.1.1.2.2.2.2.2.2.2.2.2.1 x.1.1.2.2.2.2.2.2.2.2.2.2.1) (fun x => rfl) (fun k x => by kernel_rfl)
-- loop.example/g00051/laws.FnExactWorstSight
noncomputable def i_laws_FnExactWorstSight : Shape := ⟨[(0, .agg [.str, .int .i64, .int .i64, .int .i64, .int .i64, .int .i64, .int .i64, .str, .str, .int .i64, .sl (.pair (.int .i64) (.pair (.int .i64) (.pair (.int .i64) (.pair (.int .i64) (.pair (.int .i64) (.pair (.int .i64) (.pair .str (.pair .str (.int .i64)))))))))])], []⟩
noncomputable def o_laws_FnExactWorstSight : Shape := ⟨[(0, .c (.bool))], []⟩
noncomputable def laws_FnExactWorstSight (a0 : ByteArray) (a1 : Int) (a2 : Int) (a3 : Int) (a4 : Int) (a5 : Int) (a6 : Int) (a7 : ByteArray) (a8 : ByteArray) (a9 : Int) (a10 : List (Int × Int × Int × Int × Int × Int × ByteArray × ByteArray × Int)) : Option (Bool) :=
  (laws_szTaf a0 a1 a2 a3 a4 a5 a6 a7 a8 a9 a10 1048576).bind fun val =>
   bif decide (val < 0) then some true
   else
    (laws_toTaf a0 a1 a2 a3 a4 a5 a6 a7 a8 a9 a10).bind fun val =>
     (spec_WorstSight val.fst val.snd.fst val.snd.snd.fst val.snd.snd.snd.fst val.snd.snd.snd.snd.fst val.snd.snd.snd.snd.snd.fst val.snd.snd.snd.snd.snd.snd.fst val.snd.snd.snd.snd.snd.snd.snd.fst val.snd.snd.snd.snd.snd.snd.snd.snd.fst val.snd.snd.snd.snd.snd.snd.snd.snd.snd.fst val.snd.snd.snd.snd.snd.snd.snd.snd.snd.snd).bind fun val =>
      (laws_toTaf a0 a1 a2 a3 a4 a5 a6 a7 a8 a9 a10).bind fun val_1 => (impl_WorstSight val_1.fst val_1.snd.fst val_1.snd.snd.fst val_1.snd.snd.snd.fst val_1.snd.snd.snd.snd.fst val_1.snd.snd.snd.snd.snd.fst val_1.snd.snd.snd.snd.snd.snd.fst val_1.snd.snd.snd.snd.snd.snd.snd.fst val_1.snd.snd.snd.snd.snd.snd.snd.snd.fst val_1.snd.snd.snd.snd.snd.snd.snd.snd.snd.fst val_1.snd.snd.snd.snd.snd.snd.snd.snd.snd.snd).bind fun val_2 => bif val_2 != val then some false else (laws_toTaf a0 a1 a2 a3 a4 a5 a6 a7 a8 a9 a10).bind fun val => (laws_eqTaf val_1.fst val_1.snd.fst val_1.snd.snd.fst val_1.snd.snd.snd.fst val_1.snd.snd.snd.snd.fst val_1.snd.snd.snd.snd.snd.fst val_1.snd.snd.snd.snd.snd.snd.fst val_1.snd.snd.snd.snd.snd.snd.snd.fst val_1.snd.snd.snd.snd.snd.snd.snd.snd.fst val_1.snd.snd.snd.snd.snd.snd.snd.snd.snd.fst val_1.snd.snd.snd.snd.snd.snd.snd.snd.snd.snd val.fst val.snd.fst val.snd.snd.fst val.snd.snd.snd.fst val.snd.snd.snd.snd.fst val.snd.snd.snd.snd.snd.fst val.snd.snd.snd.snd.snd.snd.fst val.snd.snd.snd.snd.snd.snd.snd.fst val.snd.snd.snd.snd.snd.snd.snd.snd.fst val.snd.snd.snd.snd.snd.snd.snd.snd.snd.fst val.snd.snd.snd.snd.snd.snd.snd.snd.snd.snd).bind fun val => bif !val then some false else some true
noncomputable def g_laws_FnExactWorstSight : Sg := ⟨i_laws_FnExactWorstSight, o_laws_FnExactWorstSight, Bool, fun y => ((y, ()), ()), fun x => laws_FnExactWorstSight x.1.1.1 x.1.1.2.1 x.1.1.2.2.1 x.1.1.2.2.2.1 x.1.1.2.2.2.2.1 x.1.1.2.2.2.2.2.1 x.1.1.2.2.2.2.2.2.1 x.1.1.2.2.2.2.2.2.2.1 x.1.1.2.2.2.2.2.2.2.2.1 x.1.1.2.2.2.2.2.2.2.2.2.1 x.1.1.2.2.2.2.2.2.2.2.2.2.1⟩
noncomputable def C_laws_FnExactWorstSight : Ctx := ⟨27, tiOf Tryd.prog, gl, sgOf [(14, g_laws_szTaf), (16, g_laws_toTaf), (49, g_spec_WorstSight), (50, g_impl_WorstSight), (20, g_laws_eqTaf)]⟩
noncomputable def r_laws_FnExactWorstSight : AExit → Env → Option (Bool) := retK C_laws_FnExactWorstSight 0 o_laws_FnExactWorstSight (fun y => y.1.1) Tryd.f10.results.toList
theorem e_laws_FnExactWorstSight : Sound Tryd.prog gl 10 g_laws_FnExactWorstSight :=
  sound_plain (C := C_laws_FnExactWorstSight) ⟨fun _ _ h => h, by kernel_rfl⟩ (sgOf_all' ⟨⟨by kernel_rfl, (Sound.mono gl_SA (by rfl) e_laws_szTaf)⟩, ⟨by kernel_rfl, (Sound.mono gl_SA (by rfl) e_laws_toTaf)⟩, ⟨by kernel_rfl, e_spec_WorstSight⟩, ⟨by kernel_rfl, e_impl_WorstSight⟩, ⟨by kernel_rfl, (Sound.mono gl_SA (by rfl) e_laws_eqTaf)⟩, trivial⟩) 10 Tryd.f10 g_laws_FnExactWorstSight (fun y => y.1.1) (by kernel_rfl) (by kernel_rfl) (by kernel_rfl) (by kernel_rfl) (by kernel_rfl) (by kernel_rfl) (fun _ => rfl) (fun x => by kernel_rfl)
end Go.Proofs.YtmcmkdiefpepnaaDoor.PA
