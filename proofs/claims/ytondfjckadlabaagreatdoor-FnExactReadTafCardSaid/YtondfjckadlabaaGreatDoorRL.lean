/-
  Part of a proof by the engine: texts that a program of ours printed, or plain lemmas on them. No condition but what each theorem says.
-/
import Derived.Test.YtondfjckadlabaaGreatDoorDT
import Derived.Test.YtondfjckadlabaaGreatDoorNU
import Derived.Test.YtondfjckadlabaaGreatDoorSA
import Derived.Test.YtondfjckadlabaaGreatDoorTT
import Derived.Test.YtondfjckadlabaaGreatDoorRT
import Derived.Test.YtondfjckadlabaaGreatDoorEng5
import Derived.Test.YtondfjckadlabaaGreatDoorProg
import Derived.KernelRfl
import Derived.Test.YtondfjckadlabaaGreatDoorDoors1
import Derived.Test.YtondfjckadlabaaGreatDoorDoors2
import Derived.Test.YtondfjckadlabaaGreatDoorDoors5
import Derived.Test.YtondfjckadlabaaGreatDoorDoors6
import Derived.Test.YtondfjckadlabaaGreatDoorDoors7
set_option linter.unusedVariables false
set_option linter.unusedSimpArgs false
set_option maxRecDepth 100000
namespace Go.Proofs.YtondfjckadlabaaGreatDoor.RL
open Go Go.Eng Go.Proofs
open Go.Proofs.YtondfjckadlabaaGreatDoor.EX
open Go.Proofs.YtondfjckadlabaaGreatDoor.DT hiding gl
open Go.Proofs.YtondfjckadlabaaGreatDoor.NU hiding gl
open Go.Proofs.YtondfjckadlabaaGreatDoor.SA hiding gl
open Go.Proofs.YtondfjckadlabaaGreatDoor.TT hiding gl
open Go.Proofs.YtondfjckadlabaaGreatDoor.RT hiding gl
noncomputable def gl : Nat → Option (List Cell) := glOf [(0, L_impl_changeWords.map Cell.str), (1, [.sl .str L_impl_weathers]), (2, [.sl .str L_impl_covers]), (5, L_strconv_uint64pow10.map (Cell.int .u64))]
theorem gl_DT : ∀ g cs, Go.Proofs.YtondfjckadlabaaGreatDoor.DT.gl g = some cs → gl g = some cs := glOf_mono (by intro p hp; simp only [List.mem_cons, List.not_mem_nil, or_false] at hp; subst hp <;> rfl)
theorem gl_NU : ∀ g cs, Go.Proofs.YtondfjckadlabaaGreatDoor.NU.gl g = some cs → gl g = some cs := glOf_mono (by intro p hp; simp only [List.mem_cons, List.not_mem_nil, or_false] at hp; subst hp <;> rfl)
theorem gl_SA : ∀ g cs, Go.Proofs.YtondfjckadlabaaGreatDoor.SA.gl g = some cs → gl g = some cs := glOf_mono (by intro p hp; simp only [List.mem_cons, List.not_mem_nil, or_false] at hp; rcases hp with rfl | rfl | rfl <;> rfl)
theorem gl_TT : ∀ g cs, Go.Proofs.YtondfjckadlabaaGreatDoor.TT.gl g = some cs → gl g = some cs := glOf_mono (by intro p hp; simp only [List.mem_cons, List.not_mem_nil, or_false] at hp; rcases hp with rfl | rfl | rfl | rfl <;> rfl)
theorem gl_RT : ∀ g cs, Go.Proofs.YtondfjckadlabaaGreatDoor.RT.gl g = some cs → gl g = some cs := glOf_mono (by intro p hp; simp only [List.mem_cons, List.not_mem_nil, or_false] at hp; rcases hp with rfl | rfl | rfl | rfl <;> rfl)
-- loop.example/g00051/laws.eqSpan
noncomputable def i_laws_eqSpan : Shape := ⟨[(0, .agg [.int .i64, .int .i64]), (1, .agg [.int .i64, .int .i64])], []⟩
noncomputable def o_laws_eqSpan : Shape := ⟨[(0, .c (.bool))], []⟩
noncomputable def laws_eqSpan (a0 : Int) (a1 : Int) (a2 : Int) (a3 : Int) : Option (Bool) :=
  bif a0 != a2 then some false else bif a1 != a3 then some false else some true
noncomputable def g_laws_eqSpan : Sg := ⟨i_laws_eqSpan, o_laws_eqSpan, Bool, fun y => ((y, ()), ()), fun x => laws_eqSpan x.1.1.1 x.1.1.2.1 x.1.2.1.1 x.1.2.1.2.1⟩
noncomputable def C_laws_eqSpan : Ctx := ⟨15, tiOf Tryz.prog, gl, sgOf [], []⟩
noncomputable def r_laws_eqSpan : AExit → Env → Option (Bool) := retK C_laws_eqSpan 0 o_laws_eqSpan (fun y => y.1.1) Tryz.f63.results.toList
theorem e_laws_eqSpan : Sound Tryz.prog gl 63 g_laws_eqSpan :=
  sound_plain (C := C_laws_eqSpan) ⟨fun _ _ h => h, by kernel_rfl⟩ (sgOf_all' trivial) 63 Tryz.f63 g_laws_eqSpan (fun y => y.1.1) (by kernel_rfl) (by kernel_rfl) (by kernel_rfl) (by kernel_rfl) (by kernel_rfl) (by kernel_rfl) (fun _ => rfl) (fun x => by kernel_rfl)
-- loop.example/g00051/laws.eqSky
noncomputable def i_laws_eqSky : Shape := ⟨[(0, .agg [.int .i64, .int .i64, .int .i64, .str, .str, .int .i64]), (1, .agg [.int .i64, .int .i64, .int .i64, .str, .str, .int .i64])], []⟩
noncomputable def o_laws_eqSky : Shape := ⟨[(0, .c (.bool))], []⟩
noncomputable def laws_eqSky (a0 : Int) (a1 : Int) (a2 : Int) (a3 : ByteArray) (a4 : ByteArray) (a5 : Int) (a6 : Int) (a7 : Int) (a8 : Int) (a9 : ByteArray) (a10 : ByteArray) (a11 : Int) : Option (Bool) :=
  bif a0 != a6 then some false else bif a1 != a7 then some false else bif a2 != a8 then some false else bif !a3.toList == a9.toList then some false else bif !a4.toList == a10.toList then some false else bif a5 != a11 then some false else some true
noncomputable def g_laws_eqSky : Sg := ⟨i_laws_eqSky, o_laws_eqSky, Bool, fun y => ((y, ()), ()), fun x => laws_eqSky x.1.1.1 x.1.1.2.1 x.1.1.2.2.1 x.1.1.2.2.2.1 x.1.1.2.2.2.2.1 x.1.1.2.2.2.2.2.1 x.1.2.1.1 x.1.2.1.2.1 x.1.2.1.2.2.1 x.1.2.1.2.2.2.1 x.1.2.1.2.2.2.2.1 x.1.2.1.2.2.2.2.2.1⟩
noncomputable def C_laws_eqSky : Ctx := ⟨35, tiOf Tryz.prog, gl, sgOf [], []⟩
noncomputable def r_laws_eqSky : AExit → Env → Option (Bool) := retK C_laws_eqSky 0 o_laws_eqSky (fun y => y.1.1) Tryz.f64.results.toList
theorem e_laws_eqSky : Sound Tryz.prog gl 64 g_laws_eqSky :=
  sound_plain (C := C_laws_eqSky) ⟨fun _ _ h => h, by kernel_rfl⟩ (sgOf_all' trivial) 64 Tryz.f64 g_laws_eqSky (fun y => y.1.1) (by kernel_rfl) (by kernel_rfl) (by kernel_rfl) (by kernel_rfl) (by kernel_rfl) (by kernel_rfl) (fun _ => rfl) (fun x => by kernel_rfl)
-- loop.example/g00051/laws.eqChange
noncomputable def i_laws_eqChange : Shape := ⟨[(0, .agg [.int .i64, .int .i64, .int .i64, .int .i64, .int .i64, .int .i64, .str, .str, .int .i64]), (1, .agg [.int .i64, .int .i64, .int .i64, .int .i64, .int .i64, .int .i64, .str, .str, .int .i64])], []⟩
noncomputable def o_laws_eqChange : Shape := ⟨[(0, .c (.bool))], []⟩
noncomputable def laws_eqChange (a0 : Int) (a1 : Int) (a2 : Int) (a3 : Int) (a4 : Int) (a5 : Int) (a6 : ByteArray) (a7 : ByteArray) (a8 : Int) (a9 : Int) (a10 : Int) (a11 : Int) (a12 : Int) (a13 : Int) (a14 : Int) (a15 : ByteArray) (a16 : ByteArray) (a17 : Int) : Option (Bool) :=
  bif a0 != a9 then some false else bif a1 != a10 then some false else bif a2 != a11 then some false else (laws_eqSky a3 a4 a5 a6 a7 a8 a12 a13 a14 a15 a16 a17).bind fun val => bif !val then some false else some true
noncomputable def g_laws_eqChange : Sg := ⟨i_laws_eqChange, o_laws_eqChange, Bool, fun y => ((y, ()), ()), fun x => laws_eqChange x.1.1.1 x.1.1.2.1 x.1.1.2.2.1 x.1.1.2.2.2.1 x.1.1.2.2.2.2.1 x.1.1.2.2.2.2.2.1 x.1.1.2.2.2.2.2.2.1 x.1.1.2.2.2.2.2.2.2.1 x.1.1.2.2.2.2.2.2.2.2.1 x.1.2.1.1 x.1.2.1.2.1 x.1.2.1.2.2.1 x.1.2.1.2.2.2.1 x.1.2.1.2.2.2.2.1 x.1.2.1.2.2.2.2.2.1 x.1.2.1.2.2.2.2.2.2.1 x.1.2.1.2.2.2.2.2.2.2.1 x.1.2.1.2.2.2.2.2.2.2.2.1⟩
noncomputable def C_laws_eqChange : Ctx := ⟨26, tiOf Tryz.prog, gl, sgOf [(64, g_laws_eqSky)], []⟩
noncomputable def r_laws_eqChange : AExit → Env → Option (Bool) := retK C_laws_eqChange 0 o_laws_eqChange (fun y => y.1.1) Tryz.f166.results.toList
theorem e_laws_eqChange : Sound Tryz.prog gl 166 g_laws_eqChange :=
  sound_plain (C := C_laws_eqChange) ⟨fun _ _ h => h, by kernel_rfl⟩ (sgOf_all' ⟨.inl ⟨by kernel_rfl, e_laws_eqSky⟩, trivial⟩) 166 Tryz.f166 g_laws_eqChange (fun y => y.1.1) (by kernel_rfl) (by kernel_rfl) (by kernel_rfl) (by kernel_rfl) (by kernel_rfl) (by kernel_rfl) (fun _ => rfl) (fun x => by kernel_rfl)
-- loop.example/g00051/laws.eqChangeS
noncomputable def i_laws_eqChangeS : Shape := ⟨[(0, .c (.sl (.pair (.int .i64) (.pair (.int .i64) (.pair (.int .i64) (.pair (.int .i64) (.pair (.int .i64) (.pair (.int .i64) (.pair .str (.pair .str (.int .i64))))))))))), (1, .c (.sl (.pair (.int .i64) (.pair (.int .i64) (.pair (.int .i64) (.pair (.int .i64) (.pair (.int .i64) (.pair (.int .i64) (.pair .str (.pair .str (.int .i64)))))))))))], []⟩
noncomputable def o_laws_eqChangeS : Shape := ⟨[(0, .c (.bool))], []⟩
noncomputable def s_laws_eqChangeS_4 : Shape := ⟨[(0, .c (.sl (.pair (.int .i64) (.pair (.int .i64) (.pair (.int .i64) (.pair (.int .i64) (.pair (.int .i64) (.pair (.int .i64) (.pair .str (.pair .str (.int .i64))))))))))), (1, .c (.sl (.pair (.int .i64) (.pair (.int .i64) (.pair (.int .i64) (.pair (.int .i64) (.pair (.int .i64) (.pair (.int .i64) (.pair .str (.pair .str (.int .i64))))))))))), (5, .c (.int .i64))], []⟩
noncomputable def laws_eqChangeS_L4 : Nat → (List (Int × Int × Int × Int × Int × Int × ByteArray × ByteArray × Int)) → (List (Int × Int × Int × Int × Int × Int × ByteArray × ByteArray × Int)) → Int → Option (Bool)
  | 0, _, _, _ => none
  | k + 1, a0, a1, a2 =>
  bif decide (a2 < (↑a0.length : Int)) then
   bif decide (0 ≤ a2) then
    bif decide (a2 < (↑a0.length : Int)) then
     bif decide (0 ≤ a2) then
      bif decide (a2 < (↑a1.length : Int)) then
       (laws_eqChange (rd K9_SA0 a0 a2).fst (rd K9_SA0 a0 a2).snd.fst (rd K9_SA0 a0 a2).snd.snd.fst (rd K9_SA0 a0 a2).snd.snd.snd.fst (rd K9_SA0 a0 a2).snd.snd.snd.snd.fst
          (rd K9_SA0 a0 a2).snd.snd.snd.snd.snd.fst (rd K9_SA0 a0 a2).snd.snd.snd.snd.snd.snd.fst (rd K9_SA0 a0 a2).snd.snd.snd.snd.snd.snd.snd.fst (rd K9_SA0 a0 a2).snd.snd.snd.snd.snd.snd.snd.snd (rd K9_SA0 a1 a2).fst
          (rd K9_SA0 a1 a2).snd.fst (rd K9_SA0 a1 a2).snd.snd.fst (rd K9_SA0 a1 a2).snd.snd.snd.fst (rd K9_SA0 a1 a2).snd.snd.snd.snd.fst (rd K9_SA0 a1 a2).snd.snd.snd.snd.snd.fst
          (rd K9_SA0 a1 a2).snd.snd.snd.snd.snd.snd.fst (rd K9_SA0 a1 a2).snd.snd.snd.snd.snd.snd.snd.fst (rd K9_SA0 a1 a2).snd.snd.snd.snd.snd.snd.snd.snd).bind
        fun val => bif !val then some false else laws_eqChangeS_L4 k a0 a1 (IntKind.i64.wrap (a2 + 1))
      else none
     else none
    else none
   else none
  else some true
noncomputable def j_laws_eqChangeS : List (Nat × (Nat → Cut (Bool))) := [(4, fun k => ⟨s_laws_eqChangeS_4, fun x => laws_eqChangeS_L4 k x.1.1 x.1.2.1 x.1.2.2.1⟩)]
noncomputable def laws_eqChangeS_F (k : Nat) (a0 : List (Int × Int × Int × Int × Int × Int × ByteArray × ByteArray × Int)) (a1 : List (Int × Int × Int × Int × Int × Int × ByteArray × ByteArray × Int)) : Option (Bool) :=
  bif (↑a0.length : Int) != (↑a1.length : Int) then some false else laws_eqChangeS_L4 k a0 a1 0
noncomputable def laws_eqChangeS (a0 : List (Int × Int × Int × Int × Int × Int × ByteArray × ByteArray × Int)) (a1 : List (Int × Int × Int × Int × Int × Int × ByteArray × ByteArray × Int)) : Option (Bool) := evF fun k => laws_eqChangeS_F k a0 a1
noncomputable def g_laws_eqChangeS : Sg := ⟨i_laws_eqChangeS, o_laws_eqChangeS, Bool, fun y => ((y, ()), ()), fun x => laws_eqChangeS x.1.1 x.1.2.1⟩
noncomputable def C_laws_eqChangeS : Ctx := ⟨27, tiOf Tryz.prog, gl, sgOf [(166, g_laws_eqChange)], []⟩
noncomputable def r_laws_eqChangeS : AExit → Env → Option (Bool) := retK C_laws_eqChangeS 0 o_laws_eqChangeS (fun y => y.1.1) Tryz.f65.results.toList
theorem e_laws_eqChangeS : Sound Tryz.prog gl 65 g_laws_eqChangeS :=
  sound_cuts (C := C_laws_eqChangeS) ⟨fun _ _ h => h, by kernel_rfl⟩ (sgOf_all' ⟨.inl ⟨by kernel_rfl, e_laws_eqChange⟩, trivial⟩) 65 Tryz.f65 g_laws_eqChangeS (fun y => y.1.1) j_laws_eqChangeS 1 (by kernel_rfl) (by kernel_rfl) (by kernel_rfl) (by kernel_rfl) (by kernel_rfl) (by kernel_rfl) (fun _ => rfl) (by kernel_rfl) (by kernel_rfl)
    ⟨trivial, s_laws_eqChangeS_4, fun k x => laws_eqChangeS_L4 k x.1.1 x.1.2.1 x.1.2.2.1, ⟨fun k => by kernel_rfl, fun k y => by kernel_rfl, fun y => by kernel_rfl⟩⟩
    (fun k x => laws_eqChangeS_F k x.1.1 x.1.2.1) (fun x => rfl) (fun k x => by kernel_rfl)
-- loop.example/g00051/laws.eqTaf
noncomputable def i_laws_eqTaf : Shape := ⟨[(0, .agg [.str, .int .i64, .int .i64, .int .i64, .int .i64, .int .i64, .int .i64, .str, .str, .int .i64, .sl (.pair (.int .i64) (.pair (.int .i64) (.pair (.int .i64) (.pair (.int .i64) (.pair (.int .i64) (.pair (.int .i64) (.pair .str (.pair .str (.int .i64)))))))))]), (1, .agg [.str, .int .i64, .int .i64, .int .i64, .int .i64, .int .i64, .int .i64, .str, .str, .int .i64, .sl (.pair (.int .i64) (.pair (.int .i64) (.pair (.int .i64) (.pair (.int .i64) (.pair (.int .i64) (.pair (.int .i64) (.pair .str (.pair .str (.int .i64)))))))))])], []⟩
noncomputable def o_laws_eqTaf : Shape := ⟨[(0, .c (.bool))], []⟩
noncomputable def laws_eqTaf (a0 : ByteArray) (a1 : Int) (a2 : Int) (a3 : Int) (a4 : Int) (a5 : Int) (a6 : Int) (a7 : ByteArray) (a8 : ByteArray) (a9 : Int) (a10 : List (Int × Int × Int × Int × Int × Int × ByteArray × ByteArray × Int)) (a11 : ByteArray) (a12 : Int) (a13 : Int) (a14 : Int) (a15 : Int) (a16 : Int) (a17 : Int) (a18 : ByteArray) (a19 : ByteArray) (a20 : Int) (a21 : List (Int × Int × Int × Int × Int × Int × ByteArray × ByteArray × Int)) : Option (Bool) :=
  bif !a0.toList == a11.toList then some false else bif a1 != a12 then some false else (laws_eqSpan a2 a3 a13 a14).bind fun val => bif !val then some false else (laws_eqSky a4 a5 a6 a7 a8 a9 a15 a16 a17 a18 a19 a20).bind fun val => bif !val then some false else (laws_eqChangeS a10 a21).bind fun val => bif !val then some false else some true
noncomputable def g_laws_eqTaf : Sg := ⟨i_laws_eqTaf, o_laws_eqTaf, Bool, fun y => ((y, ()), ()), fun x => laws_eqTaf x.1.1.1 x.1.1.2.1 x.1.1.2.2.1 x.1.1.2.2.2.1 x.1.1.2.2.2.2.1 x.1.1.2.2.2.2.2.1 x.1.1.2.2.2.2.2.2.1 x.1.1.2.2.2.2.2.2.2.1 x.1.1.2.2.2.2.2.2.2.2.1 x.1.1.2.2.2.2.2.2.2.2.2.1 x.1.1.2.2.2.2.2.2.2.2.2.2.1 x.1.2.1.1 x.1.2.1.2.1 x.1.2.1.2.2.1 x.1.2.1.2.2.2.1 x.1.2.1.2.2.2.2.1 x.1.2.1.2.2.2.2.2.1 x.1.2.1.2.2.2.2.2.2.1 x.1.2.1.2.2.2.2.2.2.2.1 x.1.2.1.2.2.2.2.2.2.2.2.1 x.1.2.1.2.2.2.2.2.2.2.2.2.1 x.1.2.1.2.2.2.2.2.2.2.2.2.2.1⟩
noncomputable def C_laws_eqTaf : Ctx := ⟨33, tiOf Tryz.prog, gl, sgOf [(63, g_laws_eqSpan), (64, g_laws_eqSky), (65, g_laws_eqChangeS)], []⟩
noncomputable def r_laws_eqTaf : AExit → Env → Option (Bool) := retK C_laws_eqTaf 0 o_laws_eqTaf (fun y => y.1.1) Tryz.f13.results.toList
theorem e_laws_eqTaf : Sound Tryz.prog gl 13 g_laws_eqTaf :=
  sound_plain (C := C_laws_eqTaf) ⟨fun _ _ h => h, by kernel_rfl⟩ (sgOf_all' ⟨.inl ⟨by kernel_rfl, e_laws_eqSpan⟩, .inl ⟨by kernel_rfl, e_laws_eqSky⟩, .inl ⟨by kernel_rfl, e_laws_eqChangeS⟩, trivial⟩) 13 Tryz.f13 g_laws_eqTaf (fun y => y.1.1) (by kernel_rfl) (by kernel_rfl) (by kernel_rfl) (by kernel_rfl) (by kernel_rfl) (by kernel_rfl) (fun _ => rfl) (fun x => by kernel_rfl)
-- loop.example/g00051/laws.markText
noncomputable def i_laws_markText : Shape := ⟨[(0, .c (.int .i64))], []⟩
noncomputable def o_laws_markText : Shape := ⟨[(0, .c (.str))], []⟩
noncomputable def s_laws_markText_4 : Shape := ⟨[(0, .c (.int .i64)), (3, .c (.str))], []⟩
noncomputable def laws_markText_L4 : Nat → Int → ByteArray → Option (ByteArray)
  | 0, _, _ => none
  | k + 1, a0, a1 =>
  bif decide (a0 > 0) then bif decide ((bytesOf [IntKind.u8.wrap (IntKind.i64.wrap (48 + a0.tmod 10))]).size + a1.size ≤ 9223372036854775807) then laws_markText_L4 k (IntKind.i64.wrap (a0.tdiv 10)) (bytesOf [IntKind.u8.wrap (IntKind.i64.wrap (48 + a0.tmod 10))] ++ a1) else none else bif decide ((bs [109]).size + a1.size ≤ 9223372036854775807) then some (bs [109] ++ a1) else none
noncomputable def j_laws_markText : List (Nat × (Nat → Cut (ByteArray))) := [(4, fun k => ⟨s_laws_markText_4, fun x => laws_markText_L4 k x.1.1 x.1.2.1⟩)]
noncomputable def laws_markText_F (k : Nat) (a0 : Int) : Option (ByteArray) :=
  bif decide (a0 ≤ 0) then some (bs [109, 48]) else laws_markText_L4 k a0 (bs [])
noncomputable def laws_markText (a0 : Int) : Option (ByteArray) := evF fun k => laws_markText_F k a0
noncomputable def g_laws_markText : Sg := ⟨i_laws_markText, o_laws_markText, ByteArray, fun y => ((y, ()), ()), fun x => laws_markText x.1.1⟩
noncomputable def C_laws_markText : Ctx := ⟨20, tiOf Tryz.prog, gl, sgOf [], []⟩
noncomputable def r_laws_markText : AExit → Env → Option (ByteArray) := retK C_laws_markText 0 o_laws_markText (fun y => y.1.1) Tryz.f167.results.toList
theorem e_laws_markText : Sound Tryz.prog gl 167 g_laws_markText :=
  sound_cuts (C := C_laws_markText) ⟨fun _ _ h => h, by kernel_rfl⟩ (sgOf_all' trivial) 167 Tryz.f167 g_laws_markText (fun y => y.1.1) j_laws_markText 1 (by kernel_rfl) (by kernel_rfl) (by kernel_rfl) (by kernel_rfl) (by kernel_rfl) (by kernel_rfl) (fun _ => rfl) (by kernel_rfl) (by kernel_rfl)
    ⟨trivial, s_laws_markText_4, fun k x => laws_markText_L4 k x.1.1 x.1.2.1, ⟨fun k => by kernel_rfl, fun k y => by kernel_rfl, fun y => by kernel_rfl⟩⟩
    (fun k x => laws_markText_F k x.1.1) (fun x => rfl) (fun k x => by kernel_rfl)
-- loop.example/g00051/laws.markChangeS
noncomputable def i_laws_markChangeS : Shape := ⟨[(0, .c (.ref 0)), (1, .c (.int .i64))], [.lst 86 (.pair (.int .i64) (.pair (.int .i64) (.pair (.int .i64) (.pair (.int .i64) (.pair (.int .i64) (.pair (.int .i64) (.pair .str (.pair .str (.int .i64)))))))))]⟩
noncomputable def o_laws_markChangeS : Shape := ⟨[(0, .c (.int .i64))], [.lst 86 (.pair (.int .i64) (.pair (.int .i64) (.pair (.int .i64) (.pair (.int .i64) (.pair (.int .i64) (.pair (.int .i64) (.pair .str (.pair .str (.int .i64)))))))))]⟩
noncomputable def s_laws_markChangeS_2 : Shape := ⟨[(0, .c (.ref 0)), (1, .c (.int .i64)), (5, .c (.int .i64))], [.lst 86 (.pair (.int .i64) (.pair (.int .i64) (.pair (.int .i64) (.pair (.int .i64) (.pair (.int .i64) (.pair (.int .i64) (.pair .str (.pair .str (.int .i64)))))))))]⟩
noncomputable def laws_markChangeS_L2 : Nat → Int → Int → (List (Int × Int × Int × Int × Int × Int × ByteArray × ByteArray × Int)) → Option (Int × (List (Int × Int × Int × Int × Int × Int × ByteArray × ByteArray × Int)))
  | 0, _, _, _ => none
  | k + 1, a0, a1, a2 =>
  bif decide (a1 < (↑a2.length : Int)) then
   bif decide (0 ≤ a1) then
    bif decide (a1 < (↑a2.length : Int)) then
     (setO K9_SA0 0 [Cell.int IntKind.i64 a0] a2 a1).bind fun val =>
      bif decide (0 ≤ a1) then
       bif decide (a1 < (↑val.length : Int)) then
        (setO K9_SA0 1 [Cell.int IntKind.i64 (IntKind.i64.wrap (a0 + 1))] val a1).bind fun val =>
         bif decide (0 ≤ a1) then
          bif decide (a1 < (↑val.length : Int)) then
           (setO K9_SA0 2 [Cell.int IntKind.i64 (IntKind.i64.wrap (IntKind.i64.wrap (a0 + 1) + 1))] val a1).bind fun val =>
            bif decide (0 ≤ a1) then
             bif decide (a1 < (↑val.length : Int)) then
              (setO K9_SA0 3 [Cell.int IntKind.i64 (IntKind.i64.wrap (IntKind.i64.wrap (IntKind.i64.wrap (a0 + 1) + 1) + 1))] val a1).bind fun val =>
               bif decide (0 ≤ a1) then
                bif decide (a1 < (↑val.length : Int)) then
                 (setO K9_SA0 4 [Cell.int IntKind.i64 (IntKind.i64.wrap (IntKind.i64.wrap (IntKind.i64.wrap (IntKind.i64.wrap (a0 + 1) + 1) + 1) + 1))] val a1).bind fun val =>
                  bif decide (0 ≤ a1) then
                   bif decide (a1 < (↑val.length : Int)) then
                    (setO K9_SA0 5 [Cell.int IntKind.i64 (IntKind.i64.wrap (IntKind.i64.wrap (IntKind.i64.wrap (IntKind.i64.wrap (IntKind.i64.wrap (a0 + 1) + 1) + 1) + 1) + 1))] val a1).bind fun val =>
                     (laws_markText (IntKind.i64.wrap (IntKind.i64.wrap (IntKind.i64.wrap (IntKind.i64.wrap (IntKind.i64.wrap (IntKind.i64.wrap (a0 + 1) + 1) + 1) + 1) + 1) + 1))).bind fun val_1 =>
                      bif decide (0 ≤ a1) then
                       bif decide (a1 < (↑val.length : Int)) then
                        (setO K9_SA0 6 [Cell.str val_1] val a1).bind fun val =>
                         (laws_markText (IntKind.i64.wrap (IntKind.i64.wrap (IntKind.i64.wrap (IntKind.i64.wrap (IntKind.i64.wrap (IntKind.i64.wrap (IntKind.i64.wrap (a0 + 1) + 1) + 1) + 1) + 1) + 1) + 1))).bind fun val_2 => bif decide (0 ≤ a1) then bif decide (a1 < (↑val.length : Int)) then (setO K9_SA0 7 [Cell.str val_2] val a1).bind fun val => bif decide (0 ≤ a1) then bif decide (a1 < (↑val.length : Int)) then (setO K9_SA0 8 [Cell.int IntKind.i64 (IntKind.i64.wrap (IntKind.i64.wrap (IntKind.i64.wrap (IntKind.i64.wrap (IntKind.i64.wrap (IntKind.i64.wrap (IntKind.i64.wrap (IntKind.i64.wrap (a0 + 1) + 1) + 1) + 1) + 1) + 1) + 1) + 1))] val a1).bind fun val => laws_markChangeS_L2 k (IntKind.i64.wrap (IntKind.i64.wrap (IntKind.i64.wrap (IntKind.i64.wrap (IntKind.i64.wrap (IntKind.i64.wrap (IntKind.i64.wrap (IntKind.i64.wrap (IntKind.i64.wrap (a0 + 1) + 1) + 1) + 1) + 1) + 1) + 1) + 1) + 1)) (IntKind.i64.wrap (a1 + 1)) val else none else none else none else none
                       else none
                      else none
                   else none
                  else none
                else none
               else none
             else none
            else none
          else none
         else none
       else none
      else none
    else none
   else none
  else some (a0, a2)
noncomputable def j_laws_markChangeS : List (Nat × (Nat → Cut (Int × (List (Int × Int × Int × Int × Int × Int × ByteArray × ByteArray × Int))))) := [(2, fun k => ⟨s_laws_markChangeS_2, fun x => laws_markChangeS_L2 k x.1.2.1 x.1.2.2.1 x.2.1⟩)]
noncomputable def laws_markChangeS_F (k : Nat) (a0 : Int) (a1 : List (Int × Int × Int × Int × Int × Int × ByteArray × ByteArray × Int)) : Option (Int × (List (Int × Int × Int × Int × Int × Int × ByteArray × ByteArray × Int))) :=
  laws_markChangeS_L2 k a0 0 a1
noncomputable def laws_markChangeS (a0 : Int) (a1 : List (Int × Int × Int × Int × Int × Int × ByteArray × ByteArray × Int)) : Option (Int × (List (Int × Int × Int × Int × Int × Int × ByteArray × ByteArray × Int))) := evF fun k => laws_markChangeS_F k a0 a1
noncomputable def g_laws_markChangeS : Sg := ⟨i_laws_markChangeS, o_laws_markChangeS, Int × (List (Int × Int × Int × Int × Int × Int × ByteArray × ByteArray × Int)), fun y => ((y.1, ()), (y.2, ())), fun x => laws_markChangeS x.1.2.1 x.2.1⟩
noncomputable def C_laws_markChangeS : Ctx := ⟨84, tiOf Tryz.prog, gl, sgOf [(167, g_laws_markText)], []⟩
noncomputable def r_laws_markChangeS : AExit → Env → Option (Int × (List (Int × Int × Int × Int × Int × Int × ByteArray × ByteArray × Int))) := retK C_laws_markChangeS 1 o_laws_markChangeS (fun y => (y.1.1, y.2.1)) Tryz.f66.results.toList
theorem e_laws_markChangeS : Sound Tryz.prog gl 66 g_laws_markChangeS :=
  sound_cuts (C := C_laws_markChangeS) ⟨fun _ _ h => h, by kernel_rfl⟩ (sgOf_all' ⟨.inl ⟨by kernel_rfl, e_laws_markText⟩, trivial⟩) 66 Tryz.f66 g_laws_markChangeS (fun y => (y.1.1, y.2.1)) j_laws_markChangeS 1 (by kernel_rfl) (by kernel_rfl) (by kernel_rfl) (by kernel_rfl) (by kernel_rfl) (by kernel_rfl) (fun _ => rfl) (by kernel_rfl) (by kernel_rfl)
    ⟨trivial, s_laws_markChangeS_2, fun k x => laws_markChangeS_L2 k x.1.2.1 x.1.2.2.1 x.2.1, ⟨fun k => by kernel_rfl, fun k y => by kernel_rfl, fun y => by kernel_rfl⟩⟩
    (fun k x => laws_markChangeS_F k x.1.2.1 x.2.1) (fun x => rfl) (fun k x => by kernel_rfl)
-- loop.example/g00051/laws.markTaf
noncomputable def i_laws_markTaf : Shape := ⟨[(0, .agg [.str, .int .i64, .int .i64, .int .i64, .int .i64, .int .i64, .int .i64, .str, .str, .int .i64, .ref 0]), (1, .c (.int .i64))], [.lst 86 (.pair (.int .i64) (.pair (.int .i64) (.pair (.int .i64) (.pair (.int .i64) (.pair (.int .i64) (.pair (.int .i64) (.pair .str (.pair .str (.int .i64)))))))))]⟩
noncomputable def o_laws_markTaf : Shape := ⟨[(0, .c (.int .i64))], [.lst 86 (.pair (.int .i64) (.pair (.int .i64) (.pair (.int .i64) (.pair (.int .i64) (.pair (.int .i64) (.pair (.int .i64) (.pair .str (.pair .str (.int .i64)))))))))]⟩
noncomputable def laws_markTaf (a0 : ByteArray) (a1 : Int) (a2 : Int) (a3 : Int) (a4 : Int) (a5 : Int) (a6 : Int) (a7 : ByteArray) (a8 : ByteArray) (a9 : Int) (a10 : Int) (a11 : List (Int × Int × Int × Int × Int × Int × ByteArray × ByteArray × Int)) : Option (Int × (List (Int × Int × Int × Int × Int × Int × ByteArray × ByteArray × Int))) :=
  (laws_markChangeS a10 a11).bind fun val => some (val.fst, val.snd)
noncomputable def g_laws_markTaf : Sg := ⟨i_laws_markTaf, o_laws_markTaf, Int × (List (Int × Int × Int × Int × Int × Int × ByteArray × ByteArray × Int)), fun y => ((y.1, ()), (y.2, ())), fun x => laws_markTaf x.1.1.1 x.1.1.2.1 x.1.1.2.2.1 x.1.1.2.2.2.1 x.1.1.2.2.2.2.1 x.1.1.2.2.2.2.2.1 x.1.1.2.2.2.2.2.2.1 x.1.1.2.2.2.2.2.2.2.1 x.1.1.2.2.2.2.2.2.2.2.1 x.1.1.2.2.2.2.2.2.2.2.2.1 x.1.2.1 x.2.1⟩
noncomputable def C_laws_markTaf : Ctx := ⟨10, tiOf Tryz.prog, gl, sgOf [(66, g_laws_markChangeS)], []⟩
noncomputable def r_laws_markTaf : AExit → Env → Option (Int × (List (Int × Int × Int × Int × Int × Int × ByteArray × ByteArray × Int))) := retK C_laws_markTaf 1 o_laws_markTaf (fun y => (y.1.1, y.2.1)) Tryz.f14.results.toList
theorem e_laws_markTaf : Sound Tryz.prog gl 14 g_laws_markTaf :=
  sound_plain (C := C_laws_markTaf) ⟨fun _ _ h => h, by kernel_rfl⟩ (sgOf_all' ⟨.inl ⟨by kernel_rfl, e_laws_markChangeS⟩, trivial⟩) 14 Tryz.f14 g_laws_markTaf (fun y => (y.1.1, y.2.1)) (by kernel_rfl) (by kernel_rfl) (by kernel_rfl) (by kernel_rfl) (by kernel_rfl) (by kernel_rfl) (fun _ => rfl) (fun x => by kernel_rfl)
-- loop.example/g00051/laws.heldChangeS
noncomputable def i_laws_heldChangeS : Shape := ⟨[(0, .c (.sl (.pair (.int .i64) (.pair (.int .i64) (.pair (.int .i64) (.pair (.int .i64) (.pair (.int .i64) (.pair (.int .i64) (.pair .str (.pair .str (.int .i64))))))))))), (1, .c (.int .i64))], []⟩
noncomputable def o_laws_heldChangeS : Shape := ⟨[(0, .c (.int .i64))], []⟩
noncomputable def s_laws_heldChangeS_2 : Shape := ⟨[(0, .c (.sl (.pair (.int .i64) (.pair (.int .i64) (.pair (.int .i64) (.pair (.int .i64) (.pair (.int .i64) (.pair (.int .i64) (.pair .str (.pair .str (.int .i64))))))))))), (1, .c (.int .i64)), (5, .c (.int .i64))], []⟩
noncomputable def laws_heldChangeS_L2 : Nat → (List (Int × Int × Int × Int × Int × Int × ByteArray × ByteArray × Int)) → Int → Int → Option (Int)
  | 0, _, _, _ => none
  | k + 1, a0, a1, a2 =>
  bif decide (a2 < (↑a0.length : Int)) then
   bif decide (0 ≤ a2) then
    bif decide (a2 < (↑a0.length : Int)) then
     bif (rd K9_SA0 a0 a2).fst != a1 then some (-1)
     else
      bif decide (0 ≤ a2) then
       bif decide (a2 < (↑a0.length : Int)) then
        bif (rd K9_SA0 a0 a2).snd.fst != IntKind.i64.wrap (a1 + 1) then some (-1)
        else
         bif decide (0 ≤ a2) then
          bif decide (a2 < (↑a0.length : Int)) then
           bif (rd K9_SA0 a0 a2).snd.snd.fst != IntKind.i64.wrap (IntKind.i64.wrap (a1 + 1) + 1) then some (-1)
           else
            bif decide (0 ≤ a2) then
             bif decide (a2 < (↑a0.length : Int)) then
              bif (rd K9_SA0 a0 a2).snd.snd.snd.fst != IntKind.i64.wrap (IntKind.i64.wrap (IntKind.i64.wrap (a1 + 1) + 1) + 1) then some (-1)
              else
               bif decide (0 ≤ a2) then
                bif decide (a2 < (↑a0.length : Int)) then
                 bif (rd K9_SA0 a0 a2).snd.snd.snd.snd.fst != IntKind.i64.wrap (IntKind.i64.wrap (IntKind.i64.wrap (IntKind.i64.wrap (a1 + 1) + 1) + 1) + 1) then some (-1)
                 else
                  bif decide (0 ≤ a2) then
                   bif decide (a2 < (↑a0.length : Int)) then
                    bif (rd K9_SA0 a0 a2).snd.snd.snd.snd.snd.fst != IntKind.i64.wrap (IntKind.i64.wrap (IntKind.i64.wrap (IntKind.i64.wrap (IntKind.i64.wrap (a1 + 1) + 1) + 1) + 1) + 1) then some (-1)
                    else
                     bif decide (0 ≤ a2) then
                      bif decide (a2 < (↑a0.length : Int)) then
                       (laws_markText (IntKind.i64.wrap (IntKind.i64.wrap (IntKind.i64.wrap (IntKind.i64.wrap (IntKind.i64.wrap (IntKind.i64.wrap (a1 + 1) + 1) + 1) + 1) + 1) + 1))).bind fun val =>
                        bif !ByteArray.toList (rd K9_SA0 a0 a2).snd.snd.snd.snd.snd.snd.fst == ByteArray.toList val then some (-1)
                        else
                         bif decide (0 ≤ a2) then
                          bif decide (a2 < (↑a0.length : Int)) then (laws_markText (IntKind.i64.wrap (IntKind.i64.wrap (IntKind.i64.wrap (IntKind.i64.wrap (IntKind.i64.wrap (IntKind.i64.wrap (IntKind.i64.wrap (a1 + 1) + 1) + 1) + 1) + 1) + 1) + 1))).bind fun val => bif !ByteArray.toList (rd K9_SA0 a0 a2).snd.snd.snd.snd.snd.snd.snd.fst == ByteArray.toList val then some (-1) else bif decide (0 ≤ a2) then bif decide (a2 < (↑a0.length : Int)) then bif (rd K9_SA0 a0 a2).snd.snd.snd.snd.snd.snd.snd.snd != IntKind.i64.wrap (IntKind.i64.wrap (IntKind.i64.wrap (IntKind.i64.wrap (IntKind.i64.wrap (IntKind.i64.wrap (IntKind.i64.wrap (IntKind.i64.wrap (a1 + 1) + 1) + 1) + 1) + 1) + 1) + 1) + 1) then some (-1) else laws_heldChangeS_L2 k a0 (IntKind.i64.wrap (IntKind.i64.wrap (IntKind.i64.wrap (IntKind.i64.wrap (IntKind.i64.wrap (IntKind.i64.wrap (IntKind.i64.wrap (IntKind.i64.wrap (IntKind.i64.wrap (a1 + 1) + 1) + 1) + 1) + 1) + 1) + 1) + 1) + 1)) (IntKind.i64.wrap (a2 + 1)) else none else none else none
                         else none
                      else none
                     else none
                   else none
                  else none
                else none
               else none
             else none
            else none
          else none
         else none
       else none
      else none
    else none
   else none
  else some a1
noncomputable def j_laws_heldChangeS : List (Nat × (Nat → Cut (Int))) := [(2, fun k => ⟨s_laws_heldChangeS_2, fun x => laws_heldChangeS_L2 k x.1.1 x.1.2.1 x.1.2.2.1⟩)]
noncomputable def laws_heldChangeS_F (k : Nat) (a0 : List (Int × Int × Int × Int × Int × Int × ByteArray × ByteArray × Int)) (a1 : Int) : Option (Int) :=
  laws_heldChangeS_L2 k a0 a1 0
noncomputable def laws_heldChangeS (a0 : List (Int × Int × Int × Int × Int × Int × ByteArray × ByteArray × Int)) (a1 : Int) : Option (Int) := evF fun k => laws_heldChangeS_F k a0 a1
noncomputable def g_laws_heldChangeS : Sg := ⟨i_laws_heldChangeS, o_laws_heldChangeS, Int, fun y => ((y, ()), ()), fun x => laws_heldChangeS x.1.1 x.1.2.1⟩
noncomputable def C_laws_heldChangeS : Ctx := ⟨102, tiOf Tryz.prog, gl, sgOf [(167, g_laws_markText)], []⟩
noncomputable def r_laws_heldChangeS : AExit → Env → Option (Int) := retK C_laws_heldChangeS 0 o_laws_heldChangeS (fun y => y.1.1) Tryz.f67.results.toList
theorem e_laws_heldChangeS : Sound Tryz.prog gl 67 g_laws_heldChangeS :=
  sound_cuts (C := C_laws_heldChangeS) ⟨fun _ _ h => h, by kernel_rfl⟩ (sgOf_all' ⟨.inl ⟨by kernel_rfl, e_laws_markText⟩, trivial⟩) 67 Tryz.f67 g_laws_heldChangeS (fun y => y.1.1) j_laws_heldChangeS 1 (by kernel_rfl) (by kernel_rfl) (by kernel_rfl) (by kernel_rfl) (by kernel_rfl) (by kernel_rfl) (fun _ => rfl) (by kernel_rfl) (by kernel_rfl)
    ⟨trivial, s_laws_heldChangeS_2, fun k x => laws_heldChangeS_L2 k x.1.1 x.1.2.1 x.1.2.2.1, ⟨fun k => by kernel_rfl, fun k y => by kernel_rfl, fun y => by kernel_rfl⟩⟩
    (fun k x => laws_heldChangeS_F k x.1.1 x.1.2.1) (fun x => rfl) (fun k x => by kernel_rfl)
-- loop.example/g00051/laws.heldTaf
noncomputable def i_laws_heldTaf : Shape := ⟨[(0, .agg [.str, .int .i64, .int .i64, .int .i64, .int .i64, .int .i64, .int .i64, .str, .str, .int .i64, .sl (.pair (.int .i64) (.pair (.int .i64) (.pair (.int .i64) (.pair (.int .i64) (.pair (.int .i64) (.pair (.int .i64) (.pair .str (.pair .str (.int .i64)))))))))]), (1, .c (.int .i64))], []⟩
noncomputable def o_laws_heldTaf : Shape := ⟨[(0, .c (.int .i64))], []⟩
noncomputable def laws_heldTaf (a0 : ByteArray) (a1 : Int) (a2 : Int) (a3 : Int) (a4 : Int) (a5 : Int) (a6 : Int) (a7 : ByteArray) (a8 : ByteArray) (a9 : Int) (a10 : List (Int × Int × Int × Int × Int × Int × ByteArray × ByteArray × Int)) (a11 : Int) : Option (Int) :=
  (laws_heldChangeS a10 a11).bind fun val => bif decide (val < 0) then some (-1) else some val
noncomputable def g_laws_heldTaf : Sg := ⟨i_laws_heldTaf, o_laws_heldTaf, Int, fun y => ((y, ()), ()), fun x => laws_heldTaf x.1.1.1 x.1.1.2.1 x.1.1.2.2.1 x.1.1.2.2.2.1 x.1.1.2.2.2.2.1 x.1.1.2.2.2.2.2.1 x.1.1.2.2.2.2.2.2.1 x.1.1.2.2.2.2.2.2.2.1 x.1.1.2.2.2.2.2.2.2.2.1 x.1.1.2.2.2.2.2.2.2.2.2.1 x.1.1.2.2.2.2.2.2.2.2.2.2.1 x.1.2.1⟩
noncomputable def C_laws_heldTaf : Ctx := ⟨12, tiOf Tryz.prog, gl, sgOf [(67, g_laws_heldChangeS)], []⟩
noncomputable def r_laws_heldTaf : AExit → Env → Option (Int) := retK C_laws_heldTaf 0 o_laws_heldTaf (fun y => y.1.1) Tryz.f15.results.toList
theorem e_laws_heldTaf : Sound Tryz.prog gl 15 g_laws_heldTaf :=
  sound_plain (C := C_laws_heldTaf) ⟨fun _ _ h => h, by kernel_rfl⟩ (sgOf_all' ⟨.inl ⟨by kernel_rfl, e_laws_heldChangeS⟩, trivial⟩) 15 Tryz.f15 g_laws_heldTaf (fun y => y.1.1) (by kernel_rfl) (by kernel_rfl) (by kernel_rfl) (by kernel_rfl) (by kernel_rfl) (by kernel_rfl) (fun _ => rfl) (fun x => by kernel_rfl)
-- loop.example/g00051/laws.FnExactReadTaf
noncomputable def i_laws_FnExactReadTaf : Shape := ⟨[(0, .c (.str)), (1, .c (.int .i64))], []⟩
noncomputable def o_laws_FnExactReadTaf : Shape := ⟨[(0, .c (.bool))], []⟩
noncomputable def laws_FnExactReadTaf (a0 : ByteArray) (a1 : Int) : Option (Bool) :=
  bif decide ((↑a0.size : Int) > 1048576) then some true
  else
   (spec_ReadTaf a0 a1).bind fun val =>
    (impl_ReadTaf a0 a1).bind fun val_1 =>
     (laws_eqTaf val_1.fst val_1.snd.fst val_1.snd.snd.fst val_1.snd.snd.snd.fst val_1.snd.snd.snd.snd.fst val_1.snd.snd.snd.snd.snd.fst val_1.snd.snd.snd.snd.snd.snd.fst val_1.snd.snd.snd.snd.snd.snd.snd.fst val_1.snd.snd.snd.snd.snd.snd.snd.snd.fst val_1.snd.snd.snd.snd.snd.snd.snd.snd.snd.fst val_1.snd.snd.snd.snd.snd.snd.snd.snd.snd.snd.snd val.fst val.snd.fst val.snd.snd.fst val.snd.snd.snd.fst val.snd.snd.snd.snd.fst val.snd.snd.snd.snd.snd.fst val.snd.snd.snd.snd.snd.snd.fst val.snd.snd.snd.snd.snd.snd.snd.fst val.snd.snd.snd.snd.snd.snd.snd.snd.fst val.snd.snd.snd.snd.snd.snd.snd.snd.snd.fst val.snd.snd.snd.snd.snd.snd.snd.snd.snd.snd.fst).bind fun val_2 =>
      bif !val_2 then some false
      else
       bif !val_1.snd.snd.snd.snd.snd.snd.snd.snd.snd.snd.fst == val.snd.snd.snd.snd.snd.snd.snd.snd.snd.snd.snd then some false
       else
        (laws_markTaf val_1.fst val_1.snd.fst val_1.snd.snd.fst val_1.snd.snd.snd.fst val_1.snd.snd.snd.snd.fst val_1.snd.snd.snd.snd.snd.fst val_1.snd.snd.snd.snd.snd.snd.fst val_1.snd.snd.snd.snd.snd.snd.snd.fst val_1.snd.snd.snd.snd.snd.snd.snd.snd.fst val_1.snd.snd.snd.snd.snd.snd.snd.snd.snd.fst 1 val_1.snd.snd.snd.snd.snd.snd.snd.snd.snd.snd.snd).bind fun val_3 =>
         (laws_heldTaf val_1.fst val_1.snd.fst val_1.snd.snd.fst val_1.snd.snd.snd.fst val_1.snd.snd.snd.snd.fst val_1.snd.snd.snd.snd.snd.fst val_1.snd.snd.snd.snd.snd.snd.fst val_1.snd.snd.snd.snd.snd.snd.snd.fst val_1.snd.snd.snd.snd.snd.snd.snd.snd.fst val_1.snd.snd.snd.snd.snd.snd.snd.snd.snd.fst val_3.snd 1).bind fun val_4 =>
          bif decide (val_4 < 0) then some false else bif val_4 != val_3.fst then some false else (impl_ReadTaf a0 a1).bind fun val_5 => (laws_eqTaf val_5.fst val_5.snd.fst val_5.snd.snd.fst val_5.snd.snd.snd.fst val_5.snd.snd.snd.snd.fst val_5.snd.snd.snd.snd.snd.fst val_5.snd.snd.snd.snd.snd.snd.fst val_5.snd.snd.snd.snd.snd.snd.snd.fst val_5.snd.snd.snd.snd.snd.snd.snd.snd.fst val_5.snd.snd.snd.snd.snd.snd.snd.snd.snd.fst val_5.snd.snd.snd.snd.snd.snd.snd.snd.snd.snd.snd val.fst val.snd.fst val.snd.snd.fst val.snd.snd.snd.fst val.snd.snd.snd.snd.fst val.snd.snd.snd.snd.snd.fst val.snd.snd.snd.snd.snd.snd.fst val.snd.snd.snd.snd.snd.snd.snd.fst val.snd.snd.snd.snd.snd.snd.snd.snd.fst val.snd.snd.snd.snd.snd.snd.snd.snd.snd.fst val.snd.snd.snd.snd.snd.snd.snd.snd.snd.snd.fst).bind fun val_6 => bif !val_6 then some false else bif !val_5.snd.snd.snd.snd.snd.snd.snd.snd.snd.snd.fst == val.snd.snd.snd.snd.snd.snd.snd.snd.snd.snd.snd then some false else (laws_heldTaf val_1.fst val_1.snd.fst val_1.snd.snd.fst val_1.snd.snd.snd.fst val_1.snd.snd.snd.snd.fst val_1.snd.snd.snd.snd.snd.fst val_1.snd.snd.snd.snd.snd.snd.fst val_1.snd.snd.snd.snd.snd.snd.snd.fst val_1.snd.snd.snd.snd.snd.snd.snd.snd.fst val_1.snd.snd.snd.snd.snd.snd.snd.snd.snd.fst val_3.snd 1).bind fun val => bif decide (val < 0) then some false else bif val != val_3.fst then some false else some true
noncomputable def g_laws_FnExactReadTaf : Sg := ⟨i_laws_FnExactReadTaf, o_laws_FnExactReadTaf, Bool, fun y => ((y, ()), ()), fun x => laws_FnExactReadTaf x.1.1 x.1.2.1⟩
noncomputable def C_laws_FnExactReadTaf : Ctx := ⟨71, tiOf Tryz.prog, gl, sgOf [(11, g_spec_ReadTaf), (12, g_impl_ReadTaf), (13, g_laws_eqTaf), (14, g_laws_markTaf), (15, g_laws_heldTaf)], []⟩
noncomputable def r_laws_FnExactReadTaf : AExit → Env → Option (Bool) := retK C_laws_FnExactReadTaf 0 o_laws_FnExactReadTaf (fun y => y.1.1) Tryz.f3.results.toList
theorem e_laws_FnExactReadTaf : Sound Tryz.prog gl 3 g_laws_FnExactReadTaf :=
  sound_plain (C := C_laws_FnExactReadTaf) ⟨fun _ _ h => h, by kernel_rfl⟩ (sgOf_all' ⟨.inl ⟨by kernel_rfl, (Sound.mono gl_RT (by rfl) e_spec_ReadTaf)⟩, .inl ⟨by kernel_rfl, (Sound.mono gl_RT (by rfl) e_impl_ReadTaf)⟩, .inl ⟨by kernel_rfl, e_laws_eqTaf⟩, .inl ⟨by kernel_rfl, e_laws_markTaf⟩, .inl ⟨by kernel_rfl, e_laws_heldTaf⟩, trivial⟩) 3 Tryz.f3 g_laws_FnExactReadTaf (fun y => y.1.1) (by kernel_rfl) (by kernel_rfl) (by kernel_rfl) (by kernel_rfl) (by kernel_rfl) (by kernel_rfl) (fun _ => rfl) (fun x => by kernel_rfl)
end Go.Proofs.YtondfjckadlabaaGreatDoor.RL
