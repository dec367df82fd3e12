/-
  Part of a proof by the engine: texts that a program of ours printed, or plain lemmas on them. No condition but what each theorem says.
-/
import Derived.Test.YtgkejafaggaocaaSJ
import Derived.Test.YtgkejafaggaocaaSI
import Derived.Test.YtgkejafaggaocaaDR
import Derived.Test.YtgkejafaggaocaaSF
import Derived.Test.YtgkejafaggaocaaEng5
import Derived.Test.YtgkejafaggaocaaProg
import Derived.KernelRfl
import Derived.Test.YtgkejafaggaocaaDoors3
import Derived.Test.YtgkejafaggaocaaDoorsF
set_option linter.unusedVariables false
set_option linter.unusedSimpArgs false
set_option maxRecDepth 100000
namespace Go.Proofs.Ytgkejafaggaocaa.SG
open Go Go.Eng Go.Proofs
open Go.Proofs.Ytgkejafaggaocaa.EX
open Go.Proofs.Ytgkejafaggaocaa.SJ hiding gl
open Go.Proofs.Ytgkejafaggaocaa.SI hiding gl
open Go.Proofs.Ytgkejafaggaocaa.DR hiding gl
open Go.Proofs.Ytgkejafaggaocaa.SF hiding gl
noncomputable def gl : Nat → Option (List Cell) := glOf []
theorem gl_SJ : ∀ g cs, Go.Proofs.Ytgkejafaggaocaa.SJ.gl g = some cs → gl g = some cs := glOf_mono (by intro p hp; cases hp)
theorem gl_SI : ∀ g cs, Go.Proofs.Ytgkejafaggaocaa.SI.gl g = some cs → gl g = some cs := glOf_mono (by intro p hp; cases hp)
theorem gl_DR : ∀ g cs, Go.Proofs.Ytgkejafaggaocaa.DR.gl g = some cs → gl g = some cs := glOf_mono (by intro p hp; cases hp)
theorem gl_SF : ∀ g cs, Go.Proofs.Ytgkejafaggaocaa.SF.gl g = some cs → gl g = some cs := glOf_mono (by intro p hp; cases hp)
-- loop.example/g00051/laws.levelsAt
noncomputable def i_laws_levelsAt : Shape := ⟨[(0, .c (.sl (.pair (.int .i64) .flt))), (1, .c (.sl (.int .i64)))], []⟩
noncomputable def o_laws_levelsAt : Shape := ⟨[(0, .c (.ref 0))], [.lst 41 (.pair (.int .i64) .flt)]⟩
noncomputable def s_laws_levelsAt_3 : Shape := ⟨[(0, .c (.sl (.pair (.int .i64) .flt))), (1, .c (.sl (.int .i64))), (5, .c (.ref 0)), (6, .c (.int .i64))], [.lst 41 (.pair (.int .i64) .flt)]⟩
noncomputable def laws_levelsAt_L3 : Nat → (List (Int × Nat)) → (List Int) → Int → (List (Int × Nat)) → Option ((List (Int × Nat)))
  | 0, _, _, _, _ => none
  | k + 1, a0, a1, a2, a3 =>
  bif decide (a2 < (↑a1.length : Int)) then bif decide (0 ≤ a2) then bif decide (a2 < (↑a1.length : Int)) then bif decide (rd (Kind.int IntKind.i64) a1 a2 < 0) then some [] else bif decide (0 ≤ a2) then bif decide (a2 < (↑a1.length : Int)) then bif decide (rd (Kind.int IntKind.i64) a1 a2 ≥ (↑a0.length : Int)) then some [] else bif decide (0 ≤ a2) then bif decide (a2 < (↑a1.length : Int)) then bif decide (0 ≤ rd (Kind.int IntKind.i64) a1 a2) then bif decide (rd (Kind.int IntKind.i64) a1 a2 < (↑a0.length : Int)) then bif decide (a3.length + [((rd K2_0 a0 (rd (Kind.int IntKind.i64) a1 a2)).fst, (rd K2_0 a0 (rd (Kind.int IntKind.i64) a1 a2)).snd)].length ≤ maxBytes / 16) then laws_levelsAt_L3 k a0 a1 (IntKind.i64.wrap (a2 + 1)) (a3 ++ [((rd K2_0 a0 (rd (Kind.int IntKind.i64) a1 a2)).fst, (rd K2_0 a0 (rd (Kind.int IntKind.i64) a1 a2)).snd)]) else none else none else none else none else none else none else none else none else none else some a3
noncomputable def j_laws_levelsAt : List (Nat × (Nat → Cut ((List (Int × Nat))))) := [(3, fun k => ⟨s_laws_levelsAt_3, fun x => laws_levelsAt_L3 k x.1.1 x.1.2.1 x.1.2.2.2.1 x.2.1⟩)]
noncomputable def laws_levelsAt_F (k : Nat) (a0 : List (Int × Nat)) (a1 : List Int) : Option ((List (Int × Nat))) :=
  laws_levelsAt_L3 k a0 a1 0 []
noncomputable def laws_levelsAt (a0 : List (Int × Nat)) (a1 : List Int) : Option ((List (Int × Nat))) := evF fun k => laws_levelsAt_F k a0 a1
noncomputable def g_laws_levelsAt : Sg := ⟨i_laws_levelsAt, o_laws_levelsAt, (List (Int × Nat)), fun y => (((), ()), (y, ())), fun x => laws_levelsAt x.1.1 x.1.2.1⟩
noncomputable def C_laws_levelsAt : Ctx := ⟨40, tiOf Try.prog, gl, sgOf [], []⟩
noncomputable def r_laws_levelsAt : AExit → Env → Option ((List (Int × Nat))) := retK C_laws_levelsAt 0 o_laws_levelsAt (fun y => y.2.1) Try.f21.results.toList
theorem e_laws_levelsAt : Sound Try.prog gl 21 g_laws_levelsAt :=
  sound_cuts (C := C_laws_levelsAt) ⟨fun _ _ h => h, by kernel_rfl⟩ (sgOf_all' trivial) 21 Try.f21 g_laws_levelsAt (fun y => y.2.1) j_laws_levelsAt 1 (by kernel_rfl) (by kernel_rfl) (by kernel_rfl) (by kernel_rfl) (by kernel_rfl) (by kernel_rfl) (fun _ => rfl) (by kernel_rfl) (by kernel_rfl)
    ⟨trivial, s_laws_levelsAt_3, fun k x => laws_levelsAt_L3 k x.1.1 x.1.2.1 x.1.2.2.2.1 x.2.1, ⟨fun k => by kernel_rfl, fun k y => by kernel_rfl, fun y => by kernel_rfl⟩⟩
    (fun k x => laws_levelsAt_F k x.1.1 x.1.2.1) (fun x => rfl) (fun k x => by kernel_rfl)
-- loop.example/g00051/laws.FnSignificant
noncomputable def i_laws_FnSignificant : Shape := ⟨[(0, .c (.sl (.int .u8)))], []⟩
noncomputable def o_laws_FnSignificant : Shape := ⟨[(0, .c (.bool))], []⟩
noncomputable def s_laws_FnSignificant_13 : Shape := ⟨[(3, .c (.ref 0)), (4, .c (.flt)), (5, .c (.ref 1)), (7, .c (.int .i64))], [.lst 41 (.pair (.int .i64) .flt), .lst 2 (.int .i64)]⟩
noncomputable def s_laws_FnSignificant_19 : Shape := ⟨[(3, .c (.ref 0)), (4, .c (.flt)), (8, .c (.ref 1)), (9, .c (.int .i64))], [.lst 41 (.pair (.int .i64) .flt), .lst 41 (.pair (.int .i64) .flt)]⟩
mutual
noncomputable def laws_FnSignificant_L13 : Nat → Nat → Int → (List (Int × Nat)) → (List Int) → Option (Bool)
  | 0, _, _, _, _ => none
  | k + 1, a0, a1, a2, a3 =>
  bif decide (a1 < (↑a3.length : Int)) then bif decide (0 ≤ a1) then bif decide (a1 < (↑a3.length : Int)) then bif decide (a1 < (↑a3.length : Int)) then bif decide (0 ≤ IntKind.i64.wrap (a1 - 1)) then bif decide (IntKind.i64.wrap (a1 - 1) < (↑a3.length : Int)) then bif decide (IntKind.i64.wrap (a1 - 1) < (↑a3.length : Int)) then bif decide (rd (Kind.int IntKind.i64) a3 a1 ≤ rd (Kind.int IntKind.i64) a3 (IntKind.i64.wrap (a1 - 1))) then some false else laws_FnSignificant_L13 k a0 (IntKind.i64.wrap (a1 + 1)) a2 a3 else none else none else none else none else none else none else (laws_levelsAt a2 a3).bind fun val => laws_FnSignificant_L19 k a0 0 a2 val
noncomputable def laws_FnSignificant_L19 : Nat → Nat → Int → (List (Int × Nat)) → (List (Int × Nat)) → Option (Bool)
  | 0, _, _, _, _ => none
  | k + 1, a0, a1, a2, a3 =>
  bif decide (a1 < (↑a2.length : Int)) then bif decide (0 ≤ a1) then bif decide (a1 < (↑a2.length : Int)) then bif decide (a1 < (↑a2.length : Int)) then bif decide (0 ≤ a1) then bif decide (a1 < (↑a2.length : Int)) then bif decide (a1 < (↑a2.length : Int)) then (impl_Rebuild a3 (rd K2_0 a2 a1).fst).bind fun val => bif flt (fsub (rd K2_0 a2 a1).snd val) a0 || feq (fsub (rd K2_0 a2 a1).snd val) a0 then bif !(flt (fneg (fsub (rd K2_0 a2 a1).snd val)) a0 || feq (fneg (fsub (rd K2_0 a2 a1).snd val)) a0) then some false else laws_FnSignificant_L19 k a0 (IntKind.i64.wrap (a1 + 1)) a2 a3 else some false else none else none else none else none else none else none else some true
end
noncomputable def j_laws_FnSignificant : List (Nat × (Nat → Cut (Bool))) := [(13, fun k => ⟨s_laws_FnSignificant_13, fun x => laws_FnSignificant_L13 k x.1.2.1 x.1.2.2.2.1 x.2.1 x.2.2.1⟩), (19, fun k => ⟨s_laws_FnSignificant_19, fun x => laws_FnSignificant_L19 k x.1.2.1 x.1.2.2.2.1 x.2.1 x.2.2.1⟩)]
noncomputable def laws_FnSignificant_F (k : Nat) (a0 : List Int) : Option (Bool) :=
  (laws_big a0).bind fun val => bif val then some true else (spec_DrawSignif a0).bind fun val => bif decide ((↑val.snd.length : Int) > 120) then some true else (impl_Signif val.snd val.fst).bind fun val_1 => (spec_Signif val.snd val.fst).bind fun val_2 => bif (↑(List.length val_2) : Int) == 0 then some ((↑(List.length val_1) : Int) == 0) else bif decide ((↑(List.length val_1) : Int) < 2) then some false else bif decide (0 < (↑(List.length val_1) : Int)) then bif decide (0 < (↑(List.length val_1) : Int)) then bif rd (Kind.int IntKind.i64) val_1 0 != 0 then some false else bif decide (0 ≤ IntKind.i64.wrap ((↑(List.length val_1) : Int) - 1)) then bif decide (IntKind.i64.wrap ((↑(List.length val_1) : Int) - 1) < (↑(List.length val_1) : Int)) then bif decide (IntKind.i64.wrap ((↑(List.length val_1) : Int) - 1) < (↑(List.length val_1) : Int)) then bif rd (Kind.int IntKind.i64) val_1 (IntKind.i64.wrap ((↑(List.length val_1) : Int) - 1)) != IntKind.i64.wrap ((↑val.snd.length : Int) - 1) then some false else laws_FnSignificant_L13 k val.fst 1 val.snd val_1 else none else none else none else none else none
noncomputable def laws_FnSignificant (a0 : List Int) : Option (Bool) := evF fun k => laws_FnSignificant_F k a0
noncomputable def g_laws_FnSignificant : Sg := ⟨i_laws_FnSignificant, o_laws_FnSignificant, Bool, fun y => ((y, ()), ()), fun x => laws_FnSignificant x.1.1⟩
noncomputable def C_laws_FnSignificant : Ctx := ⟨102, tiOf Try.prog, gl, sgOf [(19, g_laws_big), (20, g_spec_DrawSignif), (13, g_impl_Signif), (11, g_spec_Signif), (21, g_laws_levelsAt), (22, g_impl_Rebuild)], []⟩
noncomputable def r_laws_FnSignificant : AExit → Env → Option (Bool) := retK C_laws_FnSignificant 0 o_laws_FnSignificant (fun y => y.1.1) Try.f5.results.toList
theorem e_laws_FnSignificant : Sound Try.prog gl 5 g_laws_FnSignificant :=
  sound_cuts (C := C_laws_FnSignificant) ⟨fun _ _ h => h, by kernel_rfl⟩ (sgOf_all' ⟨.inl ⟨by kernel_rfl, (Sound.mono gl_SF (by rfl) e_laws_big)⟩, .inl ⟨by kernel_rfl, (Sound.mono gl_SF (by rfl) e_spec_DrawSignif)⟩, .inl ⟨by kernel_rfl, (Sound.mono gl_SI (by rfl) e_impl_Signif)⟩, .inl ⟨by kernel_rfl, (Sound.mono gl_SJ (by rfl) e_spec_Signif)⟩, .inl ⟨by kernel_rfl, e_laws_levelsAt⟩, .inl ⟨by kernel_rfl, (Sound.mono gl_SJ (by rfl) e_impl_Rebuild)⟩, trivial⟩) 5 Try.f5 g_laws_FnSignificant (fun y => y.1.1) j_laws_FnSignificant 2 (by kernel_rfl) (by kernel_rfl) (by kernel_rfl) (by kernel_rfl) (by kernel_rfl) (by kernel_rfl) (fun _ => rfl) (by kernel_rfl) (by kernel_rfl)
    ⟨⟨trivial, s_laws_FnSignificant_13, fun k x => laws_FnSignificant_L13 k x.1.2.1 x.1.2.2.2.1 x.2.1 x.2.2.1, ⟨fun k => by kernel_rfl, fun k y => by kernel_rfl, fun y => by kernel_rfl⟩⟩, s_laws_FnSignificant_19, fun k x => laws_FnSignificant_L19 k x.1.2.1 x.1.2.2.2.1 x.2.1 x.2.2.1, ⟨fun k => by kernel_rfl, fun k y => by kernel_rfl, fun y => by kernel_rfl⟩⟩
    (fun k x => laws_FnSignificant_F k x.1.1) (fun x => rfl) (fun k x => by kernel_rfl)
end Go.Proofs.Ytgkejafaggaocaa.SG
