/-
  Part of a proof by the engine: texts that a program of ours printed, or plain lemmas on them. No condition but what each theorem says.
-/
import Derived.Test.YtgkejafaggaocaaSJ
import Derived.Test.YtgkejafaggaocaaEng5
import Derived.Test.YtgkejafaggaocaaProg
import Derived.KernelRfl
import Derived.Test.YtgkejafaggaocaaDoors3
import Derived.Test.YtgkejafaggaocaaDoorsF
set_option linter.unusedVariables false
set_option linter.unusedSimpArgs false
set_option maxRecDepth 100000
namespace Go.Proofs.Ytgkejafaggaocaa.SI
open Go Go.Eng Go.Proofs
open Go.Proofs.Ytgkejafaggaocaa.EX
open Go.Proofs.Ytgkejafaggaocaa.SJ hiding gl
noncomputable def gl : Nat → Option (List Cell) := glOf []
theorem gl_SJ : ∀ g cs, Go.Proofs.Ytgkejafaggaocaa.SJ.gl g = some cs → gl g = some cs := glOf_mono (by intro p hp; cases hp)
-- loop.example/g00051/laws.szLevelS
noncomputable def i_laws_szLevelS : Shape := ⟨[(0, .c (.sl (.pair (.int .i64) .flt))), (1, .c (.int .i64))], []⟩
noncomputable def o_laws_szLevelS : Shape := ⟨[(0, .c (.int .i64))], []⟩
noncomputable def laws_szLevelS (a0 : List (Int × Nat)) (a1 : Int) : Option (Int) :=
  bif decide (IntKind.i64.wrap (a1 - (↑a0.length : Int)) < 0) then some (-1) else some (IntKind.i64.wrap (a1 - (↑a0.length : Int)))
noncomputable def g_laws_szLevelS : Sg := ⟨i_laws_szLevelS, o_laws_szLevelS, Int, fun y => ((y, ()), ()), fun x => laws_szLevelS x.1.1 x.1.2.1⟩
noncomputable def C_laws_szLevelS : Ctx := ⟨12, tiOf Try.prog, gl, sgOf [], []⟩
noncomputable def r_laws_szLevelS : AExit → Env → Option (Int) := retK C_laws_szLevelS 0 o_laws_szLevelS (fun y => y.1.1) Try.f10.results.toList
theorem e_laws_szLevelS : Sound Try.prog gl 10 g_laws_szLevelS :=
  sound_plain (C := C_laws_szLevelS) ⟨fun _ _ h => h, by kernel_rfl⟩ (sgOf_all' trivial) 10 Try.f10 g_laws_szLevelS (fun y => y.1.1) (by kernel_rfl) (by kernel_rfl) (by kernel_rfl) (by kernel_rfl) (by kernel_rfl) (by kernel_rfl) (fun _ => rfl) (fun x => by kernel_rfl)
-- loop.example/g00051/laws.toLevel
noncomputable def i_laws_toLevel : Shape := ⟨[(0, .agg [.int .i64, .flt])], []⟩
noncomputable def o_laws_toLevel : Shape := ⟨[(0, .agg [.int .i64, .flt])], []⟩
noncomputable def laws_toLevel (a0 : Int) (a1 : Nat) : Option (Int × Nat) :=
  some (a0, a1)
noncomputable def g_laws_toLevel : Sg := ⟨i_laws_toLevel, o_laws_toLevel, Int × Nat, fun y => (((y.1, y.2, ()), ()), ()), fun x => laws_toLevel x.1.1.1 x.1.1.2.1⟩
noncomputable def C_laws_toLevel : Ctx := ⟨11, tiOf Try.prog, gl, sgOf [], []⟩
noncomputable def r_laws_toLevel : AExit → Env → Option (Int × Nat) := retK C_laws_toLevel 0 o_laws_toLevel (fun y => (y.1.1.1, y.1.1.2.1)) Try.f45.results.toList
theorem e_laws_toLevel : Sound Try.prog gl 45 g_laws_toLevel :=
  sound_plain (C := C_laws_toLevel) ⟨fun _ _ h => h, by kernel_rfl⟩ (sgOf_all' trivial) 45 Try.f45 g_laws_toLevel (fun y => (y.1.1.1, y.1.1.2.1)) (by kernel_rfl) (by kernel_rfl) (by kernel_rfl) (by kernel_rfl) (by kernel_rfl) (by kernel_rfl) (fun _ => rfl) (fun x => by kernel_rfl)
-- loop.example/g00051/laws.toLevelS
noncomputable def i_laws_toLevelS : Shape := ⟨[(0, .c (.sl (.pair (.int .i64) .flt)))], []⟩
noncomputable def o_laws_toLevelS : Shape := ⟨[(0, .c (.ref 0))], [.lst 41 (.pair (.int .i64) .flt)]⟩
noncomputable def s_laws_toLevelS_3 : Shape := ⟨[(0, .c (.sl (.pair (.int .i64) .flt))), (3, .c (.ref 0)), (4, .c (.int .i64))], [.lst 41 (.pair (.int .i64) .flt)]⟩
noncomputable def laws_toLevelS_L3 : Nat → (List (Int × Nat)) → Int → (List (Int × Nat)) → Option ((List (Int × Nat)))
  | 0, _, _, _ => none
  | k + 1, a0, a1, a2 =>
  bif decide (a1 < (↑a0.length : Int)) then bif decide (0 ≤ a1) then bif decide (a1 < (↑a0.length : Int)) then (laws_toLevel (rd K2_0 a0 a1).fst (rd K2_0 a0 a1).snd).bind fun val => bif decide (0 ≤ a1) then bif decide (a1 < (↑a2.length : Int)) then (setW a2 a1 (val.fst, val.snd)).bind fun val => laws_toLevelS_L3 k a0 (IntKind.i64.wrap (a1 + 1)) val else none else none else none else none else some a2
noncomputable def j_laws_toLevelS : List (Nat × (Nat → Cut ((List (Int × Nat))))) := [(3, fun k => ⟨s_laws_toLevelS_3, fun x => laws_toLevelS_L3 k x.1.1 x.1.2.2.1 x.2.1⟩)]
noncomputable def laws_toLevelS_F (k : Nat) (a0 : List (Int × Nat)) : Option ((List (Int × Nat))) :=
  bif decide ((↑a0.length : Int) ≤ (↑a0.length : Int)) then bif decide ((↑a0.length : Int).toNat ≤ maxBytes / 16) then laws_toLevelS_L3 k a0 0 (List.replicate (↑a0.length : Int).toNat (0, 0)) else none else none
noncomputable def laws_toLevelS (a0 : List (Int × Nat)) : Option ((List (Int × Nat))) := evF fun k => laws_toLevelS_F k a0
noncomputable def g_laws_toLevelS : Sg := ⟨i_laws_toLevelS, o_laws_toLevelS, (List (Int × Nat)), fun y => (((), ()), (y, ())), fun x => laws_toLevelS x.1.1⟩
noncomputable def C_laws_toLevelS : Ctx := ⟨23, tiOf Try.prog, gl, sgOf [(45, g_laws_toLevel)], []⟩
noncomputable def r_laws_toLevelS : AExit → Env → Option ((List (Int × Nat))) := retK C_laws_toLevelS 0 o_laws_toLevelS (fun y => y.2.1) Try.f12.results.toList
theorem e_laws_toLevelS : Sound Try.prog gl 12 g_laws_toLevelS :=
  sound_cuts (C := C_laws_toLevelS) ⟨fun _ _ h => h, by kernel_rfl⟩ (sgOf_all' ⟨.inl ⟨by kernel_rfl, e_laws_toLevel⟩, trivial⟩) 12 Try.f12 g_laws_toLevelS (fun y => y.2.1) j_laws_toLevelS 1 (by kernel_rfl) (by kernel_rfl) (by kernel_rfl) (by kernel_rfl) (by kernel_rfl) (by kernel_rfl) (fun _ => rfl) (by kernel_rfl) (by kernel_rfl)
    ⟨trivial, s_laws_toLevelS_3, fun k x => laws_toLevelS_L3 k x.1.1 x.1.2.2.1 x.2.1, ⟨fun k => by kernel_rfl, fun k y => by kernel_rfl, fun y => by kernel_rfl⟩⟩
    (fun k x => laws_toLevelS_F k x.1.1) (fun x => rfl) (fun k x => by kernel_rfl)
-- loop.example/g00051/impl.Signif
noncomputable def i_impl_Signif : Shape := ⟨[(0, .c (.sl (.pair (.int .i64) .flt))), (1, .c (.flt))], []⟩
noncomputable def o_impl_Signif : Shape := ⟨[(0, .c (.ref 0))], [.lst 2 (.int .i64)]⟩
noncomputable def impl_Signif (a0 : List (Int × Nat)) (a1 : Nat) : Option ((List Int)) :=
  (impl_AscentOk a0).bind fun val => bif !val then some [] else (impl_Known a1).bind fun val => bif !val then some [] else bif flt a1 0 then some [] else (impl_Signif_1 0 (IntKind.i64.wrap ((↑a0.length : Int) - 1)) a0 a1 [0, IntKind.i64.wrap ((↑a0.length : Int) - 1)]).bind fun val => (dSort val.snd.snd).bind fun val => some val
noncomputable def g_impl_Signif : Sg := ⟨i_impl_Signif, o_impl_Signif, (List Int), fun y => (((), ()), (y, ())), fun x => impl_Signif x.1.1 x.1.2.1⟩
noncomputable def C_impl_Signif : Ctx := ⟨32, tiOf Try.prog, gl, sgOf [(46, g_impl_AscentOk), (47, g_impl_Known), (48, g_impl_Signif_1), (51, gSort)], []⟩
noncomputable def r_impl_Signif : AExit → Env → Option ((List Int)) := retK C_impl_Signif 0 o_impl_Signif (fun y => y.2.1) Try.f13.results.toList
theorem e_impl_Signif : Sound Try.prog gl 13 g_impl_Signif :=
  sound_plain (C := C_impl_Signif) ⟨fun _ _ h => h, by kernel_rfl⟩ (sgOf_all' ⟨.inl ⟨by kernel_rfl, (Sound.mono gl_SJ (by rfl) e_impl_AscentOk)⟩, .inl ⟨by kernel_rfl, (Sound.mono gl_SJ (by rfl) e_impl_Known)⟩, .inl ⟨by kernel_rfl, (Sound.mono gl_SJ (by rfl) e_impl_Signif_1)⟩, .inl ⟨by kernel_rfl, eSort⟩, trivial⟩) 13 Try.f13 g_impl_Signif (fun y => y.2.1) (by kernel_rfl) (by kernel_rfl) (by kernel_rfl) (by kernel_rfl) (by kernel_rfl) (by kernel_rfl) (fun _ => rfl) (fun x => by kernel_rfl)
-- loop.example/g00051/laws.eqInt64S
noncomputable def i_laws_eqInt64S : Shape := ⟨[(0, .c (.sl (.int .i64))), (1, .c (.sl (.int .i64)))], []⟩
noncomputable def o_laws_eqInt64S : Shape := ⟨[(0, .c (.bool))], []⟩
noncomputable def s_laws_eqInt64S_4 : Shape := ⟨[(0, .c (.sl (.int .i64))), (1, .c (.sl (.int .i64))), (5, .c (.int .i64))], []⟩
noncomputable def laws_eqInt64S_L4 : Nat → (List Int) → (List Int) → Int → Option (Bool)
  | 0, _, _, _ => none
  | k + 1, a0, a1, a2 =>
  bif decide (a2 < (↑a0.length : Int)) then bif decide (0 ≤ a2) then bif decide (a2 < (↑a0.length : Int)) then bif decide (0 ≤ a2) then bif decide (a2 < (↑a1.length : Int)) then bif rd (Kind.int IntKind.i64) a0 a2 != rd (Kind.int IntKind.i64) a1 a2 then some false else laws_eqInt64S_L4 k a0 a1 (IntKind.i64.wrap (a2 + 1)) else none else none else none else none else some true
noncomputable def j_laws_eqInt64S : List (Nat × (Nat → Cut (Bool))) := [(4, fun k => ⟨s_laws_eqInt64S_4, fun x => laws_eqInt64S_L4 k x.1.1 x.1.2.1 x.1.2.2.1⟩)]
noncomputable def laws_eqInt64S_F (k : Nat) (a0 : List Int) (a1 : List Int) : Option (Bool) :=
  bif (↑a0.length : Int) != (↑a1.length : Int) then some false else laws_eqInt64S_L4 k a0 a1 0
noncomputable def laws_eqInt64S (a0 : List Int) (a1 : List Int) : Option (Bool) := evF fun k => laws_eqInt64S_F k a0 a1
noncomputable def g_laws_eqInt64S : Sg := ⟨i_laws_eqInt64S, o_laws_eqInt64S, Bool, fun y => ((y, ()), ()), fun x => laws_eqInt64S x.1.1 x.1.2.1⟩
noncomputable def C_laws_eqInt64S : Ctx := ⟨26, tiOf Try.prog, gl, sgOf [], []⟩
noncomputable def r_laws_eqInt64S : AExit → Env → Option (Bool) := retK C_laws_eqInt64S 0 o_laws_eqInt64S (fun y => y.1.1) Try.f14.results.toList
theorem e_laws_eqInt64S : Sound Try.prog gl 14 g_laws_eqInt64S :=
  sound_cuts (C := C_laws_eqInt64S) ⟨fun _ _ h => h, by kernel_rfl⟩ (sgOf_all' trivial) 14 Try.f14 g_laws_eqInt64S (fun y => y.1.1) j_laws_eqInt64S 1 (by kernel_rfl) (by kernel_rfl) (by kernel_rfl) (by kernel_rfl) (by kernel_rfl) (by kernel_rfl) (fun _ => rfl) (by kernel_rfl) (by kernel_rfl)
    ⟨trivial, s_laws_eqInt64S_4, fun k x => laws_eqInt64S_L4 k x.1.1 x.1.2.1 x.1.2.2.1, ⟨fun k => by kernel_rfl, fun k y => by kernel_rfl, fun y => by kernel_rfl⟩⟩
    (fun k x => laws_eqInt64S_F k x.1.1 x.1.2.1) (fun x => rfl) (fun k x => by kernel_rfl)
-- loop.example/g00051/laws.sameFloat
noncomputable def i_laws_sameFloat : Shape := ⟨[(0, .c (.flt)), (1, .c (.flt))], []⟩
noncomputable def o_laws_sameFloat : Shape := ⟨[(0, .c (.bool))], []⟩
noncomputable def laws_sameFloat (a0 : Nat) (a1 : Nat) : Option (Bool) :=
  bif !feq a0 a0 then bif !feq a0 a0 then some !feq a1 a1 else some false else bif !feq a1 a1 then bif !feq a0 a0 then some !feq a1 a1 else some false else bif feq a0 0 then bif feq a1 0 then some (fgt (fdiv 4607182418800017408 a0) 0 == fgt (fdiv 4607182418800017408 a1) 0) else some (feq a0 a1) else some (feq a0 a1)
noncomputable def g_laws_sameFloat : Sg := ⟨i_laws_sameFloat, o_laws_sameFloat, Bool, fun y => ((y, ()), ()), fun x => laws_sameFloat x.1.1 x.1.2.1⟩
noncomputable def C_laws_sameFloat : Ctx := ⟨37, tiOf Try.prog, gl, sgOf [], []⟩
noncomputable def r_laws_sameFloat : AExit → Env → Option (Bool) := retK C_laws_sameFloat 0 o_laws_sameFloat (fun y => y.1.1) Try.f71.results.toList
theorem e_laws_sameFloat : Sound Try.prog gl 71 g_laws_sameFloat :=
  sound_plain (C := C_laws_sameFloat) ⟨fun _ _ h => h, by kernel_rfl⟩ (sgOf_all' trivial) 71 Try.f71 g_laws_sameFloat (fun y => y.1.1) (by kernel_rfl) (by kernel_rfl) (by kernel_rfl) (by kernel_rfl) (by kernel_rfl) (by kernel_rfl) (fun _ => rfl) (fun x => by kernel_rfl)
-- loop.example/g00051/laws.eqLevel
noncomputable def i_laws_eqLevel : Shape := ⟨[(0, .agg [.int .i64, .flt]), (1, .agg [.int .i64, .flt])], []⟩
noncomputable def o_laws_eqLevel : Shape := ⟨[(0, .c (.bool))], []⟩
noncomputable def laws_eqLevel (a0 : Int) (a1 : Nat) (a2 : Int) (a3 : Nat) : Option (Bool) :=
  bif a0 != a2 then some false else (laws_sameFloat a1 a3).bind fun val => bif !val then some false else some true
noncomputable def g_laws_eqLevel : Sg := ⟨i_laws_eqLevel, o_laws_eqLevel, Bool, fun y => ((y, ()), ()), fun x => laws_eqLevel x.1.1.1 x.1.1.2.1 x.1.2.1.1 x.1.2.1.2.1⟩
noncomputable def C_laws_eqLevel : Ctx := ⟨16, tiOf Try.prog, gl, sgOf [(71, g_laws_sameFloat)], []⟩
noncomputable def r_laws_eqLevel : AExit → Env → Option (Bool) := retK C_laws_eqLevel 0 o_laws_eqLevel (fun y => y.1.1) Try.f52.results.toList
theorem e_laws_eqLevel : Sound Try.prog gl 52 g_laws_eqLevel :=
  sound_plain (C := C_laws_eqLevel) ⟨fun _ _ h => h, by kernel_rfl⟩ (sgOf_all' ⟨.inl ⟨by kernel_rfl, e_laws_sameFloat⟩, trivial⟩) 52 Try.f52 g_laws_eqLevel (fun y => y.1.1) (by kernel_rfl) (by kernel_rfl) (by kernel_rfl) (by kernel_rfl) (by kernel_rfl) (by kernel_rfl) (fun _ => rfl) (fun x => by kernel_rfl)
-- loop.example/g00051/laws.eqLevelS
noncomputable def i_laws_eqLevelS : Shape := ⟨[(0, .c (.sl (.pair (.int .i64) .flt))), (1, .c (.sl (.pair (.int .i64) .flt)))], []⟩
noncomputable def o_laws_eqLevelS : Shape := ⟨[(0, .c (.bool))], []⟩
noncomputable def s_laws_eqLevelS_4 : Shape := ⟨[(0, .c (.sl (.pair (.int .i64) .flt))), (1, .c (.sl (.pair (.int .i64) .flt))), (5, .c (.int .i64))], []⟩
noncomputable def laws_eqLevelS_L4 : Nat → (List (Int × Nat)) → (List (Int × Nat)) → Int → Option (Bool)
  | 0, _, _, _ => none
  | k + 1, a0, a1, a2 =>
  bif decide (a2 < (↑a0.length : Int)) then bif decide (0 ≤ a2) then bif decide (a2 < (↑a0.length : Int)) then bif decide (0 ≤ a2) then bif decide (a2 < (↑a1.length : Int)) then (laws_eqLevel (rd K2_0 a0 a2).fst (rd K2_0 a0 a2).snd (rd K2_0 a1 a2).fst (rd K2_0 a1 a2).snd).bind fun val => bif !val then some false else laws_eqLevelS_L4 k a0 a1 (IntKind.i64.wrap (a2 + 1)) else none else none else none else none else some true
noncomputable def j_laws_eqLevelS : List (Nat × (Nat → Cut (Bool))) := [(4, fun k => ⟨s_laws_eqLevelS_4, fun x => laws_eqLevelS_L4 k x.1.1 x.1.2.1 x.1.2.2.1⟩)]
noncomputable def laws_eqLevelS_F (k : Nat) (a0 : List (Int × Nat)) (a1 : List (Int × Nat)) : Option (Bool) :=
  bif (↑a0.length : Int) != (↑a1.length : Int) then some false else laws_eqLevelS_L4 k a0 a1 0
noncomputable def laws_eqLevelS (a0 : List (Int × Nat)) (a1 : List (Int × Nat)) : Option (Bool) := evF fun k => laws_eqLevelS_F k a0 a1
noncomputable def g_laws_eqLevelS : Sg := ⟨i_laws_eqLevelS, o_laws_eqLevelS, Bool, fun y => ((y, ()), ()), fun x => laws_eqLevelS x.1.1 x.1.2.1⟩
noncomputable def C_laws_eqLevelS : Ctx := ⟨27, tiOf Try.prog, gl, sgOf [(52, g_laws_eqLevel)], []⟩
noncomputable def r_laws_eqLevelS : AExit → Env → Option (Bool) := retK C_laws_eqLevelS 0 o_laws_eqLevelS (fun y => y.1.1) Try.f15.results.toList
theorem e_laws_eqLevelS : Sound Try.prog gl 15 g_laws_eqLevelS :=
  sound_cuts (C := C_laws_eqLevelS) ⟨fun _ _ h => h, by kernel_rfl⟩ (sgOf_all' ⟨.inl ⟨by kernel_rfl, e_laws_eqLevel⟩, trivial⟩) 15 Try.f15 g_laws_eqLevelS (fun y => y.1.1) j_laws_eqLevelS 1 (by kernel_rfl) (by kernel_rfl) (by kernel_rfl) (by kernel_rfl) (by kernel_rfl) (by kernel_rfl) (fun _ => rfl) (by kernel_rfl) (by kernel_rfl)
    ⟨trivial, s_laws_eqLevelS_4, fun k x => laws_eqLevelS_L4 k x.1.1 x.1.2.1 x.1.2.2.1, ⟨fun k => by kernel_rfl, fun k y => by kernel_rfl, fun y => by kernel_rfl⟩⟩
    (fun k x => laws_eqLevelS_F k x.1.1 x.1.2.1) (fun x => rfl) (fun k x => by kernel_rfl)
-- loop.example/g00051/laws.markLevelS
noncomputable def i_laws_markLevelS : Shape := ⟨[(0, .c (.ref 0)), (1, .c (.int .i64))], [.lst 41 (.pair (.int .i64) .flt)]⟩
noncomputable def o_laws_markLevelS : Shape := ⟨[(0, .c (.int .i64))], [.lst 41 (.pair (.int .i64) .flt)]⟩
noncomputable def s_laws_markLevelS_2 : Shape := ⟨[(0, .c (.ref 0)), (1, .c (.int .i64)), (5, .c (.int .i64))], [.lst 41 (.pair (.int .i64) .flt)]⟩
noncomputable def laws_markLevelS_L2 : Nat → Int → Int → (List (Int × Nat)) → Option (Int × (List (Int × Nat)))
  | 0, _, _, _ => none
  | k + 1, a0, a1, a2 =>
  bif decide (a1 < (↑a2.length : Int)) then bif decide (0 ≤ a1) then bif decide (a1 < (↑a2.length : Int)) then (setO K2_0 0 [Cell.int IntKind.i64 a0] a2 a1).bind fun val => bif decide (0 ≤ a1) then bif decide (a1 < (↑val.length : Int)) then (setO K2_0 1 [Cell.flt (fofi (IntKind.i64.wrap (a0 + 1)))] val a1).bind fun val => laws_markLevelS_L2 k (IntKind.i64.wrap (IntKind.i64.wrap (a0 + 1) + 1)) (IntKind.i64.wrap (a1 + 1)) val else none else none else none else none else some (a0, a2)
noncomputable def j_laws_markLevelS : List (Nat × (Nat → Cut (Int × (List (Int × Nat))))) := [(2, fun k => ⟨s_laws_markLevelS_2, fun x => laws_markLevelS_L2 k x.1.2.1 x.1.2.2.1 x.2.1⟩)]
noncomputable def laws_markLevelS_F (k : Nat) (a0 : Int) (a1 : List (Int × Nat)) : Option (Int × (List (Int × Nat))) :=
  laws_markLevelS_L2 k a0 0 a1
noncomputable def laws_markLevelS (a0 : Int) (a1 : List (Int × Nat)) : Option (Int × (List (Int × Nat))) := evF fun k => laws_markLevelS_F k a0 a1
noncomputable def g_laws_markLevelS : Sg := ⟨i_laws_markLevelS, o_laws_markLevelS, Int × (List (Int × Nat)), fun y => ((y.1, ()), (y.2, ())), fun x => laws_markLevelS x.1.2.1 x.2.1⟩
noncomputable def C_laws_markLevelS : Ctx := ⟨28, tiOf Try.prog, gl, sgOf [], []⟩
noncomputable def r_laws_markLevelS : AExit → Env → Option (Int × (List (Int × Nat))) := retK C_laws_markLevelS 1 o_laws_markLevelS (fun y => (y.1.1, y.2.1)) Try.f16.results.toList
theorem e_laws_markLevelS : Sound Try.prog gl 16 g_laws_markLevelS :=
  sound_cuts (C := C_laws_markLevelS) ⟨fun _ _ h => h, by kernel_rfl⟩ (sgOf_all' trivial) 16 Try.f16 g_laws_markLevelS (fun y => (y.1.1, y.2.1)) j_laws_markLevelS 1 (by kernel_rfl) (by kernel_rfl) (by kernel_rfl) (by kernel_rfl) (by kernel_rfl) (by kernel_rfl) (fun _ => rfl) (by kernel_rfl) (by kernel_rfl)
    ⟨trivial, s_laws_markLevelS_2, fun k x => laws_markLevelS_L2 k x.1.2.1 x.1.2.2.1 x.2.1, ⟨fun k => by kernel_rfl, fun k y => by kernel_rfl, fun y => by kernel_rfl⟩⟩
    (fun k x => laws_markLevelS_F k x.1.2.1 x.2.1) (fun x => rfl) (fun k x => by kernel_rfl)
-- loop.example/g00051/laws.markInt64S
noncomputable def i_laws_markInt64S : Shape := ⟨[(0, .c (.ref 0)), (1, .c (.int .i64))], [.lst 2 (.int .i64)]⟩
noncomputable def o_laws_markInt64S : Shape := ⟨[(0, .c (.int .i64))], [.lst 2 (.int .i64)]⟩
noncomputable def s_laws_markInt64S_2 : Shape := ⟨[(0, .c (.ref 0)), (1, .c (.int .i64)), (5, .c (.int .i64))], [.lst 2 (.int .i64)]⟩
noncomputable def laws_markInt64S_L2 : Nat → Int → Int → (List Int) → Option (Int × (List Int))
  | 0, _, _, _ => none
  | k + 1, a0, a1, a2 =>
  bif decide (a1 < (↑a2.length : Int)) then bif decide (0 ≤ a1) then bif decide (a1 < (↑a2.length : Int)) then (setW a2 a1 a0).bind fun val => laws_markInt64S_L2 k (IntKind.i64.wrap (a0 + 1)) (IntKind.i64.wrap (a1 + 1)) val else none else none else some (a0, a2)
noncomputable def j_laws_markInt64S : List (Nat × (Nat → Cut (Int × (List Int)))) := [(2, fun k => ⟨s_laws_markInt64S_2, fun x => laws_markInt64S_L2 k x.1.2.1 x.1.2.2.1 x.2.1⟩)]
noncomputable def laws_markInt64S_F (k : Nat) (a0 : Int) (a1 : List Int) : Option (Int × (List Int)) :=
  laws_markInt64S_L2 k a0 0 a1
noncomputable def laws_markInt64S (a0 : Int) (a1 : List Int) : Option (Int × (List Int)) := evF fun k => laws_markInt64S_F k a0 a1
noncomputable def g_laws_markInt64S : Sg := ⟨i_laws_markInt64S, o_laws_markInt64S, Int × (List Int), fun y => ((y.1, ()), (y.2, ())), fun x => laws_markInt64S x.1.2.1 x.2.1⟩
noncomputable def C_laws_markInt64S : Ctx := ⟨19, tiOf Try.prog, gl, sgOf [], []⟩
noncomputable def r_laws_markInt64S : AExit → Env → Option (Int × (List Int)) := retK C_laws_markInt64S 1 o_laws_markInt64S (fun y => (y.1.1, y.2.1)) Try.f17.results.toList
theorem e_laws_markInt64S : Sound Try.prog gl 17 g_laws_markInt64S :=
  sound_cuts (C := C_laws_markInt64S) ⟨fun _ _ h => h, by kernel_rfl⟩ (sgOf_all' trivial) 17 Try.f17 g_laws_markInt64S (fun y => (y.1.1, y.2.1)) j_laws_markInt64S 1 (by kernel_rfl) (by kernel_rfl) (by kernel_rfl) (by kernel_rfl) (by kernel_rfl) (by kernel_rfl) (fun _ => rfl) (by kernel_rfl) (by kernel_rfl)
    ⟨trivial, s_laws_markInt64S_2, fun k x => laws_markInt64S_L2 k x.1.2.1 x.1.2.2.1 x.2.1, ⟨fun k => by kernel_rfl, fun k y => by kernel_rfl, fun y => by kernel_rfl⟩⟩
    (fun k x => laws_markInt64S_F k x.1.2.1 x.2.1) (fun x => rfl) (fun k x => by kernel_rfl)
-- loop.example/g00051/laws.heldInt64S
noncomputable def i_laws_heldInt64S : Shape := ⟨[(0, .c (.sl (.int .i64))), (1, .c (.int .i64))], []⟩
noncomputable def o_laws_heldInt64S : Shape := ⟨[(0, .c (.int .i64))], []⟩
noncomputable def s_laws_heldInt64S_2 : Shape := ⟨[(0, .c (.sl (.int .i64))), (1, .c (.int .i64)), (5, .c (.int .i64))], []⟩
noncomputable def laws_heldInt64S_L2 : Nat → (List Int) → Int → Int → Option (Int)
  | 0, _, _, _ => none
  | k + 1, a0, a1, a2 =>
  bif decide (a2 < (↑a0.length : Int)) then bif decide (0 ≤ a2) then bif decide (a2 < (↑a0.length : Int)) then bif rd (Kind.int IntKind.i64) a0 a2 != a1 then some (-1) else laws_heldInt64S_L2 k a0 (IntKind.i64.wrap (a1 + 1)) (IntKind.i64.wrap (a2 + 1)) else none else none else some a1
noncomputable def j_laws_heldInt64S : List (Nat × (Nat → Cut (Int))) := [(2, fun k => ⟨s_laws_heldInt64S_2, fun x => laws_heldInt64S_L2 k x.1.1 x.1.2.1 x.1.2.2.1⟩)]
noncomputable def laws_heldInt64S_F (k : Nat) (a0 : List Int) (a1 : Int) : Option (Int) :=
  laws_heldInt64S_L2 k a0 a1 0
noncomputable def laws_heldInt64S (a0 : List Int) (a1 : Int) : Option (Int) := evF fun k => laws_heldInt64S_F k a0 a1
noncomputable def g_laws_heldInt64S : Sg := ⟨i_laws_heldInt64S, o_laws_heldInt64S, Int, fun y => ((y, ()), ()), fun x => laws_heldInt64S x.1.1 x.1.2.1⟩
noncomputable def C_laws_heldInt64S : Ctx := ⟨21, tiOf Try.prog, gl, sgOf [], []⟩
noncomputable def r_laws_heldInt64S : AExit → Env → Option (Int) := retK C_laws_heldInt64S 0 o_laws_heldInt64S (fun y => y.1.1) Try.f18.results.toList
theorem e_laws_heldInt64S : Sound Try.prog gl 18 g_laws_heldInt64S :=
  sound_cuts (C := C_laws_heldInt64S) ⟨fun _ _ h => h, by kernel_rfl⟩ (sgOf_all' trivial) 18 Try.f18 g_laws_heldInt64S (fun y => y.1.1) j_laws_heldInt64S 1 (by kernel_rfl) (by kernel_rfl) (by kernel_rfl) (by kernel_rfl) (by kernel_rfl) (by kernel_rfl) (fun _ => rfl) (by kernel_rfl) (by kernel_rfl)
    ⟨trivial, s_laws_heldInt64S_2, fun k x => laws_heldInt64S_L2 k x.1.1 x.1.2.1 x.1.2.2.1, ⟨fun k => by kernel_rfl, fun k y => by kernel_rfl, fun y => by kernel_rfl⟩⟩
    (fun k x => laws_heldInt64S_F k x.1.1 x.1.2.1) (fun x => rfl) (fun k x => by kernel_rfl)
-- loop.example/g00051/laws.FnExactSignif
noncomputable def i_laws_FnExactSignif : Shape := ⟨[(0, .c (.sl (.pair (.int .i64) .flt))), (1, .c (.flt))], []⟩
noncomputable def o_laws_FnExactSignif : Shape := ⟨[(0, .c (.bool))], []⟩
noncomputable def laws_FnExactSignif (a0 : List (Int × Nat)) (a1 : Nat) : Option (Bool) :=
  (laws_szLevelS a0 1048576).bind fun val => bif decide (val < 0) then some true else (laws_toLevelS a0).bind fun val => (spec_Signif val a1).bind fun val => (laws_toLevelS a0).bind fun val_1 => (impl_Signif val_1 a1).bind fun val_2 => (laws_eqInt64S val_2 val).bind fun val_3 => bif !val_3 then some false else (laws_toLevelS a0).bind fun val_4 => (laws_eqLevelS val_1 val_4).bind fun val_5 => bif !val_5 then some false else (laws_markLevelS 1 val_1).bind fun val_6 => bif decide (val_6.fst < 0) then some false else (laws_eqInt64S val_2 val).bind fun val_7 => bif !val_7 then some false else (laws_markInt64S 1 val_2).bind fun val_8 => (laws_heldInt64S val_8.snd 1).bind fun val_9 => bif decide (val_9 < 0) then some false else bif val_9 != val_8.fst then some false else (laws_toLevelS a0).bind fun val_10 => (impl_Signif val_10 a1).bind fun val_11 => (laws_eqInt64S val_11 val).bind fun val => bif !val then some false else (laws_heldInt64S val_8.snd 1).bind fun val => bif decide (val < 0) then some false else bif val != val_8.fst then some false else some true
noncomputable def g_laws_FnExactSignif : Sg := ⟨i_laws_FnExactSignif, o_laws_FnExactSignif, Bool, fun y => ((y, ()), ()), fun x => laws_FnExactSignif x.1.1 x.1.2.1⟩
noncomputable def C_laws_FnExactSignif : Ctx := ⟨74, tiOf Try.prog, gl, sgOf [(10, g_laws_szLevelS), (12, g_laws_toLevelS), (11, g_spec_Signif), (13, g_impl_Signif), (14, g_laws_eqInt64S), (15, g_laws_eqLevelS), (16, g_laws_markLevelS), (17, g_laws_markInt64S), (18, g_laws_heldInt64S)], []⟩
noncomputable def r_laws_FnExactSignif : AExit → Env → Option (Bool) := retK C_laws_FnExactSignif 0 o_laws_FnExactSignif (fun y => y.1.1) Try.f3.results.toList
theorem e_laws_FnExactSignif : Sound Try.prog gl 3 g_laws_FnExactSignif :=
  sound_plain (C := C_laws_FnExactSignif) ⟨fun _ _ h => h, by kernel_rfl⟩ (sgOf_all' ⟨.inl ⟨by kernel_rfl, e_laws_szLevelS⟩, .inl ⟨by kernel_rfl, e_laws_toLevelS⟩, .inl ⟨by kernel_rfl, (Sound.mono gl_SJ (by rfl) e_spec_Signif)⟩, .inl ⟨by kernel_rfl, e_impl_Signif⟩, .inl ⟨by kernel_rfl, e_laws_eqInt64S⟩, .inl ⟨by kernel_rfl, e_laws_eqLevelS⟩, .inl ⟨by kernel_rfl, e_laws_markLevelS⟩, .inl ⟨by kernel_rfl, e_laws_markInt64S⟩, .inl ⟨by kernel_rfl, e_laws_heldInt64S⟩, trivial⟩) 3 Try.f3 g_laws_FnExactSignif (fun y => y.1.1) (by kernel_rfl) (by kernel_rfl) (by kernel_rfl) (by kernel_rfl) (by kernel_rfl) (by kernel_rfl) (fun _ => rfl) (fun x => by kernel_rfl)
end Go.Proofs.Ytgkejafaggaocaa.SI
