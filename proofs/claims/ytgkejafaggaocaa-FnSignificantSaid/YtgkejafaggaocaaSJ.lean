/-
  Part of a proof by the engine: texts that a program of ours printed, or plain lemmas on them. No condition but what each theorem says.
-/
import Derived.Test.YtgkejafaggaocaaEng5
import Derived.Test.YtgkejafaggaocaaProg
import Derived.KernelRfl
import Derived.Test.YtgkejafaggaocaaDoorsF
set_option linter.unusedVariables false
set_option linter.unusedSimpArgs false
set_option maxRecDepth 100000
namespace Go.Proofs.Ytgkejafaggaocaa.SJ
open Go Go.Eng Go.Proofs
open Go.Proofs.Ytgkejafaggaocaa.EX
noncomputable def gl : Nat → Option (List Cell) := glOf []
abbrev K2_0 : Kind := (.pair (.int .i64) .flt)
-- loop.example/g00051/impl.in
noncomputable def i_impl_in : Shape := ⟨[(0, .c (.int .i64)), (1, .c (.int .i64)), (2, .c (.int .i64))], []⟩
noncomputable def o_impl_in : Shape := ⟨[(0, .c (.bool))], []⟩
noncomputable def impl_in (a0 : Int) (a1 : Int) (a2 : Int) : Option (Bool) :=
  bif decide (a0 ≥ a1) then some (decide (a0 ≤ a2)) else some false
noncomputable def g_impl_in : Sg := ⟨i_impl_in, o_impl_in, Bool, fun y => ((y, ()), ()), fun x => impl_in x.1.1 x.1.2.1 x.1.2.2.1⟩
noncomputable def C_impl_in : Ctx := ⟨15, tiOf Try.prog, gl, sgOf [], []⟩
noncomputable def r_impl_in : AExit → Env → Option (Bool) := retK C_impl_in 0 o_impl_in (fun y => y.1.1) Try.f81.results.toList
theorem e_impl_in : Sound Try.prog gl 81 g_impl_in :=
  sound_plain (C := C_impl_in) ⟨fun _ _ h => h, by kernel_rfl⟩ (sgOf_all' trivial) 81 Try.f81 g_impl_in (fun y => y.1.1) (by kernel_rfl) (by kernel_rfl) (by kernel_rfl) (by kernel_rfl) (by kernel_rfl) (by kernel_rfl) (fun _ => rfl) (fun x => by kernel_rfl)
-- loop.example/g00051/impl.Between$1
noncomputable def i_impl_Between_1 : Shape := ⟨[(0, .c (.int .i64))], []⟩
noncomputable def o_impl_Between_1 : Shape := ⟨[(0, .c (.bool))], []⟩
noncomputable def impl_Between_1 (a0 : Int) : Option (Bool) :=
  (impl_in a0 (-12000) 12000).bind fun val => some val
noncomputable def g_impl_Between_1 : Sg := ⟨i_impl_Between_1, o_impl_Between_1, Bool, fun y => ((y, ()), ()), fun x => impl_Between_1 x.1.1⟩
noncomputable def C_impl_Between_1 : Ctx := ⟨5, tiOf Try.prog, gl, sgOf [(81, g_impl_in)], []⟩
noncomputable def r_impl_Between_1 : AExit → Env → Option (Bool) := retK C_impl_Between_1 0 o_impl_Between_1 (fun y => y.1.1) Try.f86.results.toList
theorem e_impl_Between_1 : Sound Try.prog gl 86 g_impl_Between_1 :=
  sound_plain (C := C_impl_Between_1) ⟨fun _ _ h => h, by kernel_rfl⟩ (sgOf_all' ⟨.inl ⟨by kernel_rfl, e_impl_in⟩, trivial⟩) 86 Try.f86 g_impl_Between_1 (fun y => y.1.1) (by kernel_rfl) (by kernel_rfl) (by kernel_rfl) (by kernel_rfl) (by kernel_rfl) (by kernel_rfl) (fun _ => rfl) (fun x => by kernel_rfl)
-- math.NaN
noncomputable def i_math_NaN : Shape := ⟨[], []⟩
noncomputable def o_math_NaN : Shape := ⟨[(0, .c (.flt))], []⟩
noncomputable def math_NaN : Option (Nat) :=
  (dFf 9221120237041090561).bind fun val => some val
noncomputable def g_math_NaN : Sg := ⟨i_math_NaN, o_math_NaN, Nat, fun y => ((y, ()), ()), fun x => math_NaN ⟩
noncomputable def C_math_NaN : Ctx := ⟨2, tiOf Try.prog, gl, sgOf [(84, gFf)], []⟩
noncomputable def r_math_NaN : AExit → Env → Option (Nat) := retK C_math_NaN 0 o_math_NaN (fun y => y.1.1) Try.f91.results.toList
theorem e_math_NaN : Sound Try.prog gl 91 g_math_NaN :=
  sound_plain (C := C_math_NaN) ⟨fun _ _ h => h, by kernel_rfl⟩ (sgOf_all' ⟨.inr xFf, trivial⟩) 91 Try.f91 g_math_NaN (fun y => y.1.1) (by kernel_rfl) (by kernel_rfl) (by kernel_rfl) (by kernel_rfl) (by kernel_rfl) (by kernel_rfl) (fun _ => rfl) (fun x => by kernel_rfl)
-- loop.example/g00051/impl.nan
noncomputable def i_impl_nan : Shape := ⟨[], []⟩
noncomputable def o_impl_nan : Shape := ⟨[(0, .c (.flt))], []⟩
noncomputable def impl_nan : Option (Nat) :=
  math_NaN.bind fun val => some val
noncomputable def g_impl_nan : Sg := ⟨i_impl_nan, o_impl_nan, Nat, fun y => ((y, ()), ()), fun x => impl_nan ⟩
noncomputable def C_impl_nan : Ctx := ⟨2, tiOf Try.prog, gl, sgOf [(91, g_math_NaN)], []⟩
noncomputable def r_impl_nan : AExit → Env → Option (Nat) := retK C_impl_nan 0 o_impl_nan (fun y => y.1.1) Try.f58.results.toList
theorem e_impl_nan : Sound Try.prog gl 58 g_impl_nan :=
  sound_plain (C := C_impl_nan) ⟨fun _ _ h => h, by kernel_rfl⟩ (sgOf_all' ⟨.inl ⟨by kernel_rfl, e_math_NaN⟩, trivial⟩) 58 Try.f58 g_impl_nan (fun y => y.1.1) (by kernel_rfl) (by kernel_rfl) (by kernel_rfl) (by kernel_rfl) (by kernel_rfl) (by kernel_rfl) (fun _ => rfl) (fun x => by kernel_rfl)
-- loop.example/g00051/impl.Between
noncomputable def i_impl_Between : Shape := ⟨[(0, .agg [.int .i64, .flt]), (1, .agg [.int .i64, .flt]), (2, .c (.int .i64))], []⟩
noncomputable def o_impl_Between : Shape := ⟨[(0, .c (.flt))], []⟩
noncomputable def impl_Between (a0 : Int) (a1 : Nat) (a2 : Int) (a3 : Nat) (a4 : Int) : Option (Nat) :=
  bif a4 == a0 then some a1 else bif a4 == a2 then some a3 else (impl_Between_1 a0).bind fun val => bif !val then impl_nan.bind fun val => some val else (impl_Between_1 a2).bind fun val => bif !val then impl_nan.bind fun val => some val else (impl_Between_1 a4).bind fun val => bif !val then impl_nan.bind fun val => some val else (impl_Between_1 (IntKind.i64.wrap (a0 - a2))).bind fun val => bif !val then impl_nan.bind fun val => some val else bif decide (a4 ≤ if a2 < a0 then a2 else a0) then impl_nan.bind fun val => some val else bif decide (a4 ≥ if a2 > a0 then a2 else a0) then impl_nan.bind fun val => some val else some (fadd a1 (fmul (fsub a3 a1) (fdiv (fofi (IntKind.i64.wrap (a0 - a4))) (fofi (IntKind.i64.wrap (a0 - a2))))))
noncomputable def g_impl_Between : Sg := ⟨i_impl_Between, o_impl_Between, Nat, fun y => ((y, ()), ()), fun x => impl_Between x.1.1.1 x.1.1.2.1 x.1.2.1.1 x.1.2.1.2.1 x.1.2.2.1⟩
noncomputable def C_impl_Between : Ctx := ⟨90, tiOf Try.prog, gl, sgOf [(86, g_impl_Between_1), (58, g_impl_nan)], []⟩
noncomputable def r_impl_Between : AExit → Env → Option (Nat) := retK C_impl_Between 0 o_impl_Between (fun y => y.1.1) Try.f50.results.toList
theorem e_impl_Between : Sound Try.prog gl 50 g_impl_Between :=
  sound_plain (C := C_impl_Between) ⟨fun _ _ h => h, by kernel_rfl⟩ (sgOf_all' ⟨.inl ⟨by kernel_rfl, e_impl_Between_1⟩, .inl ⟨by kernel_rfl, e_impl_nan⟩, trivial⟩) 50 Try.f50 g_impl_Between (fun y => y.1.1) (by kernel_rfl) (by kernel_rfl) (by kernel_rfl) (by kernel_rfl) (by kernel_rfl) (by kernel_rfl) (fun _ => rfl) (fun x => by kernel_rfl)
-- math.Abs
noncomputable def i_math_Abs : Shape := ⟨[(0, .c (.flt))], []⟩
noncomputable def o_math_Abs : Shape := ⟨[(0, .c (.flt))], []⟩
noncomputable def math_Abs (a0 : Nat) : Option (Nat) :=
  (dFb a0).bind fun val => (dFf (IntKind.u64.wrap (↑(BitVec.ofInt IntKind.u64.bits val &&& ~~~BitVec.ofInt IntKind.u64.bits 9223372036854775808).toNat : Int))).bind fun val => some val
noncomputable def g_math_Abs : Sg := ⟨i_math_Abs, o_math_Abs, Nat, fun y => ((y, ()), ()), fun x => math_Abs x.1.1⟩
noncomputable def C_math_Abs : Ctx := ⟨7, tiOf Try.prog, gl, sgOf [(85, gFb), (84, gFf)], []⟩
noncomputable def r_math_Abs : AExit → Env → Option (Nat) := retK C_math_Abs 0 o_math_Abs (fun y => y.1.1) Try.f49.results.toList
theorem e_math_Abs : Sound Try.prog gl 49 g_math_Abs :=
  sound_plain (C := C_math_Abs) ⟨fun _ _ h => h, by kernel_rfl⟩ (sgOf_all' ⟨.inr xFb, .inr xFf, trivial⟩) 49 Try.f49 g_math_Abs (fun y => y.1.1) (by kernel_rfl) (by kernel_rfl) (by kernel_rfl) (by kernel_rfl) (by kernel_rfl) (by kernel_rfl) (fun _ => rfl) (fun x => by kernel_rfl)
-- loop.example/g00051/impl.Signif$1
noncomputable def i_impl_Signif_1 : Shape := ⟨[(0, .c (.int .i64)), (1, .c (.int .i64)), (2, .c (.ptr 0 0)), (3, .c (.ptr 1 0)), (4, .c (.ptr 2 0)), (5, .c (.ptr 3 0))], [.box 27 [.sl (.pair (.int .i64) .flt)], .box 23 [.flt], .box 25 [.ref 4], .box 71 [.fn 48 [0, 1, 2, 3]], .lst 2 (.int .i64)]⟩
noncomputable def o_impl_Signif_1 : Shape := ⟨[(0, .tup [])], [.box 27 [.sl (.pair (.int .i64) .flt)], .box 23 [.flt], .box 25 [.ref 5], .box 71 [.fn 48 [0, 1, 2, 3]], .dead, .lst 2 (.int .i64)]⟩
noncomputable def s_impl_Signif_1_2 : Shape := ⟨[(0, .c (.int .i64)), (1, .c (.int .i64)), (2, .c (.ptr 0 0)), (3, .c (.ptr 1 0)), (4, .c (.ptr 2 0)), (5, .c (.ptr 3 0)), (8, .c (.flt)), (9, .c (.int .i64)), (10, .c (.int .i64))], [.box 27 [.sl (.pair (.int .i64) .flt)], .box 23 [.flt], .box 25 [.ref 4], .box 71 [.fn 48 [0, 1, 2, 3]], .lst 2 (.int .i64)]⟩
noncomputable def impl_Signif_1_L2 (rc : Int → Int → (List (Int × Nat)) → Nat → (List Int) → Option ((List (Int × Nat)) × Nat × (List Int))) : Nat → Int → Int → Nat → Int → Int → (List (Int × Nat)) → Nat → (List Int) → Option ((List (Int × Nat)) × Nat × (List Int))
  | 0, _, _, _, _, _, _, _, _ => none
  | k + 1, a0, a1, a2, a3, a4, a5, a6, a7 =>
  bif decide (a4 < a1) then bif decide (0 ≤ a4) then bif decide (a4 < (↑a5.length : Int)) then bif decide (0 ≤ a0) then bif decide (a0 < (↑a5.length : Int)) then bif decide (0 ≤ a1) then bif decide (a1 < (↑a5.length : Int)) then bif decide (0 ≤ a4) then bif decide (a4 < (↑a5.length : Int)) then (impl_Between (rd K2_0 a5 a0).fst (rd K2_0 a5 a0).snd (rd K2_0 a5 a1).fst (rd K2_0 a5 a1).snd (rd K2_0 a5 a4).fst).bind fun val => (math_Abs (fsub (rd K2_0 a5 a4).snd val)).bind fun val => bif fgt val a6 then bif decide (a3 < 0) then impl_Signif_1_L2 rc k a0 a1 val a4 (IntKind.i64.wrap (a4 + 1)) a5 a6 a7 else bif fgt val a2 then impl_Signif_1_L2 rc k a0 a1 val a4 (IntKind.i64.wrap (a4 + 1)) a5 a6 a7 else impl_Signif_1_L2 rc k a0 a1 a2 a3 (IntKind.i64.wrap (a4 + 1)) a5 a6 a7 else impl_Signif_1_L2 rc k a0 a1 a2 a3 (IntKind.i64.wrap (a4 + 1)) a5 a6 a7 else none else none else none else none else none else none else none else none else bif decide (a3 ≥ 0) then bif decide (a7.length + [a3].length ≤ maxBytes / 8) then (rc a0 a3 a5 a6 (a7 ++ [a3])).bind fun val => (rc a3 a1 val.fst val.snd.fst val.snd.snd).bind fun val => some (val.fst, val.snd.fst, val.snd.snd) else none else some (a5, a6, a7)
noncomputable def j_impl_Signif_1 (rc : Int → Int → (List (Int × Nat)) → Nat → (List Int) → Option ((List (Int × Nat)) × Nat × (List Int))) : List (Nat × (Nat → Cut ((List (Int × Nat)) × Nat × (List Int)))) := [(2, fun k => ⟨s_impl_Signif_1_2, fun x => impl_Signif_1_L2 rc k x.1.1 x.1.2.1 x.1.2.2.2.2.2.2.1 x.1.2.2.2.2.2.2.2.1 x.1.2.2.2.2.2.2.2.2.1 x.2.1.1 x.2.2.1.1 x.2.2.2.2.2.1⟩)]
noncomputable def impl_Signif_1_F (rc : Int → Int → (List (Int × Nat)) → Nat → (List Int) → Option ((List (Int × Nat)) × Nat × (List Int))) (k : Nat) (a0 : Int) (a1 : Int) (a2 : List (Int × Nat)) (a3 : Nat) (a4 : List Int) : Option ((List (Int × Nat)) × Nat × (List Int)) :=
  impl_Signif_1_L2 rc k a0 a1 0 (-1) (IntKind.i64.wrap (a0 + 1)) a2 a3 a4
noncomputable def impl_Signif_1_R : Nat → Int → Int → (List (Int × Nat)) → Nat → (List Int) → Option ((List (Int × Nat)) × Nat × (List Int))
  | 0, _, _, _, _, _ => none
  | m + 1, a0, a1, a2, a3, a4 => evF fun k => impl_Signif_1_F (impl_Signif_1_R m) k a0 a1 a2 a3 a4
noncomputable def impl_Signif_1 (a0 : Int) (a1 : Int) (a2 : List (Int × Nat)) (a3 : Nat) (a4 : List Int) : Option ((List (Int × Nat)) × Nat × (List Int)) := evF fun m => impl_Signif_1_R m a0 a1 a2 a3 a4
noncomputable def gR_impl_Signif_1 (rc : Int → Int → (List (Int × Nat)) → Nat → (List Int) → Option ((List (Int × Nat)) × Nat × (List Int))) : Sg := ⟨i_impl_Signif_1, o_impl_Signif_1, (List (Int × Nat)) × Nat × (List Int), fun y => (((), ()), ((y.1, ()), (y.2.1, ()), ((), ()), ((), ()), (), y.2.2, ())), fun x => rc x.1.1 x.1.2.1 x.2.1.1 x.2.2.1.1 x.2.2.2.2.2.1⟩
noncomputable def g_impl_Signif_1 : Sg := ⟨i_impl_Signif_1, o_impl_Signif_1, (List (Int × Nat)) × Nat × (List Int), fun y => (((), ()), ((y.1, ()), (y.2.1, ()), ((), ()), ((), ()), (), y.2.2, ())), fun x => impl_Signif_1 x.1.1 x.1.2.1 x.2.1.1 x.2.2.1.1 x.2.2.2.2.2.1⟩
noncomputable def C_impl_Signif_1 (rc : Int → Int → (List (Int × Nat)) → Nat → (List Int) → Option ((List (Int × Nat)) × Nat × (List Int))) : Ctx := ⟨68, tiOf Try.prog, gl, sgOf [(50, g_impl_Between), (49, g_math_Abs), (48, (gR_impl_Signif_1 rc))], []⟩
noncomputable def r_impl_Signif_1 (rc : Int → Int → (List (Int × Nat)) → Nat → (List Int) → Option ((List (Int × Nat)) × Nat × (List Int))) : AExit → Env → Option ((List (Int × Nat)) × Nat × (List Int)) := retK (C_impl_Signif_1 rc) 5 o_impl_Signif_1 (fun y => (y.2.1.1, y.2.2.1.1, y.2.2.2.2.2.2.1)) Try.f48.results.toList
theorem eR_impl_Signif_1 : ∀ m, Sound Try.prog gl 48 (gR_impl_Signif_1 (impl_Signif_1_R m))
  | 0 => fun _ _ _ _ _ _ _ h => nomatch h
  | m + 1 => sound_cuts (C := (C_impl_Signif_1 (impl_Signif_1_R m))) ⟨fun _ _ h => h, by kernel_rfl⟩ (sgOf_all' ⟨.inl ⟨by kernel_rfl, e_impl_Between⟩, .inl ⟨by kernel_rfl, e_math_Abs⟩, .inl ⟨by kernel_rfl, eR_impl_Signif_1 m⟩, trivial⟩) 48 Try.f48 (gR_impl_Signif_1 (impl_Signif_1_R (m + 1))) (fun y => (y.2.1.1, y.2.2.1.1, y.2.2.2.2.2.2.1)) (j_impl_Signif_1 (impl_Signif_1_R m)) 1 (by kernel_rfl) (by kernel_rfl) (by kernel_rfl) (by kernel_rfl) (by kernel_rfl) (by kernel_rfl) (fun _ => rfl) (by kernel_rfl) (by kernel_rfl)
    ⟨trivial, s_impl_Signif_1_2, fun k x => impl_Signif_1_L2 (impl_Signif_1_R m) k x.1.1 x.1.2.1 x.1.2.2.2.2.2.2.1 x.1.2.2.2.2.2.2.2.1 x.1.2.2.2.2.2.2.2.2.1 x.2.1.1 x.2.2.1.1 x.2.2.2.2.2.1, ⟨fun k => by kernel_rfl, fun k y => by kernel_rfl, fun y => by kernel_rfl⟩⟩
    (fun k x => impl_Signif_1_F (impl_Signif_1_R m) k x.1.1 x.1.2.1 x.2.1.1 x.2.2.1.1 x.2.2.2.2.2.1) (fun x => rfl) (fun k x => by kernel_rfl)
theorem e_impl_Signif_1 : Sound Try.prog gl 48 g_impl_Signif_1 := fun w S vals x y hI hr h => let ⟨m, hm⟩ := evF_some h; eR_impl_Signif_1 m w S vals x y hI hr hm
-- loop.example/g00051/spec.l2In
noncomputable def i_spec_l2In : Shape := ⟨[(0, .c (.int .i64)), (1, .c (.int .i64)), (2, .c (.int .i64))], []⟩
noncomputable def o_spec_l2In : Shape := ⟨[(0, .c (.bool))], []⟩
noncomputable def spec_l2In (a0 : Int) (a1 : Int) (a2 : Int) : Option (Bool) :=
  bif decide (a0 ≥ a1) then some (decide (a0 ≤ a2)) else some false
noncomputable def g_spec_l2In : Sg := ⟨i_spec_l2In, o_spec_l2In, Bool, fun y => ((y, ()), ()), fun x => spec_l2In x.1.1 x.1.2.1 x.1.2.2.1⟩
noncomputable def C_spec_l2In : Ctx := ⟨15, tiOf Try.prog, gl, sgOf [], []⟩
noncomputable def r_spec_l2In : AExit → Env → Option (Bool) := retK C_spec_l2In 0 o_spec_l2In (fun y => y.1.1) Try.f79.results.toList
theorem e_spec_l2In : Sound Try.prog gl 79 g_spec_l2In :=
  sound_plain (C := C_spec_l2In) ⟨fun _ _ h => h, by kernel_rfl⟩ (sgOf_all' trivial) 79 Try.f79 g_spec_l2In (fun y => y.1.1) (by kernel_rfl) (by kernel_rfl) (by kernel_rfl) (by kernel_rfl) (by kernel_rfl) (by kernel_rfl) (fun _ => rfl) (fun x => by kernel_rfl)
-- loop.example/g00051/spec.Known
noncomputable def i_spec_Known : Shape := ⟨[(0, .c (.flt))], []⟩
noncomputable def o_spec_Known : Shape := ⟨[(0, .c (.bool))], []⟩
noncomputable def spec_Known (a0 : Nat) : Option (Bool) :=
  some (feq (fsub a0 a0) 0)
noncomputable def g_spec_Known : Sg := ⟨i_spec_Known, o_spec_Known, Bool, fun y => ((y, ()), ()), fun x => spec_Known x.1.1⟩
noncomputable def C_spec_Known : Ctx := ⟨9, tiOf Try.prog, gl, sgOf [], []⟩
noncomputable def r_spec_Known : AExit → Env → Option (Bool) := retK C_spec_Known 0 o_spec_Known (fun y => y.1.1) Try.f43.results.toList
theorem e_spec_Known : Sound Try.prog gl 43 g_spec_Known :=
  sound_plain (C := C_spec_Known) ⟨fun _ _ h => h, by kernel_rfl⟩ (sgOf_all' trivial) 43 Try.f43 g_spec_Known (fun y => y.1.1) (by kernel_rfl) (by kernel_rfl) (by kernel_rfl) (by kernel_rfl) (by kernel_rfl) (by kernel_rfl) (fun _ => rfl) (fun x => by kernel_rfl)
-- loop.example/g00051/spec.AscentOk
noncomputable def i_spec_AscentOk : Shape := ⟨[(0, .c (.sl (.pair (.int .i64) .flt)))], []⟩
noncomputable def o_spec_AscentOk : Shape := ⟨[(0, .c (.bool))], []⟩
noncomputable def s_spec_AscentOk_4 : Shape := ⟨[(0, .c (.sl (.pair (.int .i64) .flt))), (3, .c (.int .i64))], []⟩
noncomputable def spec_AscentOk_L4 : Nat → (List (Int × Nat)) → Int → Option (Bool)
  | 0, _, _ => none
  | k + 1, a0, a1 =>
  bif decide (a1 < (↑a0.length : Int)) then bif decide (0 ≤ a1) then bif decide (a1 < (↑a0.length : Int)) then (spec_l2In (rd K2_0 a0 a1).fst 1 12000).bind fun val => bif !val then some false else bif decide (a1 > 0) then bif decide (0 ≤ IntKind.i64.wrap (a1 - 1)) then bif decide (IntKind.i64.wrap (a1 - 1) < (↑a0.length : Int)) then bif decide ((rd K2_0 a0 a1).fst ≥ (rd K2_0 a0 (IntKind.i64.wrap (a1 - 1))).fst) then some false else (spec_Known (rd K2_0 a0 a1).snd).bind fun val => bif !val then some false else bif flt (rd K2_0 a0 a1).snd 13864612927836782592 then some false else bif fgt (rd K2_0 a0 a1).snd 4641240890982006784 then some false else spec_AscentOk_L4 k a0 (IntKind.i64.wrap (a1 + 1)) else none else none else (spec_Known (rd K2_0 a0 a1).snd).bind fun val => bif !val then some false else bif flt (rd K2_0 a0 a1).snd 13864612927836782592 then some false else bif fgt (rd K2_0 a0 a1).snd 4641240890982006784 then some false else spec_AscentOk_L4 k a0 (IntKind.i64.wrap (a1 + 1)) else none else none else some true
noncomputable def j_spec_AscentOk : List (Nat × (Nat → Cut (Bool))) := [(4, fun k => ⟨s_spec_AscentOk_4, fun x => spec_AscentOk_L4 k x.1.1 x.1.2.1⟩)]
noncomputable def spec_AscentOk_F (k : Nat) (a0 : List (Int × Nat)) : Option (Bool) :=
  bif decide ((↑a0.length : Int) < 2) then some false else bif decide ((↑a0.length : Int) > 400) then some false else spec_AscentOk_L4 k a0 0
noncomputable def spec_AscentOk (a0 : List (Int × Nat)) : Option (Bool) := evF fun k => spec_AscentOk_F k a0
noncomputable def g_spec_AscentOk : Sg := ⟨i_spec_AscentOk, o_spec_AscentOk, Bool, fun y => ((y, ()), ()), fun x => spec_AscentOk x.1.1⟩
noncomputable def C_spec_AscentOk : Ctx := ⟨58, tiOf Try.prog, gl, sgOf [(79, g_spec_l2In), (43, g_spec_Known)], []⟩
noncomputable def r_spec_AscentOk : AExit → Env → Option (Bool) := retK C_spec_AscentOk 0 o_spec_AscentOk (fun y => y.1.1) Try.f42.results.toList
theorem e_spec_AscentOk : Sound Try.prog gl 42 g_spec_AscentOk :=
  sound_cuts (C := C_spec_AscentOk) ⟨fun _ _ h => h, by kernel_rfl⟩ (sgOf_all' ⟨.inl ⟨by kernel_rfl, e_spec_l2In⟩, .inl ⟨by kernel_rfl, e_spec_Known⟩, trivial⟩) 42 Try.f42 g_spec_AscentOk (fun y => y.1.1) j_spec_AscentOk 1 (by kernel_rfl) (by kernel_rfl) (by kernel_rfl) (by kernel_rfl) (by kernel_rfl) (by kernel_rfl) (fun _ => rfl) (by kernel_rfl) (by kernel_rfl)
    ⟨trivial, s_spec_AscentOk_4, fun k x => spec_AscentOk_L4 k x.1.1 x.1.2.1, ⟨fun k => by kernel_rfl, fun k y => by kernel_rfl, fun y => by kernel_rfl⟩⟩
    (fun k x => spec_AscentOk_F k x.1.1) (fun x => rfl) (fun k x => by kernel_rfl)
-- loop.example/g00051/spec.l1None
noncomputable def i_spec_l1None : Shape := ⟨[], []⟩
noncomputable def o_spec_l1None : Shape := ⟨[(0, .c (.flt))], []⟩
noncomputable def spec_l1None : Option (Nat) :=
  some (fdiv 0 0)
noncomputable def g_spec_l1None : Sg := ⟨i_spec_l1None, o_spec_l1None, Nat, fun y => ((y, ()), ()), fun x => spec_l1None ⟩
noncomputable def C_spec_l1None : Ctx := ⟨5, tiOf Try.prog, gl, sgOf [], []⟩
noncomputable def r_spec_l1None : AExit → Env → Option (Nat) := retK C_spec_l1None 0 o_spec_l1None (fun y => y.1.1) Try.f77.results.toList
theorem e_spec_l1None : Sound Try.prog gl 77 g_spec_l1None :=
  sound_plain (C := C_spec_l1None) ⟨fun _ _ h => h, by kernel_rfl⟩ (sgOf_all' trivial) 77 Try.f77 g_spec_l1None (fun y => y.1.1) (by kernel_rfl) (by kernel_rfl) (by kernel_rfl) (by kernel_rfl) (by kernel_rfl) (by kernel_rfl) (fun _ => rfl) (fun x => by kernel_rfl)
-- loop.example/g00051/spec.Between
noncomputable def i_spec_Between : Shape := ⟨[(0, .agg [.int .i64, .flt]), (1, .agg [.int .i64, .flt]), (2, .c (.int .i64))], []⟩
noncomputable def o_spec_Between : Shape := ⟨[(0, .c (.flt))], []⟩
noncomputable def spec_Between (a0 : Int) (a1 : Nat) (a2 : Int) (a3 : Nat) (a4 : Int) : Option (Nat) :=
  bif a4 == a0 then some a1 else bif a4 == a2 then some a3 else (spec_l2In a0 (-12000) 12000).bind fun val => bif !val then spec_l1None.bind fun val => some val else (spec_l2In a2 (-12000) 12000).bind fun val => bif !val then spec_l1None.bind fun val => some val else (spec_l2In a4 (-12000) 12000).bind fun val => bif !val then spec_l1None.bind fun val => some val else (spec_l2In (IntKind.i64.wrap (a0 - a2)) (-12000) 12000).bind fun val => bif !val then spec_l1None.bind fun val => some val else bif !decide (a0 < a4) == decide (a4 < a2) then spec_l1None.bind fun val => some val else some (fadd a1 (fmul (fsub a3 a1) (fdiv (fofi (IntKind.i64.wrap (a0 - a4))) (fofi (IntKind.i64.wrap (a0 - a2))))))
noncomputable def g_spec_Between : Sg := ⟨i_spec_Between, o_spec_Between, Nat, fun y => ((y, ()), ()), fun x => spec_Between x.1.1.1 x.1.1.2.1 x.1.2.1.1 x.1.2.1.2.1 x.1.2.2.1⟩
noncomputable def C_spec_Between : Ctx := ⟨81, tiOf Try.prog, gl, sgOf [(79, g_spec_l2In), (77, g_spec_l1None)], []⟩
noncomputable def r_spec_Between : AExit → Env → Option (Nat) := retK C_spec_Between 0 o_spec_Between (fun y => y.1.1) Try.f112.results.toList
theorem e_spec_Between : Sound Try.prog gl 112 g_spec_Between :=
  sound_plain (C := C_spec_Between) ⟨fun _ _ h => h, by kernel_rfl⟩ (sgOf_all' ⟨.inl ⟨by kernel_rfl, e_spec_l2In⟩, .inl ⟨by kernel_rfl, e_spec_l1None⟩, trivial⟩) 112 Try.f112 g_spec_Between (fun y => y.1.1) (by kernel_rfl) (by kernel_rfl) (by kernel_rfl) (by kernel_rfl) (by kernel_rfl) (by kernel_rfl) (fun _ => rfl) (fun x => by kernel_rfl)
-- loop.example/g00051/spec.l6Off
noncomputable def i_spec_l6Off : Shape := ⟨[(0, .c (.sl (.pair (.int .i64) .flt))), (1, .c (.int .i64)), (2, .c (.int .i64)), (3, .c (.int .i64))], []⟩
noncomputable def o_spec_l6Off : Shape := ⟨[(0, .c (.flt))], []⟩
noncomputable def spec_l6Off (a0 : List (Int × Nat)) (a1 : Int) (a2 : Int) (a3 : Int) : Option (Nat) :=
  bif decide (0 ≤ a3) then bif decide (a3 < (↑a0.length : Int)) then bif decide (0 ≤ a1) then bif decide (a1 < (↑a0.length : Int)) then bif decide (0 ≤ a2) then bif decide (a2 < (↑a0.length : Int)) then bif decide (0 ≤ a3) then bif decide (a3 < (↑a0.length : Int)) then (spec_Between (rd K2_0 a0 a1).fst (rd K2_0 a0 a1).snd (rd K2_0 a0 a2).fst (rd K2_0 a0 a2).snd (rd K2_0 a0 a3).fst).bind fun val => bif flt (fsub (rd K2_0 a0 a3).snd val) 0 then some (fneg (fsub (rd K2_0 a0 a3).snd val)) else some (fsub (rd K2_0 a0 a3).snd val) else none else none else none else none else none else none else none else none
noncomputable def g_spec_l6Off : Sg := ⟨i_spec_l6Off, o_spec_l6Off, Nat, fun y => ((y, ()), ()), fun x => spec_l6Off x.1.1 x.1.2.1 x.1.2.2.1 x.1.2.2.2.1⟩
noncomputable def C_spec_l6Off : Ctx := ⟨35, tiOf Try.prog, gl, sgOf [(112, g_spec_Between)], []⟩
noncomputable def r_spec_l6Off : AExit → Env → Option (Nat) := retK C_spec_l6Off 0 o_spec_l6Off (fun y => y.1.1) Try.f80.results.toList
theorem e_spec_l6Off : Sound Try.prog gl 80 g_spec_l6Off :=
  sound_plain (C := C_spec_l6Off) ⟨fun _ _ h => h, by kernel_rfl⟩ (sgOf_all' ⟨.inl ⟨by kernel_rfl, e_spec_Between⟩, trivial⟩) 80 Try.f80 g_spec_l6Off (fun y => y.1.1) (by kernel_rfl) (by kernel_rfl) (by kernel_rfl) (by kernel_rfl) (by kernel_rfl) (by kernel_rfl) (fun _ => rfl) (fun x => by kernel_rfl)
-- loop.example/g00051/spec.l6Split
noncomputable def i_spec_l6Split : Shape := ⟨[(0, .c (.sl (.pair (.int .i64) .flt))), (1, .c (.int .i64)), (2, .c (.int .i64)), (3, .c (.flt))], []⟩
noncomputable def o_spec_l6Split : Shape := ⟨[(0, .c (.ref 0))], [.lst 2 (.int .i64)]⟩
noncomputable def s_spec_l6Split_4 : Shape := ⟨[(0, .c (.sl (.pair (.int .i64) .flt))), (1, .c (.int .i64)), (2, .c (.int .i64)), (3, .c (.flt)), (9, .c (.int .i64)), (10, .c (.flt)), (11, .c (.int .i64))], []⟩
noncomputable def spec_l6Split_L4 (rc : (List (Int × Nat)) → Int → Int → Nat → Option ((List Int))) : Nat → (List (Int × Nat)) → Int → Int → Nat → Int → Nat → Int → Option ((List Int))
  | 0, _, _, _, _, _, _, _ => none
  | k + 1, a0, a1, a2, a3, a4, a5, a6 =>
  bif decide (a6 < a2) then (spec_l6Off a0 a1 a2 a6).bind fun val => bif fgt val a5 then spec_l6Split_L4 rc k a0 a1 a2 a3 a6 val (IntKind.i64.wrap (a6 + 1)) else spec_l6Split_L4 rc k a0 a1 a2 a3 a4 a5 (IntKind.i64.wrap (a6 + 1)) else bif decide (a4 < 0) then some [] else (rc a0 a1 a4 a3).bind fun val => bif decide (List.length val + [a4].length ≤ maxBytes / 8) then (rc a0 a4 a2 a3).bind fun val_1 => bif decide ((val ++ [a4]).length + List.length val_1 ≤ maxBytes / 8) then some (val ++ [a4] ++ val_1) else none else none
noncomputable def j_spec_l6Split (rc : (List (Int × Nat)) → Int → Int → Nat → Option ((List Int))) : List (Nat × (Nat → Cut ((List Int)))) := [(4, fun k => ⟨s_spec_l6Split_4, fun x => spec_l6Split_L4 rc k x.1.1 x.1.2.1 x.1.2.2.1 x.1.2.2.2.1 x.1.2.2.2.2.1 x.1.2.2.2.2.2.1 x.1.2.2.2.2.2.2.1⟩)]
noncomputable def spec_l6Split_F (rc : (List (Int × Nat)) → Int → Int → Nat → Option ((List Int))) (k : Nat) (a0 : List (Int × Nat)) (a1 : Int) (a2 : Int) (a3 : Nat) : Option ((List Int)) :=
  spec_l6Split_L4 rc k a0 a1 a2 a3 (-1) a3 (IntKind.i64.wrap (a1 + 1))
noncomputable def spec_l6Split_R : Nat → (List (Int × Nat)) → Int → Int → Nat → Option ((List Int))
  | 0, _, _, _, _ => none
  | m + 1, a0, a1, a2, a3 => evF fun k => spec_l6Split_F (spec_l6Split_R m) k a0 a1 a2 a3
noncomputable def spec_l6Split (a0 : List (Int × Nat)) (a1 : Int) (a2 : Int) (a3 : Nat) : Option ((List Int)) := evF fun m => spec_l6Split_R m a0 a1 a2 a3
noncomputable def gR_spec_l6Split (rc : (List (Int × Nat)) → Int → Int → Nat → Option ((List Int))) : Sg := ⟨i_spec_l6Split, o_spec_l6Split, (List Int), fun y => (((), ()), (y, ())), fun x => rc x.1.1 x.1.2.1 x.1.2.2.1 x.1.2.2.2.1⟩
noncomputable def g_spec_l6Split : Sg := ⟨i_spec_l6Split, o_spec_l6Split, (List Int), fun y => (((), ()), (y, ())), fun x => spec_l6Split x.1.1 x.1.2.1 x.1.2.2.1 x.1.2.2.2.1⟩
noncomputable def C_spec_l6Split (rc : (List (Int × Nat)) → Int → Int → Nat → Option ((List Int))) : Ctx := ⟨50, tiOf Try.prog, gl, sgOf [(80, g_spec_l6Off), (44, (gR_spec_l6Split rc))], []⟩
noncomputable def r_spec_l6Split (rc : (List (Int × Nat)) → Int → Int → Nat → Option ((List Int))) : AExit → Env → Option ((List Int)) := retK (C_spec_l6Split rc) 0 o_spec_l6Split (fun y => y.2.1) Try.f44.results.toList
theorem eR_spec_l6Split : ∀ m, Sound Try.prog gl 44 (gR_spec_l6Split (spec_l6Split_R m))
  | 0 => fun _ _ _ _ _ _ _ h => nomatch h
  | m + 1 => sound_cuts (C := (C_spec_l6Split (spec_l6Split_R m))) ⟨fun _ _ h => h, by kernel_rfl⟩ (sgOf_all' ⟨.inl ⟨by kernel_rfl, e_spec_l6Off⟩, .inl ⟨by kernel_rfl, eR_spec_l6Split m⟩, trivial⟩) 44 Try.f44 (gR_spec_l6Split (spec_l6Split_R (m + 1))) (fun y => y.2.1) (j_spec_l6Split (spec_l6Split_R m)) 1 (by kernel_rfl) (by kernel_rfl) (by kernel_rfl) (by kernel_rfl) (by kernel_rfl) (by kernel_rfl) (fun _ => rfl) (by kernel_rfl) (by kernel_rfl)
    ⟨trivial, s_spec_l6Split_4, fun k x => spec_l6Split_L4 (spec_l6Split_R m) k x.1.1 x.1.2.1 x.1.2.2.1 x.1.2.2.2.1 x.1.2.2.2.2.1 x.1.2.2.2.2.2.1 x.1.2.2.2.2.2.2.1, ⟨fun k => by kernel_rfl, fun k y => by kernel_rfl, fun y => by kernel_rfl⟩⟩
    (fun k x => spec_l6Split_F (spec_l6Split_R m) k x.1.1 x.1.2.1 x.1.2.2.1 x.1.2.2.2.1) (fun x => rfl) (fun k x => by kernel_rfl)
theorem e_spec_l6Split : Sound Try.prog gl 44 g_spec_l6Split := fun w S vals x y hI hr h => let ⟨m, hm⟩ := evF_some h; eR_spec_l6Split m w S vals x y hI hr hm
-- loop.example/g00051/spec.Signif
noncomputable def i_spec_Signif : Shape := ⟨[(0, .c (.sl (.pair (.int .i64) .flt))), (1, .c (.flt))], []⟩
noncomputable def o_spec_Signif : Shape := ⟨[(0, .c (.ref 0))], [.lst 2 (.int .i64)]⟩
noncomputable def spec_Signif (a0 : List (Int × Nat)) (a1 : Nat) : Option ((List Int)) :=
  (spec_AscentOk a0).bind fun val => bif !val then some [] else (spec_Known a1).bind fun val => bif !val then some [] else bif flt a1 0 then some [] else (spec_l6Split a0 0 (IntKind.i64.wrap ((↑a0.length : Int) - 1)) a1).bind fun val => bif decide (([] ++ [0]).length + List.length val ≤ maxBytes / 8) then bif decide (([] ++ [0] ++ val).length + [IntKind.i64.wrap ((↑a0.length : Int) - 1)].length ≤ maxBytes / 8) then some ([] ++ [0] ++ val ++ [IntKind.i64.wrap ((↑a0.length : Int) - 1)]) else none else none
noncomputable def g_spec_Signif : Sg := ⟨i_spec_Signif, o_spec_Signif, (List Int), fun y => (((), ()), (y, ())), fun x => spec_Signif x.1.1 x.1.2.1⟩
noncomputable def C_spec_Signif : Ctx := ⟨37, tiOf Try.prog, gl, sgOf [(42, g_spec_AscentOk), (43, g_spec_Known), (44, g_spec_l6Split)], []⟩
noncomputable def r_spec_Signif : AExit → Env → Option ((List Int)) := retK C_spec_Signif 0 o_spec_Signif (fun y => y.2.1) Try.f11.results.toList
theorem e_spec_Signif : Sound Try.prog gl 11 g_spec_Signif :=
  sound_plain (C := C_spec_Signif) ⟨fun _ _ h => h, by kernel_rfl⟩ (sgOf_all' ⟨.inl ⟨by kernel_rfl, e_spec_AscentOk⟩, .inl ⟨by kernel_rfl, e_spec_Known⟩, .inl ⟨by kernel_rfl, e_spec_l6Split⟩, trivial⟩) 11 Try.f11 g_spec_Signif (fun y => y.2.1) (by kernel_rfl) (by kernel_rfl) (by kernel_rfl) (by kernel_rfl) (by kernel_rfl) (by kernel_rfl) (fun _ => rfl) (fun x => by kernel_rfl)
-- loop.example/g00051/impl.missing
noncomputable def i_impl_missing : Shape := ⟨[(0, .c (.flt))], []⟩
noncomputable def o_impl_missing : Shape := ⟨[(0, .c (.bool))], []⟩
noncomputable def impl_missing (a0 : Nat) : Option (Bool) :=
  some !feq a0 a0
noncomputable def g_impl_missing : Sg := ⟨i_impl_missing, o_impl_missing, Bool, fun y => ((y, ()), ()), fun x => impl_missing x.1.1⟩
noncomputable def C_impl_missing : Ctx := ⟨6, tiOf Try.prog, gl, sgOf [], []⟩
noncomputable def r_impl_missing : AExit → Env → Option (Bool) := retK C_impl_missing 0 o_impl_missing (fun y => y.1.1) Try.f82.results.toList
theorem e_impl_missing : Sound Try.prog gl 82 g_impl_missing :=
  sound_plain (C := C_impl_missing) ⟨fun _ _ h => h, by kernel_rfl⟩ (sgOf_all' trivial) 82 Try.f82 g_impl_missing (fun y => y.1.1) (by kernel_rfl) (by kernel_rfl) (by kernel_rfl) (by kernel_rfl) (by kernel_rfl) (by kernel_rfl) (fun _ => rfl) (fun x => by kernel_rfl)
-- math.IsInf
noncomputable def i_math_IsInf : Shape := ⟨[(0, .c (.flt)), (1, .c (.int .i64))], []⟩
noncomputable def o_math_IsInf : Shape := ⟨[(0, .c (.bool))], []⟩
noncomputable def math_IsInf (a0 : Nat) (a1 : Int) : Option (Bool) :=
  bif a1 == 0 then (math_Abs a0).bind fun val => some (fgt val 9218868437227405311) else bif decide (a1 < 0) then some (fgt (fneg a0) 9218868437227405311) else some (fgt a0 9218868437227405311)
noncomputable def g_math_IsInf : Sg := ⟨i_math_IsInf, o_math_IsInf, Bool, fun y => ((y, ()), ()), fun x => math_IsInf x.1.1 x.1.2.1⟩
noncomputable def C_math_IsInf : Ctx := ⟨15, tiOf Try.prog, gl, sgOf [(49, g_math_Abs)], []⟩
noncomputable def r_math_IsInf : AExit → Env → Option (Bool) := retK C_math_IsInf 0 o_math_IsInf (fun y => y.1.1) Try.f83.results.toList
theorem e_math_IsInf : Sound Try.prog gl 83 g_math_IsInf :=
  sound_plain (C := C_math_IsInf) ⟨fun _ _ h => h, by kernel_rfl⟩ (sgOf_all' ⟨.inl ⟨by kernel_rfl, e_math_Abs⟩, trivial⟩) 83 Try.f83 g_math_IsInf (fun y => y.1.1) (by kernel_rfl) (by kernel_rfl) (by kernel_rfl) (by kernel_rfl) (by kernel_rfl) (by kernel_rfl) (fun _ => rfl) (fun x => by kernel_rfl)
-- loop.example/g00051/impl.Known
noncomputable def i_impl_Known : Shape := ⟨[(0, .c (.flt))], []⟩
noncomputable def o_impl_Known : Shape := ⟨[(0, .c (.bool))], []⟩
noncomputable def impl_Known (a0 : Nat) : Option (Bool) :=
  (impl_missing a0).bind fun val => bif !val then (math_IsInf a0 0).bind fun val => some !val else some false
noncomputable def g_impl_Known : Sg := ⟨i_impl_Known, o_impl_Known, Bool, fun y => ((y, ()), ()), fun x => impl_Known x.1.1⟩
noncomputable def C_impl_Known : Ctx := ⟨11, tiOf Try.prog, gl, sgOf [(82, g_impl_missing), (83, g_math_IsInf)], []⟩
noncomputable def r_impl_Known : AExit → Env → Option (Bool) := retK C_impl_Known 0 o_impl_Known (fun y => y.1.1) Try.f47.results.toList
theorem e_impl_Known : Sound Try.prog gl 47 g_impl_Known :=
  sound_plain (C := C_impl_Known) ⟨fun _ _ h => h, by kernel_rfl⟩ (sgOf_all' ⟨.inl ⟨by kernel_rfl, e_impl_missing⟩, .inl ⟨by kernel_rfl, e_math_IsInf⟩, trivial⟩) 47 Try.f47 g_impl_Known (fun y => y.1.1) (by kernel_rfl) (by kernel_rfl) (by kernel_rfl) (by kernel_rfl) (by kernel_rfl) (by kernel_rfl) (fun _ => rfl) (fun x => by kernel_rfl)
-- loop.example/g00051/impl.AscentOk
noncomputable def i_impl_AscentOk : Shape := ⟨[(0, .c (.sl (.pair (.int .i64) .flt)))], []⟩
noncomputable def o_impl_AscentOk : Shape := ⟨[(0, .c (.bool))], []⟩
noncomputable def s_impl_AscentOk_4 : Shape := ⟨[(0, .c (.sl (.pair (.int .i64) .flt))), (9, .c (.sl (.pair (.int .i64) .flt))), (10, .c (.int .i64)), (11, .c (.int .i64))], []⟩
noncomputable def impl_AscentOk_L4 : Nat → (List (Int × Nat)) → (List (Int × Nat)) → Int → Int → Option (Bool)
  | 0, _, _, _, _ => none
  | k + 1, a0, a1, a2, a3 =>
  bif decide (a3 < a2) then bif decide (0 ≤ a3) then bif decide (a3 < (↑a1.length : Int)) then (impl_in (rd K2_0 a1 a3).fst 1 12000).bind fun val => bif !val then some false else bif decide (a3 > 0) then bif decide (0 ≤ IntKind.i64.wrap (a3 - 1)) then bif decide (IntKind.i64.wrap (a3 - 1) < (↑a0.length : Int)) then bif decide ((rd K2_0 a1 a3).fst ≥ (rd K2_0 a0 (IntKind.i64.wrap (a3 - 1))).fst) then some false else (impl_Known (rd K2_0 a1 a3).snd).bind fun val => bif !val then some false else bif flt (rd K2_0 a1 a3).snd 13864612927836782592 then some false else bif fgt (rd K2_0 a1 a3).snd 4641240890982006784 then some false else impl_AscentOk_L4 k a0 a1 a2 (IntKind.i64.wrap (a3 + 1)) else none else none else (impl_Known (rd K2_0 a1 a3).snd).bind fun val => bif !val then some false else bif flt (rd K2_0 a1 a3).snd 13864612927836782592 then some false else bif fgt (rd K2_0 a1 a3).snd 4641240890982006784 then some false else impl_AscentOk_L4 k a0 a1 a2 (IntKind.i64.wrap (a3 + 1)) else none else none else some true
noncomputable def j_impl_AscentOk : List (Nat × (Nat → Cut (Bool))) := [(4, fun k => ⟨s_impl_AscentOk_4, fun x => impl_AscentOk_L4 k x.1.1 x.1.2.1 x.1.2.2.1 x.1.2.2.2.1⟩)]
noncomputable def impl_AscentOk_F (k : Nat) (a0 : List (Int × Nat)) : Option (Bool) :=
  (impl_in (↑a0.length : Int) 2 400).bind fun val => bif !val then some false else impl_AscentOk_L4 k a0 a0 (↑a0.length : Int) 0
noncomputable def impl_AscentOk (a0 : List (Int × Nat)) : Option (Bool) := evF fun k => impl_AscentOk_F k a0
noncomputable def g_impl_AscentOk : Sg := ⟨i_impl_AscentOk, o_impl_AscentOk, Bool, fun y => ((y, ()), ()), fun x => impl_AscentOk x.1.1⟩
noncomputable def C_impl_AscentOk : Ctx := ⟨52, tiOf Try.prog, gl, sgOf [(81, g_impl_in), (47, g_impl_Known)], []⟩
noncomputable def r_impl_AscentOk : AExit → Env → Option (Bool) := retK C_impl_AscentOk 0 o_impl_AscentOk (fun y => y.1.1) Try.f46.results.toList
theorem e_impl_AscentOk : Sound Try.prog gl 46 g_impl_AscentOk :=
  sound_cuts (C := C_impl_AscentOk) ⟨fun _ _ h => h, by kernel_rfl⟩ (sgOf_all' ⟨.inl ⟨by kernel_rfl, e_impl_in⟩, .inl ⟨by kernel_rfl, e_impl_Known⟩, trivial⟩) 46 Try.f46 g_impl_AscentOk (fun y => y.1.1) j_impl_AscentOk 1 (by kernel_rfl) (by kernel_rfl) (by kernel_rfl) (by kernel_rfl) (by kernel_rfl) (by kernel_rfl) (fun _ => rfl) (by kernel_rfl) (by kernel_rfl)
    ⟨trivial, s_impl_AscentOk_4, fun k x => impl_AscentOk_L4 k x.1.1 x.1.2.1 x.1.2.2.1 x.1.2.2.2.1, ⟨fun k => by kernel_rfl, fun k y => by kernel_rfl, fun y => by kernel_rfl⟩⟩
    (fun k x => impl_AscentOk_F k x.1.1) (fun x => rfl) (fun k x => by kernel_rfl)
-- loop.example/g00051/impl.Rebuild
noncomputable def i_impl_Rebuild : Shape := ⟨[(0, .c (.sl (.pair (.int .i64) .flt))), (1, .c (.int .i64))], []⟩
noncomputable def o_impl_Rebuild : Shape := ⟨[(0, .c (.flt))], []⟩
noncomputable def s_impl_Rebuild_4 : Shape := ⟨[(0, .c (.sl (.pair (.int .i64) .flt))), (1, .c (.int .i64)), (5, .c (.int .i64))], []⟩
noncomputable def impl_Rebuild_L4 : Nat → (List (Int × Nat)) → Int → Int → Option (Nat)
  | 0, _, _, _ => none
  | k + 1, a0, a1, a2 =>
  bif decide (IntKind.i64.wrap (a2 + 1) < (↑a0.length : Int)) then bif decide (0 ≤ a2) then bif decide (a2 < (↑a0.length : Int)) then bif decide (a1 ≤ (rd K2_0 a0 a2).fst) then bif decide (0 ≤ IntKind.i64.wrap (a2 + 1)) then bif decide (IntKind.i64.wrap (a2 + 1) < (↑a0.length : Int)) then bif decide (a1 ≥ (rd K2_0 a0 (IntKind.i64.wrap (a2 + 1))).fst) then bif decide (0 ≤ a2) then bif decide (a2 < (↑a0.length : Int)) then bif decide (0 ≤ IntKind.i64.wrap (a2 + 1)) then bif decide (IntKind.i64.wrap (a2 + 1) < (↑a0.length : Int)) then (impl_Between (rd K2_0 a0 a2).fst (rd K2_0 a0 a2).snd (rd K2_0 a0 (IntKind.i64.wrap (a2 + 1))).fst (rd K2_0 a0 (IntKind.i64.wrap (a2 + 1))).snd a1).bind fun val => some val else none else none else none else none else impl_Rebuild_L4 k a0 a1 (IntKind.i64.wrap (a2 + 1)) else none else none else impl_Rebuild_L4 k a0 a1 (IntKind.i64.wrap (a2 + 1)) else none else none else impl_nan.bind fun val => some val
noncomputable def j_impl_Rebuild : List (Nat × (Nat → Cut (Nat))) := [(4, fun k => ⟨s_impl_Rebuild_4, fun x => impl_Rebuild_L4 k x.1.1 x.1.2.1 x.1.2.2.1⟩)]
noncomputable def impl_Rebuild_F (k : Nat) (a0 : List (Int × Nat)) (a1 : Int) : Option (Nat) :=
  (impl_AscentOk a0).bind fun val => bif !val then impl_nan.bind fun val => some val else impl_Rebuild_L4 k a0 a1 0
noncomputable def impl_Rebuild (a0 : List (Int × Nat)) (a1 : Int) : Option (Nat) := evF fun k => impl_Rebuild_F k a0 a1
noncomputable def g_impl_Rebuild : Sg := ⟨i_impl_Rebuild, o_impl_Rebuild, Nat, fun y => ((y, ()), ()), fun x => impl_Rebuild x.1.1 x.1.2.1⟩
noncomputable def C_impl_Rebuild : Ctx := ⟨46, tiOf Try.prog, gl, sgOf [(46, g_impl_AscentOk), (58, g_impl_nan), (50, g_impl_Between)], []⟩
noncomputable def r_impl_Rebuild : AExit → Env → Option (Nat) := retK C_impl_Rebuild 0 o_impl_Rebuild (fun y => y.1.1) Try.f22.results.toList
theorem e_impl_Rebuild : Sound Try.prog gl 22 g_impl_Rebuild :=
  sound_cuts (C := C_impl_Rebuild) ⟨fun _ _ h => h, by kernel_rfl⟩ (sgOf_all' ⟨.inl ⟨by kernel_rfl, e_impl_AscentOk⟩, .inl ⟨by kernel_rfl, e_impl_nan⟩, .inl ⟨by kernel_rfl, e_impl_Between⟩, trivial⟩) 22 Try.f22 g_impl_Rebuild (fun y => y.1.1) j_impl_Rebuild 1 (by kernel_rfl) (by kernel_rfl) (by kernel_rfl) (by kernel_rfl) (by kernel_rfl) (by kernel_rfl) (fun _ => rfl) (by kernel_rfl) (by kernel_rfl)
    ⟨trivial, s_impl_Rebuild_4, fun k x => impl_Rebuild_L4 k x.1.1 x.1.2.1 x.1.2.2.1, ⟨fun k => by kernel_rfl, fun k y => by kernel_rfl, fun y => by kernel_rfl⟩⟩
    (fun k x => impl_Rebuild_F k x.1.1 x.1.2.1) (fun x => rfl) (fun k x => by kernel_rfl)
end Go.Proofs.Ytgkejafaggaocaa.SJ
