/-
  Part of a proof by the engine: texts that a program of ours printed, or plain lemmas on them. No condition but what each theorem says.
-/
import Derived.Test.YtgkejafaggaocaaEng5
import Derived.Test.YtgkejafaggaocaaProg
import Derived.KernelRfl
import Derived.Test.YtgkejafaggaocaaDoorsF
set_option linter.unusedVariables false
set_option linter.unusedSimpArgs false
set_option maxRecDepth 100000
namespace Go.Proofs.Ytgkejafaggaocaa.PO
open Go Go.Eng Go.Proofs
open Go.Proofs.Ytgkejafaggaocaa.EX
noncomputable def gl : Nat → Option (List Cell) := glOf []
abbrev K4_0 : Kind := (.pair (.int .i64) (.pair (.int .i64) (.pair (.int .i64) (.int .i64))))
-- loop.example/g00051/impl.in
noncomputable def i_impl_in : Shape := ⟨[(0, .c (.int .i64)), (1, .c (.int .i64)), (2, .c (.int .i64))], []⟩
noncomputable def o_impl_in : Shape := ⟨[(0, .c (.bool))], []⟩
noncomputable def impl_in (a0 : Int) (a1 : Int) (a2 : Int) : Option (Bool) :=
  bif decide (a0 ≥ a1) then some (decide (a0 ≤ a2)) else some false
noncomputable def g_impl_in : Sg := ⟨i_impl_in, o_impl_in, Bool, fun y => ((y, ()), ()), fun x => impl_in x.1.1 x.1.2.1 x.1.2.2.1⟩
noncomputable def C_impl_in : Ctx := ⟨15, tiOf Try.prog, gl, sgOf [], []⟩
noncomputable def r_impl_in : AExit → Env → Option (Bool) := retK C_impl_in 0 o_impl_in (fun y => y.1.1) Try.f81.results.toList
theorem e_impl_in : Sound Try.prog gl 81 g_impl_in :=
  sound_plain (C := C_impl_in) ⟨fun _ _ h => h, by kernel_rfl⟩ (sgOf_all' trivial) 81 Try.f81 g_impl_in (fun y => y.1.1) (by kernel_rfl) (by kernel_rfl) (by kernel_rfl) (by kernel_rfl) (by kernel_rfl) (by kernel_rfl) (fun _ => rfl) (fun x => by kernel_rfl)
-- loop.example/g00051/impl.tableOk
noncomputable def i_impl_tableOk : Shape := ⟨[(0, .c (.sl (.pair (.int .i64) (.pair (.int .i64) (.pair (.int .i64) (.int .i64))))))], []⟩
noncomputable def o_impl_tableOk : Shape := ⟨[(0, .c (.bool))], []⟩
noncomputable def s_impl_tableOk_4 : Shape := ⟨[(0, .c (.sl (.pair (.int .i64) (.pair (.int .i64) (.pair (.int .i64) (.int .i64)))))), (8, .c (.sl (.pair (.int .i64) (.pair (.int .i64) (.pair (.int .i64) (.int .i64)))))), (9, .c (.int .i64)), (10, .c (.int .i64))], []⟩
noncomputable def impl_tableOk_L4 : Nat → (List (Int × Int × Int × Int)) → (List (Int × Int × Int × Int)) → Int → Int → Option (Bool)
  | 0, _, _, _, _ => none
  | k + 1, a0, a1, a2, a3 =>
  bif decide (a3 < a2) then
   bif decide (0 ≤ a3) then
    bif decide (a3 < (↑a1.length : Int)) then
     (impl_in (rd K4_0 a1 a3).fst 1 99999).bind fun val =>
      bif !val then some false
      else
       bif decide (a3 > 0) then bif decide (0 ≤ IntKind.i64.wrap (a3 - 1)) then bif decide (IntKind.i64.wrap (a3 - 1) < (↑a0.length : Int)) then bif decide ((rd K4_0 a0 (IntKind.i64.wrap (a3 - 1))).fst ≥ (rd K4_0 a1 a3).fst) then some false else (impl_in (rd K4_0 a1 a3).snd.fst 1 32).bind fun val => bif !val then some false else (impl_in (rd K4_0 a1 a3).snd.snd.fst (-10) 10).bind fun val => bif !val then some false else (impl_in (rd K4_0 a1 a3).snd.snd.snd (-1000000000) 1000000000).bind fun val => bif !val then some false else impl_tableOk_L4 k a0 a1 a2 (IntKind.i64.wrap (a3 + 1)) else none else none
       else (impl_in (rd K4_0 a1 a3).snd.fst 1 32).bind fun val => bif !val then some false else (impl_in (rd K4_0 a1 a3).snd.snd.fst (-10) 10).bind fun val => bif !val then some false else (impl_in (rd K4_0 a1 a3).snd.snd.snd (-1000000000) 1000000000).bind fun val => bif !val then some false else impl_tableOk_L4 k a0 a1 a2 (IntKind.i64.wrap (a3 + 1))
    else none
   else none
  else some true
noncomputable def j_impl_tableOk : List (Nat × (Nat → Cut (Bool))) := [(4, fun k => ⟨s_impl_tableOk_4, fun x => impl_tableOk_L4 k x.1.1 x.1.2.1 x.1.2.2.1 x.1.2.2.2.1⟩)]
noncomputable def impl_tableOk_F (k : Nat) (a0 : List (Int × Int × Int × Int)) : Option (Bool) :=
  bif decide ((↑a0.length : Int) > 200) then some false else impl_tableOk_L4 k a0 a0 (↑a0.length : Int) 0
noncomputable def impl_tableOk (a0 : List (Int × Int × Int × Int)) : Option (Bool) := evF fun k => impl_tableOk_F k a0
noncomputable def g_impl_tableOk : Sg := ⟨i_impl_tableOk, o_impl_tableOk, Bool, fun y => ((y, ()), ()), fun x => impl_tableOk x.1.1⟩
noncomputable def C_impl_tableOk : Ctx := ⟨53, tiOf Try.prog, gl, sgOf [(81, g_impl_in)], []⟩
noncomputable def r_impl_tableOk : AExit → Env → Option (Bool) := retK C_impl_tableOk 0 o_impl_tableOk (fun y => y.1.1) Try.f97.results.toList
theorem e_impl_tableOk : Sound Try.prog gl 97 g_impl_tableOk :=
  sound_cuts (C := C_impl_tableOk) ⟨fun _ _ h => h, by kernel_rfl⟩ (sgOf_all' ⟨.inl ⟨by kernel_rfl, e_impl_in⟩, trivial⟩) 97 Try.f97 g_impl_tableOk (fun y => y.1.1) j_impl_tableOk 1 (by kernel_rfl) (by kernel_rfl) (by kernel_rfl) (by kernel_rfl) (by kernel_rfl) (by kernel_rfl) (fun _ => rfl) (by kernel_rfl) (by kernel_rfl)
    ⟨trivial, s_impl_tableOk_4, fun k x => impl_tableOk_L4 k x.1.1 x.1.2.1 x.1.2.2.1 x.1.2.2.2.1, ⟨fun k => by kernel_rfl, fun k y => by kernel_rfl, fun y => by kernel_rfl⟩⟩
    (fun k x => impl_tableOk_F k x.1.1) (fun x => rfl) (fun k x => by kernel_rfl)
-- loop.example/g00051/impl.repeats
noncomputable def i_impl_repeats : Shape := ⟨[(0, .c (.int .i64))], []⟩
noncomputable def o_impl_repeats : Shape := ⟨[(0, .tup [(false, [.int .i64]), (false, [.int .i64])])], []⟩
noncomputable def impl_repeats (a0 : Int) : Option (Int × Int) :=
  (impl_in a0 101000 199999).bind fun val => bif !val then some (0, 0) else some (IntKind.i64.wrap ((IntKind.i64.wrap (a0 - 100000)).tdiv 1000), a0.tmod 1000)
noncomputable def g_impl_repeats : Sg := ⟨i_impl_repeats, o_impl_repeats, Int × Int, fun y => ((((y.1, ()), (y.2, ()), ()), ()), ()), fun x => impl_repeats x.1.1⟩
noncomputable def C_impl_repeats : Ctx := ⟨12, tiOf Try.prog, gl, sgOf [(81, g_impl_in)], []⟩
noncomputable def r_impl_repeats : AExit → Env → Option (Int × Int) := retK C_impl_repeats 0 o_impl_repeats (fun y => (y.1.1.1.1, y.1.1.2.1.1)) Try.f101.results.toList
theorem e_impl_repeats : Sound Try.prog gl 101 g_impl_repeats :=
  sound_plain (C := C_impl_repeats) ⟨fun _ _ h => h, by kernel_rfl⟩ (sgOf_all' ⟨.inl ⟨by kernel_rfl, e_impl_in⟩, trivial⟩) 101 Try.f101 g_impl_repeats (fun y => (y.1.1.1.1, y.1.1.2.1.1)) (by kernel_rfl) (by kernel_rfl) (by kernel_rfl) (by kernel_rfl) (by kernel_rfl) (by kernel_rfl) (fun _ => rfl) (fun x => by kernel_rfl)
-- loop.example/g00051/impl.elemOf
noncomputable def i_impl_elemOf : Shape := ⟨[(0, .c (.sl (.pair (.int .i64) (.pair (.int .i64) (.pair (.int .i64) (.int .i64)))))), (1, .c (.int .i64))], []⟩
noncomputable def o_impl_elemOf : Shape := ⟨[(0, .tup [(true, [.int .i64, .int .i64, .int .i64, .int .i64]), (false, [.bool])])], []⟩
noncomputable def s_impl_elemOf_2 : Shape := ⟨[(1, .c (.int .i64)), (4, .c (.ptr 0 0)), (8, .c (.sl (.pair (.int .i64) (.pair (.int .i64) (.pair (.int .i64) (.int .i64)))))), (9, .c (.int .i64)), (10, .c (.int .i64))], [.box 89 [.int .i64, .int .i64, .int .i64, .int .i64]]⟩
noncomputable def impl_elemOf_L2 : Nat → Int → (List (Int × Int × Int × Int)) → Int → Int → Int → Int → Int → Int → Option (Int × Int × Int × Int × Bool)
  | 0, _, _, _, _, _, _, _, _ => none
  | k + 1, a0, a1, a2, a3, a4, a5, a6, a7 =>
  bif decide (a3 < a2) then bif decide (0 ≤ a3) then bif decide (a3 < (↑a1.length : Int)) then bif (rd K4_0 a1 a3).fst == a0 then some ((rd K4_0 a1 a3).fst, (rd K4_0 a1 a3).snd.fst, (rd K4_0 a1 a3).snd.snd.fst, (rd K4_0 a1 a3).snd.snd.snd, true) else impl_elemOf_L2 k a0 a1 a2 (IntKind.i64.wrap (a3 + 1)) a4 a5 a6 a7 else none else none else some (0, 0, 0, 0, false)
noncomputable def j_impl_elemOf : List (Nat × (Nat → Cut (Int × Int × Int × Int × Bool))) := [(2, fun k => ⟨s_impl_elemOf_2, fun x => impl_elemOf_L2 k x.1.1 x.1.2.2.1 x.1.2.2.2.1 x.1.2.2.2.2.1 x.2.1.1 x.2.1.2.1 x.2.1.2.2.1 x.2.1.2.2.2.1⟩)]
noncomputable def impl_elemOf_F (k : Nat) (a0 : List (Int × Int × Int × Int)) (a1 : Int) : Option (Int × Int × Int × Int × Bool) :=
  impl_elemOf_L2 k a1 a0 (↑a0.length : Int) 0 0 0 0 0
noncomputable def impl_elemOf (a0 : List (Int × Int × Int × Int)) (a1 : Int) : Option (Int × Int × Int × Int × Bool) := evF fun k => impl_elemOf_F k a0 a1
noncomputable def g_impl_elemOf : Sg := ⟨i_impl_elemOf, o_impl_elemOf, Int × Int × Int × Int × Bool, fun y => ((((y.1, y.2.1, y.2.2.1, y.2.2.2.1, ()), (y.2.2.2.2, ()), ()), ()), ()), fun x => impl_elemOf x.1.1 x.1.2.1⟩
noncomputable def C_impl_elemOf : Ctx := ⟨21, tiOf Try.prog, gl, sgOf [], []⟩
noncomputable def r_impl_elemOf : AExit → Env → Option (Int × Int × Int × Int × Bool) := retK C_impl_elemOf 0 o_impl_elemOf (fun y => (y.1.1.1.1, y.1.1.1.2.1, y.1.1.1.2.2.1, y.1.1.1.2.2.2.1, y.1.1.2.1.1)) Try.f102.results.toList
theorem e_impl_elemOf : Sound Try.prog gl 102 g_impl_elemOf :=
  sound_cuts (C := C_impl_elemOf) ⟨fun _ _ h => h, by kernel_rfl⟩ (sgOf_all' trivial) 102 Try.f102 g_impl_elemOf (fun y => (y.1.1.1.1, y.1.1.1.2.1, y.1.1.1.2.2.1, y.1.1.1.2.2.2.1, y.1.1.2.1.1)) j_impl_elemOf 1 (by kernel_rfl) (by kernel_rfl) (by kernel_rfl) (by kernel_rfl) (by kernel_rfl) (by kernel_rfl) (fun _ => rfl) (by kernel_rfl) (by kernel_rfl)
    ⟨trivial, s_impl_elemOf_2, fun k x => impl_elemOf_L2 k x.1.1 x.1.2.2.1 x.1.2.2.2.1 x.1.2.2.2.2.1 x.2.1.1 x.2.1.2.1 x.2.1.2.2.1 x.2.1.2.2.2.1, ⟨fun k => by kernel_rfl, fun k y => by kernel_rfl, fun y => by kernel_rfl⟩⟩
    (fun k x => impl_elemOf_F k x.1.1 x.1.2.1) (fun x => rfl) (fun k x => by kernel_rfl)
-- loop.example/g00051/impl.planOk
noncomputable def i_impl_planOk : Shape := ⟨[(0, .c (.sl (.pair (.int .i64) (.pair (.int .i64) (.pair (.int .i64) (.int .i64)))))), (1, .c (.sl (.int .i64)))], []⟩
noncomputable def o_impl_planOk : Shape := ⟨[(0, .c (.bool))], []⟩
noncomputable def s_impl_planOk_2 : Shape := ⟨[(0, .c (.sl (.pair (.int .i64) (.pair (.int .i64) (.pair (.int .i64) (.int .i64)))))), (1, .c (.sl (.int .i64))), (5, .c (.int .i64))], []⟩
noncomputable def impl_planOk_L2 (rc : (List (Int × Int × Int × Int)) → (List Int) → Option (Bool)) : Nat → (List (Int × Int × Int × Int)) → (List Int) → Int → Option (Bool)
  | 0, _, _, _ => none
  | k + 1, a0, a1, a2 =>
  bif decide (a2 < (↑a1.length : Int)) then
   bif decide (0 ≤ a2) then bif decide (a2 < (↑a1.length : Int)) then (impl_repeats (rd (Kind.int IntKind.i64) a1 a2)).bind fun val => bif decide (val.fst > 0) then bif decide (val.snd > 255) then some false else bif decide (IntKind.i64.wrap (IntKind.i64.wrap (a2 + 1) + val.fst) > (↑a1.length : Int)) then some false else bif decide (0 ≤ IntKind.i64.wrap (IntKind.i64.wrap (a2 + 1) + val.fst)) && decide (IntKind.i64.wrap (IntKind.i64.wrap (a2 + 1) + val.fst) ≤ (↑a1.length : Int)) then bif decide (0 ≤ IntKind.i64.wrap (a2 + 1)) && decide (IntKind.i64.wrap (a2 + 1) ≤ IntKind.i64.wrap (IntKind.i64.wrap (a2 + 1) + val.fst)) then (rc a0 (List.drop (IntKind.i64.wrap (a2 + 1)).toNat (List.take (IntKind.i64.wrap (IntKind.i64.wrap (a2 + 1) + val.fst)).toNat a1))).bind fun val_1 => bif !val_1 then some false else impl_planOk_L2 rc k a0 a1 (IntKind.i64.wrap (IntKind.i64.wrap (a2 + val.fst) + 1)) else none else none else (impl_in (rd (Kind.int IntKind.i64) a1 a2) 201000 201255).bind fun val => bif val then impl_planOk_L2 rc k a0 a1 (IntKind.i64.wrap (a2 + 1)) else (impl_in (rd (Kind.int IntKind.i64) a1 a2) 202000 202255).bind fun val => bif val then impl_planOk_L2 rc k a0 a1 (IntKind.i64.wrap (a2 + 1)) else (impl_elemOf a0 (rd (Kind.int IntKind.i64) a1 a2)).bind fun val => bif !val.snd.snd.snd.snd then some false else (impl_in (rd (Kind.int IntKind.i64) a1 a2) 1 99999).bind fun val => bif !val then some false else impl_planOk_L2 rc k a0 a1 (IntKind.i64.wrap (a2 + 1)) else none else none
  else some true
noncomputable def j_impl_planOk (rc : (List (Int × Int × Int × Int)) → (List Int) → Option (Bool)) : List (Nat × (Nat → Cut (Bool))) := [(2, fun k => ⟨s_impl_planOk_2, fun x => impl_planOk_L2 rc k x.1.1 x.1.2.1 x.1.2.2.1⟩)]
noncomputable def impl_planOk_F (rc : (List (Int × Int × Int × Int)) → (List Int) → Option (Bool)) (k : Nat) (a0 : List (Int × Int × Int × Int)) (a1 : List Int) : Option (Bool) :=
  impl_planOk_L2 rc k a0 a1 0
noncomputable def impl_planOk_R : Nat → (List (Int × Int × Int × Int)) → (List Int) → Option (Bool)
  | 0, _, _ => none
  | m + 1, a0, a1 => evF fun k => impl_planOk_F (impl_planOk_R m) k a0 a1
noncomputable def impl_planOk (a0 : List (Int × Int × Int × Int)) (a1 : List Int) : Option (Bool) := evF fun m => impl_planOk_R m a0 a1
noncomputable def gR_impl_planOk (rc : (List (Int × Int × Int × Int)) → (List Int) → Option (Bool)) : Sg := ⟨i_impl_planOk, o_impl_planOk, Bool, fun y => ((y, ()), ()), fun x => rc x.1.1 x.1.2.1⟩
noncomputable def g_impl_planOk : Sg := ⟨i_impl_planOk, o_impl_planOk, Bool, fun y => ((y, ()), ()), fun x => impl_planOk x.1.1 x.1.2.1⟩
noncomputable def C_impl_planOk (rc : (List (Int × Int × Int × Int)) → (List Int) → Option (Bool)) : Ctx := ⟨74, tiOf Try.prog, gl, sgOf [(101, g_impl_repeats), (98, (gR_impl_planOk rc)), (81, g_impl_in), (102, g_impl_elemOf)], []⟩
noncomputable def r_impl_planOk (rc : (List (Int × Int × Int × Int)) → (List Int) → Option (Bool)) : AExit → Env → Option (Bool) := retK (C_impl_planOk rc) 0 o_impl_planOk (fun y => y.1.1) Try.f98.results.toList
theorem eR_impl_planOk : ∀ m, Sound Try.prog gl 98 (gR_impl_planOk (impl_planOk_R m))
  | 0 => fun _ _ _ _ _ _ _ h => nomatch h
  | m + 1 => sound_cuts (C := (C_impl_planOk (impl_planOk_R m))) ⟨fun _ _ h => h, by kernel_rfl⟩ (sgOf_all' ⟨.inl ⟨by kernel_rfl, e_impl_repeats⟩, .inl ⟨by kernel_rfl, eR_impl_planOk m⟩, .inl ⟨by kernel_rfl, e_impl_in⟩, .inl ⟨by kernel_rfl, e_impl_elemOf⟩, trivial⟩) 98 Try.f98 (gR_impl_planOk (impl_planOk_R (m + 1))) (fun y => y.1.1) (j_impl_planOk (impl_planOk_R m)) 1 (by kernel_rfl) (by kernel_rfl) (by kernel_rfl) (by kernel_rfl) (by kernel_rfl) (by kernel_rfl) (fun _ => rfl) (by kernel_rfl) (by kernel_rfl)
    ⟨trivial, s_impl_planOk_2, fun k x => impl_planOk_L2 (impl_planOk_R m) k x.1.1 x.1.2.1 x.1.2.2.1, ⟨fun k => by kernel_rfl, fun k y => by kernel_rfl, fun y => by kernel_rfl⟩⟩
    (fun k x => impl_planOk_F (impl_planOk_R m) k x.1.1 x.1.2.1) (fun x => rfl) (fun k x => by kernel_rfl)
theorem e_impl_planOk : Sound Try.prog gl 98 g_impl_planOk := fun w S vals x y hI hr h => let ⟨m, hm⟩ := evF_some h; eR_impl_planOk m w S vals x y hI hr hm
-- loop.example/g00051/impl.PlanOk
noncomputable def i_impl_PlanOk : Shape := ⟨[(0, .c (.sl (.pair (.int .i64) (.pair (.int .i64) (.pair (.int .i64) (.int .i64)))))), (1, .c (.sl (.int .i64)))], []⟩
noncomputable def o_impl_PlanOk : Shape := ⟨[(0, .c (.bool))], []⟩
noncomputable def impl_PlanOk (a0 : List (Int × Int × Int × Int)) (a1 : List Int) : Option (Bool) :=
  (impl_tableOk a0).bind fun val => bif val then bif decide ((↑a1.length : Int) ≤ 100) then (impl_planOk a0 a1).bind fun val => some val else some false else some false
noncomputable def g_impl_PlanOk : Sg := ⟨i_impl_PlanOk, o_impl_PlanOk, Bool, fun y => ((y, ()), ()), fun x => impl_PlanOk x.1.1 x.1.2.1⟩
noncomputable def C_impl_PlanOk : Ctx := ⟨17, tiOf Try.prog, gl, sgOf [(97, g_impl_tableOk), (98, g_impl_planOk)], []⟩
noncomputable def r_impl_PlanOk : AExit → Env → Option (Bool) := retK C_impl_PlanOk 0 o_impl_PlanOk (fun y => y.1.1) Try.f64.results.toList
theorem e_impl_PlanOk : Sound Try.prog gl 64 g_impl_PlanOk :=
  sound_plain (C := C_impl_PlanOk) ⟨fun _ _ h => h, by kernel_rfl⟩ (sgOf_all' ⟨.inl ⟨by kernel_rfl, e_impl_tableOk⟩, .inl ⟨by kernel_rfl, e_impl_planOk⟩, trivial⟩) 64 Try.f64 g_impl_PlanOk (fun y => y.1.1) (by kernel_rfl) (by kernel_rfl) (by kernel_rfl) (by kernel_rfl) (by kernel_rfl) (by kernel_rfl) (fun _ => rfl) (fun x => by kernel_rfl)
-- loop.example/g00051/spec.l2In
noncomputable def i_spec_l2In : Shape := ⟨[(0, .c (.int .i64)), (1, .c (.int .i64)), (2, .c (.int .i64))], []⟩
noncomputable def o_spec_l2In : Shape := ⟨[(0, .c (.bool))], []⟩
noncomputable def spec_l2In (a0 : Int) (a1 : Int) (a2 : Int) : Option (Bool) :=
  bif decide (a0 ≥ a1) then some (decide (a0 ≤ a2)) else some false
noncomputable def g_spec_l2In : Sg := ⟨i_spec_l2In, o_spec_l2In, Bool, fun y => ((y, ()), ()), fun x => spec_l2In x.1.1 x.1.2.1 x.1.2.2.1⟩
noncomputable def C_spec_l2In : Ctx := ⟨15, tiOf Try.prog, gl, sgOf [], []⟩
noncomputable def r_spec_l2In : AExit → Env → Option (Bool) := retK C_spec_l2In 0 o_spec_l2In (fun y => y.1.1) Try.f79.results.toList
theorem e_spec_l2In : Sound Try.prog gl 79 g_spec_l2In :=
  sound_plain (C := C_spec_l2In) ⟨fun _ _ h => h, by kernel_rfl⟩ (sgOf_all' trivial) 79 Try.f79 g_spec_l2In (fun y => y.1.1) (by kernel_rfl) (by kernel_rfl) (by kernel_rfl) (by kernel_rfl) (by kernel_rfl) (by kernel_rfl) (fun _ => rfl) (fun x => by kernel_rfl)
-- loop.example/g00051/spec.l7TableOk
noncomputable def i_spec_l7TableOk : Shape := ⟨[(0, .c (.sl (.pair (.int .i64) (.pair (.int .i64) (.pair (.int .i64) (.int .i64))))))], []⟩
noncomputable def o_spec_l7TableOk : Shape := ⟨[(0, .c (.bool))], []⟩
noncomputable def s_spec_l7TableOk_4 : Shape := ⟨[(0, .c (.sl (.pair (.int .i64) (.pair (.int .i64) (.pair (.int .i64) (.int .i64)))))), (3, .c (.int .i64))], []⟩
noncomputable def spec_l7TableOk_L4 : Nat → (List (Int × Int × Int × Int)) → Int → Option (Bool)
  | 0, _, _ => none
  | k + 1, a0, a1 =>
  bif decide (a1 < (↑a0.length : Int)) then
   bif decide (0 ≤ a1) then
    bif decide (a1 < (↑a0.length : Int)) then
     (spec_l2In (rd K4_0 a0 a1).fst 1 99999).bind fun val =>
      bif !val then some false
      else
       bif decide (a1 > 0) then bif decide (0 ≤ IntKind.i64.wrap (a1 - 1)) then bif decide (IntKind.i64.wrap (a1 - 1) < (↑a0.length : Int)) then bif decide ((rd K4_0 a0 a1).fst ≤ (rd K4_0 a0 (IntKind.i64.wrap (a1 - 1))).fst) then some false else (spec_l2In (rd K4_0 a0 a1).snd.fst 1 32).bind fun val => bif !val then some false else (spec_l2In (rd K4_0 a0 a1).snd.snd.fst (-10) 10).bind fun val => bif !val then some false else (spec_l2In (rd K4_0 a0 a1).snd.snd.snd (-1000000000) 1000000000).bind fun val => bif !val then some false else spec_l7TableOk_L4 k a0 (IntKind.i64.wrap (a1 + 1)) else none else none
       else (spec_l2In (rd K4_0 a0 a1).snd.fst 1 32).bind fun val => bif !val then some false else (spec_l2In (rd K4_0 a0 a1).snd.snd.fst (-10) 10).bind fun val => bif !val then some false else (spec_l2In (rd K4_0 a0 a1).snd.snd.snd (-1000000000) 1000000000).bind fun val => bif !val then some false else spec_l7TableOk_L4 k a0 (IntKind.i64.wrap (a1 + 1))
    else none
   else none
  else some true
noncomputable def j_spec_l7TableOk : List (Nat × (Nat → Cut (Bool))) := [(4, fun k => ⟨s_spec_l7TableOk_4, fun x => spec_l7TableOk_L4 k x.1.1 x.1.2.1⟩)]
noncomputable def spec_l7TableOk_F (k : Nat) (a0 : List (Int × Int × Int × Int)) : Option (Bool) :=
  bif decide ((↑a0.length : Int) > 200) then some false else spec_l7TableOk_L4 k a0 0
noncomputable def spec_l7TableOk (a0 : List (Int × Int × Int × Int)) : Option (Bool) := evF fun k => spec_l7TableOk_F k a0
noncomputable def g_spec_l7TableOk : Sg := ⟨i_spec_l7TableOk, o_spec_l7TableOk, Bool, fun y => ((y, ()), ()), fun x => spec_l7TableOk x.1.1⟩
noncomputable def C_spec_l7TableOk : Ctx := ⟨55, tiOf Try.prog, gl, sgOf [(79, g_spec_l2In)], []⟩
noncomputable def r_spec_l7TableOk : AExit → Env → Option (Bool) := retK C_spec_l7TableOk 0 o_spec_l7TableOk (fun y => y.1.1) Try.f92.results.toList
theorem e_spec_l7TableOk : Sound Try.prog gl 92 g_spec_l7TableOk :=
  sound_cuts (C := C_spec_l7TableOk) ⟨fun _ _ h => h, by kernel_rfl⟩ (sgOf_all' ⟨.inl ⟨by kernel_rfl, e_spec_l2In⟩, trivial⟩) 92 Try.f92 g_spec_l7TableOk (fun y => y.1.1) j_spec_l7TableOk 1 (by kernel_rfl) (by kernel_rfl) (by kernel_rfl) (by kernel_rfl) (by kernel_rfl) (by kernel_rfl) (fun _ => rfl) (by kernel_rfl) (by kernel_rfl)
    ⟨trivial, s_spec_l7TableOk_4, fun k x => spec_l7TableOk_L4 k x.1.1 x.1.2.1, ⟨fun k => by kernel_rfl, fun k y => by kernel_rfl, fun y => by kernel_rfl⟩⟩
    (fun k x => spec_l7TableOk_F k x.1.1) (fun x => rfl) (fun k x => by kernel_rfl)
-- loop.example/g00051/spec.l7Elem
noncomputable def i_spec_l7Elem : Shape := ⟨[(0, .c (.sl (.pair (.int .i64) (.pair (.int .i64) (.pair (.int .i64) (.int .i64)))))), (1, .c (.int .i64))], []⟩
noncomputable def o_spec_l7Elem : Shape := ⟨[(0, .tup [(true, [.int .i64, .int .i64, .int .i64, .int .i64]), (false, [.bool])])], []⟩
noncomputable def s_spec_l7Elem_2 : Shape := ⟨[(0, .c (.sl (.pair (.int .i64) (.pair (.int .i64) (.pair (.int .i64) (.int .i64)))))), (1, .c (.int .i64)), (4, .c (.ptr 0 0)), (6, .c (.int .i64))], [.box 89 [.int .i64, .int .i64, .int .i64, .int .i64]]⟩
noncomputable def spec_l7Elem_L2 : Nat → (List (Int × Int × Int × Int)) → Int → Int → Int → Int → Int → Int → Option (Int × Int × Int × Int × Bool)
  | 0, _, _, _, _, _, _, _ => none
  | k + 1, a0, a1, a2, a3, a4, a5, a6 =>
  bif decide (a2 < (↑a0.length : Int)) then bif decide (0 ≤ a2) then bif decide (a2 < (↑a0.length : Int)) then bif (rd K4_0 a0 a2).fst == a1 then bif decide (0 ≤ a2) then bif decide (a2 < (↑a0.length : Int)) then some ((rd K4_0 a0 a2).fst, (rd K4_0 a0 a2).snd.fst, (rd K4_0 a0 a2).snd.snd.fst, (rd K4_0 a0 a2).snd.snd.snd, true) else none else none else spec_l7Elem_L2 k a0 a1 (IntKind.i64.wrap (a2 + 1)) a3 a4 a5 a6 else none else none else some (0, 0, 0, 0, false)
noncomputable def j_spec_l7Elem : List (Nat × (Nat → Cut (Int × Int × Int × Int × Bool))) := [(2, fun k => ⟨s_spec_l7Elem_2, fun x => spec_l7Elem_L2 k x.1.1 x.1.2.1 x.1.2.2.2.1 x.2.1.1 x.2.1.2.1 x.2.1.2.2.1 x.2.1.2.2.2.1⟩)]
noncomputable def spec_l7Elem_F (k : Nat) (a0 : List (Int × Int × Int × Int)) (a1 : Int) : Option (Int × Int × Int × Int × Bool) :=
  spec_l7Elem_L2 k a0 a1 0 0 0 0 0
noncomputable def spec_l7Elem (a0 : List (Int × Int × Int × Int)) (a1 : Int) : Option (Int × Int × Int × Int × Bool) := evF fun k => spec_l7Elem_F k a0 a1
noncomputable def g_spec_l7Elem : Sg := ⟨i_spec_l7Elem, o_spec_l7Elem, Int × Int × Int × Int × Bool, fun y => ((((y.1, y.2.1, y.2.2.1, y.2.2.2.1, ()), (y.2.2.2.2, ()), ()), ()), ()), fun x => spec_l7Elem x.1.1 x.1.2.1⟩
noncomputable def C_spec_l7Elem : Ctx := ⟨25, tiOf Try.prog, gl, sgOf [], []⟩
noncomputable def r_spec_l7Elem : AExit → Env → Option (Int × Int × Int × Int × Bool) := retK C_spec_l7Elem 0 o_spec_l7Elem (fun y => (y.1.1.1.1, y.1.1.1.2.1, y.1.1.1.2.2.1, y.1.1.1.2.2.2.1, y.1.1.2.1.1)) Try.f95.results.toList
theorem e_spec_l7Elem : Sound Try.prog gl 95 g_spec_l7Elem :=
  sound_cuts (C := C_spec_l7Elem) ⟨fun _ _ h => h, by kernel_rfl⟩ (sgOf_all' trivial) 95 Try.f95 g_spec_l7Elem (fun y => (y.1.1.1.1, y.1.1.1.2.1, y.1.1.1.2.2.1, y.1.1.1.2.2.2.1, y.1.1.2.1.1)) j_spec_l7Elem 1 (by kernel_rfl) (by kernel_rfl) (by kernel_rfl) (by kernel_rfl) (by kernel_rfl) (by kernel_rfl) (fun _ => rfl) (by kernel_rfl) (by kernel_rfl)
    ⟨trivial, s_spec_l7Elem_2, fun k x => spec_l7Elem_L2 k x.1.1 x.1.2.1 x.1.2.2.2.1 x.2.1.1 x.2.1.2.1 x.2.1.2.2.1 x.2.1.2.2.2.1, ⟨fun k => by kernel_rfl, fun k y => by kernel_rfl, fun y => by kernel_rfl⟩⟩
    (fun k x => spec_l7Elem_F k x.1.1 x.1.2.1) (fun x => rfl) (fun k x => by kernel_rfl)
-- loop.example/g00051/spec.l7Fits
noncomputable def i_spec_l7Fits : Shape := ⟨[(0, .c (.sl (.pair (.int .i64) (.pair (.int .i64) (.pair (.int .i64) (.int .i64)))))), (1, .c (.sl (.int .i64)))], []⟩
noncomputable def o_spec_l7Fits : Shape := ⟨[(0, .c (.bool))], []⟩
noncomputable def s_spec_l7Fits_2 : Shape := ⟨[(0, .c (.sl (.pair (.int .i64) (.pair (.int .i64) (.pair (.int .i64) (.int .i64)))))), (1, .c (.sl (.int .i64))), (5, .c (.int .i64))], []⟩
noncomputable def spec_l7Fits_L2 (rc : (List (Int × Int × Int × Int)) → (List Int) → Option (Bool)) : Nat → (List (Int × Int × Int × Int)) → (List Int) → Int → Option (Bool)
  | 0, _, _, _ => none
  | k + 1, a0, a1, a2 =>
  bif decide (a2 < (↑a1.length : Int)) then
   bif decide (0 ≤ a2) then
    bif decide (a2 < (↑a1.length : Int)) then
     bif decide (rd (Kind.int IntKind.i64) a1 a2 ≥ 1) then
      bif decide (rd (Kind.int IntKind.i64) a1 a2 < 100000) then (spec_l7Elem a0 (rd (Kind.int IntKind.i64) a1 a2)).bind fun val => bif !val.snd.snd.snd.snd then some false else spec_l7Fits_L2 rc k a0 a1 (IntKind.i64.wrap (a2 + 1))
      else
       bif decide (rd (Kind.int IntKind.i64) a1 a2 ≥ 101000) then
        bif decide (rd (Kind.int IntKind.i64) a1 a2 < 200000) then bif decide (Int.tmod (rd (Kind.int IntKind.i64) a1 a2) 1000 > 255) then some false else bif decide (IntKind.i64.wrap (a2 + IntKind.i64.wrap ((IntKind.i64.wrap (rd (Kind.int IntKind.i64) a1 a2 - 100000)).tdiv 1000)) ≥ (↑a1.length : Int)) then some false else bif decide (0 ≤ IntKind.i64.wrap (IntKind.i64.wrap (a2 + 1) + IntKind.i64.wrap ((IntKind.i64.wrap (rd (Kind.int IntKind.i64) a1 a2 - 100000)).tdiv 1000))) && decide (IntKind.i64.wrap (IntKind.i64.wrap (a2 + 1) + IntKind.i64.wrap ((IntKind.i64.wrap (rd (Kind.int IntKind.i64) a1 a2 - 100000)).tdiv 1000)) ≤ (↑a1.length : Int)) then bif decide (0 ≤ IntKind.i64.wrap (a2 + 1)) && decide (IntKind.i64.wrap (a2 + 1) ≤ IntKind.i64.wrap (IntKind.i64.wrap (a2 + 1) + IntKind.i64.wrap ((IntKind.i64.wrap (rd (Kind.int IntKind.i64) a1 a2 - 100000)).tdiv 1000))) then (rc a0 (List.drop (IntKind.i64.wrap (a2 + 1)).toNat (List.take (IntKind.i64.wrap (IntKind.i64.wrap (a2 + 1) + IntKind.i64.wrap ((IntKind.i64.wrap (rd (Kind.int IntKind.i64) a1 a2 - 100000)).tdiv 1000))).toNat a1))).bind fun val => bif !val then some false else spec_l7Fits_L2 rc k a0 a1 (IntKind.i64.wrap (IntKind.i64.wrap (a2 + IntKind.i64.wrap ((IntKind.i64.wrap (rd (Kind.int IntKind.i64) a1 a2 - 100000)).tdiv 1000)) + 1)) else none else none
        else bif decide (rd (Kind.int IntKind.i64) a1 a2 ≥ 201000) then bif decide (rd (Kind.int IntKind.i64) a1 a2 < 203000) then bif decide (Int.tmod (rd (Kind.int IntKind.i64) a1 a2) 1000 > 255) then some false else spec_l7Fits_L2 rc k a0 a1 (IntKind.i64.wrap (a2 + 1)) else some false else some false
       else bif decide (rd (Kind.int IntKind.i64) a1 a2 ≥ 201000) then bif decide (rd (Kind.int IntKind.i64) a1 a2 < 203000) then bif decide (Int.tmod (rd (Kind.int IntKind.i64) a1 a2) 1000 > 255) then some false else spec_l7Fits_L2 rc k a0 a1 (IntKind.i64.wrap (a2 + 1)) else some false else some false
     else
      bif decide (rd (Kind.int IntKind.i64) a1 a2 ≥ 101000) then
       bif decide (rd (Kind.int IntKind.i64) a1 a2 < 200000) then bif decide (Int.tmod (rd (Kind.int IntKind.i64) a1 a2) 1000 > 255) then some false else bif decide (IntKind.i64.wrap (a2 + IntKind.i64.wrap ((IntKind.i64.wrap (rd (Kind.int IntKind.i64) a1 a2 - 100000)).tdiv 1000)) ≥ (↑a1.length : Int)) then some false else bif decide (0 ≤ IntKind.i64.wrap (IntKind.i64.wrap (a2 + 1) + IntKind.i64.wrap ((IntKind.i64.wrap (rd (Kind.int IntKind.i64) a1 a2 - 100000)).tdiv 1000))) && decide (IntKind.i64.wrap (IntKind.i64.wrap (a2 + 1) + IntKind.i64.wrap ((IntKind.i64.wrap (rd (Kind.int IntKind.i64) a1 a2 - 100000)).tdiv 1000)) ≤ (↑a1.length : Int)) then bif decide (0 ≤ IntKind.i64.wrap (a2 + 1)) && decide (IntKind.i64.wrap (a2 + 1) ≤ IntKind.i64.wrap (IntKind.i64.wrap (a2 + 1) + IntKind.i64.wrap ((IntKind.i64.wrap (rd (Kind.int IntKind.i64) a1 a2 - 100000)).tdiv 1000))) then (rc a0 (List.drop (IntKind.i64.wrap (a2 + 1)).toNat (List.take (IntKind.i64.wrap (IntKind.i64.wrap (a2 + 1) + IntKind.i64.wrap ((IntKind.i64.wrap (rd (Kind.int IntKind.i64) a1 a2 - 100000)).tdiv 1000))).toNat a1))).bind fun val => bif !val then some false else spec_l7Fits_L2 rc k a0 a1 (IntKind.i64.wrap (IntKind.i64.wrap (a2 + IntKind.i64.wrap ((IntKind.i64.wrap (rd (Kind.int IntKind.i64) a1 a2 - 100000)).tdiv 1000)) + 1)) else none else none
       else bif decide (rd (Kind.int IntKind.i64) a1 a2 ≥ 201000) then bif decide (rd (Kind.int IntKind.i64) a1 a2 < 203000) then bif decide (Int.tmod (rd (Kind.int IntKind.i64) a1 a2) 1000 > 255) then some false else spec_l7Fits_L2 rc k a0 a1 (IntKind.i64.wrap (a2 + 1)) else some false else some false
      else bif decide (rd (Kind.int IntKind.i64) a1 a2 ≥ 201000) then bif decide (rd (Kind.int IntKind.i64) a1 a2 < 203000) then bif decide (Int.tmod (rd (Kind.int IntKind.i64) a1 a2) 1000 > 255) then some false else spec_l7Fits_L2 rc k a0 a1 (IntKind.i64.wrap (a2 + 1)) else some false else some false
    else none
   else none
  else some true
noncomputable def j_spec_l7Fits (rc : (List (Int × Int × Int × Int)) → (List Int) → Option (Bool)) : List (Nat × (Nat → Cut (Bool))) := [(2, fun k => ⟨s_spec_l7Fits_2, fun x => spec_l7Fits_L2 rc k x.1.1 x.1.2.1 x.1.2.2.1⟩)]
noncomputable def spec_l7Fits_F (rc : (List (Int × Int × Int × Int)) → (List Int) → Option (Bool)) (k : Nat) (a0 : List (Int × Int × Int × Int)) (a1 : List Int) : Option (Bool) :=
  spec_l7Fits_L2 rc k a0 a1 0
noncomputable def spec_l7Fits_R : Nat → (List (Int × Int × Int × Int)) → (List Int) → Option (Bool)
  | 0, _, _ => none
  | m + 1, a0, a1 => evF fun k => spec_l7Fits_F (spec_l7Fits_R m) k a0 a1
noncomputable def spec_l7Fits (a0 : List (Int × Int × Int × Int)) (a1 : List Int) : Option (Bool) := evF fun m => spec_l7Fits_R m a0 a1
noncomputable def gR_spec_l7Fits (rc : (List (Int × Int × Int × Int)) → (List Int) → Option (Bool)) : Sg := ⟨i_spec_l7Fits, o_spec_l7Fits, Bool, fun y => ((y, ()), ()), fun x => rc x.1.1 x.1.2.1⟩
noncomputable def g_spec_l7Fits : Sg := ⟨i_spec_l7Fits, o_spec_l7Fits, Bool, fun y => ((y, ()), ()), fun x => spec_l7Fits x.1.1 x.1.2.1⟩
noncomputable def C_spec_l7Fits (rc : (List (Int × Int × Int × Int)) → (List Int) → Option (Bool)) : Ctx := ⟨82, tiOf Try.prog, gl, sgOf [(95, g_spec_l7Elem), (93, (gR_spec_l7Fits rc))], []⟩
noncomputable def r_spec_l7Fits (rc : (List (Int × Int × Int × Int)) → (List Int) → Option (Bool)) : AExit → Env → Option (Bool) := retK (C_spec_l7Fits rc) 0 o_spec_l7Fits (fun y => y.1.1) Try.f93.results.toList
theorem eR_spec_l7Fits : ∀ m, Sound Try.prog gl 93 (gR_spec_l7Fits (spec_l7Fits_R m))
  | 0 => fun _ _ _ _ _ _ _ h => nomatch h
  | m + 1 => sound_cuts (C := (C_spec_l7Fits (spec_l7Fits_R m))) ⟨fun _ _ h => h, by kernel_rfl⟩ (sgOf_all' ⟨.inl ⟨by kernel_rfl, e_spec_l7Elem⟩, .inl ⟨by kernel_rfl, eR_spec_l7Fits m⟩, trivial⟩) 93 Try.f93 (gR_spec_l7Fits (spec_l7Fits_R (m + 1))) (fun y => y.1.1) (j_spec_l7Fits (spec_l7Fits_R m)) 1 (by kernel_rfl) (by kernel_rfl) (by kernel_rfl) (by kernel_rfl) (by kernel_rfl) (by kernel_rfl) (fun _ => rfl) (by kernel_rfl) (by kernel_rfl)
    ⟨trivial, s_spec_l7Fits_2, fun k x => spec_l7Fits_L2 (spec_l7Fits_R m) k x.1.1 x.1.2.1 x.1.2.2.1, ⟨fun k => by kernel_rfl, fun k y => by kernel_rfl, fun y => by kernel_rfl⟩⟩
    (fun k x => spec_l7Fits_F (spec_l7Fits_R m) k x.1.1 x.1.2.1) (fun x => rfl) (fun k x => by kernel_rfl)
theorem e_spec_l7Fits : Sound Try.prog gl 93 g_spec_l7Fits := fun w S vals x y hI hr h => let ⟨m, hm⟩ := evF_some h; eR_spec_l7Fits m w S vals x y hI hr hm
-- loop.example/g00051/spec.PlanOk
noncomputable def i_spec_PlanOk : Shape := ⟨[(0, .c (.sl (.pair (.int .i64) (.pair (.int .i64) (.pair (.int .i64) (.int .i64)))))), (1, .c (.sl (.int .i64)))], []⟩
noncomputable def o_spec_PlanOk : Shape := ⟨[(0, .c (.bool))], []⟩
noncomputable def spec_PlanOk (a0 : List (Int × Int × Int × Int)) (a1 : List Int) : Option (Bool) :=
  (spec_l7TableOk a0).bind fun val => bif val then bif decide ((↑a1.length : Int) ≤ 100) then (spec_l7Fits a0 a1).bind fun val => some val else some false else some false
noncomputable def g_spec_PlanOk : Sg := ⟨i_spec_PlanOk, o_spec_PlanOk, Bool, fun y => ((y, ()), ()), fun x => spec_PlanOk x.1.1 x.1.2.1⟩
noncomputable def C_spec_PlanOk : Ctx := ⟨17, tiOf Try.prog, gl, sgOf [(92, g_spec_l7TableOk), (93, g_spec_l7Fits)], []⟩
noncomputable def r_spec_PlanOk : AExit → Env → Option (Bool) := retK C_spec_PlanOk 0 o_spec_PlanOk (fun y => y.1.1) Try.f59.results.toList
theorem e_spec_PlanOk : Sound Try.prog gl 59 g_spec_PlanOk :=
  sound_plain (C := C_spec_PlanOk) ⟨fun _ _ h => h, by kernel_rfl⟩ (sgOf_all' ⟨.inl ⟨by kernel_rfl, e_spec_l7TableOk⟩, .inl ⟨by kernel_rfl, e_spec_l7Fits⟩, trivial⟩) 59 Try.f59 g_spec_PlanOk (fun y => y.1.1) (by kernel_rfl) (by kernel_rfl) (by kernel_rfl) (by kernel_rfl) (by kernel_rfl) (by kernel_rfl) (fun _ => rfl) (fun x => by kernel_rfl)
-- loop.example/g00051/impl.ones
noncomputable def i_impl_ones : Shape := ⟨[(0, .c (.int .i64))], []⟩
noncomputable def o_impl_ones : Shape := ⟨[(0, .c (.int .u64))], []⟩
noncomputable def impl_ones (a0 : Int) : Option (Int) :=
  bif decide (0 ≤ IntKind.u64.wrap a0) then some (IntKind.u64.wrap (IntKind.u64.wrap (1 * 2 ^ min (IntKind.u64.wrap a0).toNat IntKind.u64.bits) - 1)) else none
noncomputable def g_impl_ones : Sg := ⟨i_impl_ones, o_impl_ones, Int, fun y => ((y, ()), ()), fun x => impl_ones x.1.1⟩
noncomputable def C_impl_ones : Ctx := ⟨7, tiOf Try.prog, gl, sgOf [], []⟩
noncomputable def r_impl_ones : AExit → Env → Option (Int) := retK C_impl_ones 0 o_impl_ones (fun y => y.1.1) Try.f99.results.toList
theorem e_impl_ones : Sound Try.prog gl 99 g_impl_ones :=
  sound_plain (C := C_impl_ones) ⟨fun _ _ h => h, by kernel_rfl⟩ (sgOf_all' trivial) 99 Try.f99 g_impl_ones (fun y => y.1.1) (by kernel_rfl) (by kernel_rfl) (by kernel_rfl) (by kernel_rfl) (by kernel_rfl) (by kernel_rfl) (fun _ => rfl) (fun x => by kernel_rfl)
-- loop.example/g00051/impl.ten
noncomputable def i_impl_ten : Shape := ⟨[(0, .c (.int .i64))], []⟩
noncomputable def o_impl_ten : Shape := ⟨[(0, .c (.flt))], []⟩
noncomputable def s_impl_ten_2 : Shape := ⟨[(0, .c (.int .i64)), (3, .c (.flt))], []⟩
noncomputable def impl_ten_L2 : Nat → Int → Nat → Option (Nat)
  | 0, _, _ => none
  | k + 1, a0, a1 =>
  bif decide (a0 > 0) then impl_ten_L2 k (IntKind.i64.wrap (a0 - 1)) (fmul a1 4621819117588971520) else some a1
noncomputable def j_impl_ten : List (Nat × (Nat → Cut (Nat))) := [(2, fun k => ⟨s_impl_ten_2, fun x => impl_ten_L2 k x.1.1 x.1.2.1⟩)]
noncomputable def impl_ten_F (k : Nat) (a0 : Int) : Option (Nat) :=
  impl_ten_L2 k a0 4607182418800017408
noncomputable def impl_ten (a0 : Int) : Option (Nat) := evF fun k => impl_ten_F k a0
noncomputable def g_impl_ten : Sg := ⟨i_impl_ten, o_impl_ten, Nat, fun y => ((y, ()), ()), fun x => impl_ten x.1.1⟩
noncomputable def C_impl_ten : Ctx := ⟨11, tiOf Try.prog, gl, sgOf [], []⟩
noncomputable def r_impl_ten : AExit → Env → Option (Nat) := retK C_impl_ten 0 o_impl_ten (fun y => y.1.1) Try.f100.results.toList
theorem e_impl_ten : Sound Try.prog gl 100 g_impl_ten :=
  sound_cuts (C := C_impl_ten) ⟨fun _ _ h => h, by kernel_rfl⟩ (sgOf_all' trivial) 100 Try.f100 g_impl_ten (fun y => y.1.1) j_impl_ten 1 (by kernel_rfl) (by kernel_rfl) (by kernel_rfl) (by kernel_rfl) (by kernel_rfl) (by kernel_rfl) (fun _ => rfl) (by kernel_rfl) (by kernel_rfl)
    ⟨trivial, s_impl_ten_2, fun k x => impl_ten_L2 k x.1.1 x.1.2.1, ⟨fun k => by kernel_rfl, fun k y => by kernel_rfl, fun y => by kernel_rfl⟩⟩
    (fun k x => impl_ten_F k x.1.1) (fun x => rfl) (fun k x => by kernel_rfl)
-- loop.example/g00051/spec.l1Ten
noncomputable def i_spec_l1Ten : Shape := ⟨[(0, .c (.int .i64))], []⟩
noncomputable def o_spec_l1Ten : Shape := ⟨[(0, .c (.int .i64))], []⟩
noncomputable def s_spec_l1Ten_3 : Shape := ⟨[(0, .c (.int .i64)), (3, .c (.int .i64)), (4, .c (.int .i64))], []⟩
noncomputable def spec_l1Ten_L3 : Nat → Int → Int → Int → Option (Int)
  | 0, _, _, _ => none
  | k + 1, a0, a1, a2 =>
  bif decide (a2 < a0) then spec_l1Ten_L3 k a0 (IntKind.i64.wrap (a1 * 10)) (IntKind.i64.wrap (a2 + 1)) else some a1
noncomputable def j_spec_l1Ten : List (Nat × (Nat → Cut (Int))) := [(3, fun k => ⟨s_spec_l1Ten_3, fun x => spec_l1Ten_L3 k x.1.1 x.1.2.1 x.1.2.2.1⟩)]
noncomputable def spec_l1Ten_F (k : Nat) (a0 : Int) : Option (Int) :=
  spec_l1Ten_L3 k a0 1 0
noncomputable def spec_l1Ten (a0 : Int) : Option (Int) := evF fun k => spec_l1Ten_F k a0
noncomputable def g_spec_l1Ten : Sg := ⟨i_spec_l1Ten, o_spec_l1Ten, Int, fun y => ((y, ()), ()), fun x => spec_l1Ten x.1.1⟩
noncomputable def C_spec_l1Ten : Ctx := ⟨13, tiOf Try.prog, gl, sgOf [], []⟩
noncomputable def r_spec_l1Ten : AExit → Env → Option (Int) := retK C_spec_l1Ten 0 o_spec_l1Ten (fun y => y.1.1) Try.f143.results.toList
theorem e_spec_l1Ten : Sound Try.prog gl 143 g_spec_l1Ten :=
  sound_cuts (C := C_spec_l1Ten) ⟨fun _ _ h => h, by kernel_rfl⟩ (sgOf_all' trivial) 143 Try.f143 g_spec_l1Ten (fun y => y.1.1) j_spec_l1Ten 1 (by kernel_rfl) (by kernel_rfl) (by kernel_rfl) (by kernel_rfl) (by kernel_rfl) (by kernel_rfl) (fun _ => rfl) (by kernel_rfl) (by kernel_rfl)
    ⟨trivial, s_spec_l1Ten_3, fun k x => spec_l1Ten_L3 k x.1.1 x.1.2.1 x.1.2.2.1, ⟨fun k => by kernel_rfl, fun k y => by kernel_rfl, fun y => by kernel_rfl⟩⟩
    (fun k x => spec_l1Ten_F k x.1.1) (fun x => rfl) (fun k x => by kernel_rfl)
-- loop.example/g00051/spec.l7Ten
noncomputable def i_spec_l7Ten : Shape := ⟨[(0, .c (.int .i64))], []⟩
noncomputable def o_spec_l7Ten : Shape := ⟨[(0, .c (.flt))], []⟩
noncomputable def spec_l7Ten (a0 : Int) : Option (Nat) :=
  bif decide (a0 < 0) then (spec_l1Ten (IntKind.i64.wrap (0 - a0))).bind fun val => some (fofi val) else (spec_l1Ten a0).bind fun val => some (fofi val)
noncomputable def g_spec_l7Ten : Sg := ⟨i_spec_l7Ten, o_spec_l7Ten, Nat, fun y => ((y, ()), ()), fun x => spec_l7Ten x.1.1⟩
noncomputable def C_spec_l7Ten : Ctx := ⟨10, tiOf Try.prog, gl, sgOf [(143, g_spec_l1Ten)], []⟩
noncomputable def r_spec_l7Ten : AExit → Env → Option (Nat) := retK C_spec_l7Ten 0 o_spec_l7Ten (fun y => y.1.1) Try.f138.results.toList
theorem e_spec_l7Ten : Sound Try.prog gl 138 g_spec_l7Ten :=
  sound_plain (C := C_spec_l7Ten) ⟨fun _ _ h => h, by kernel_rfl⟩ (sgOf_all' ⟨.inl ⟨by kernel_rfl, e_spec_l1Ten⟩, trivial⟩) 138 Try.f138 g_spec_l7Ten (fun y => y.1.1) (by kernel_rfl) (by kernel_rfl) (by kernel_rfl) (by kernel_rfl) (by kernel_rfl) (by kernel_rfl) (fun _ => rfl) (fun x => by kernel_rfl)
-- loop.example/g00051/spec.l7Put
noncomputable def i_spec_l7Put : Shape := ⟨[(0, .c (.ref 0)), (1, .c (.int .i64)), (2, .c (.int .i64))], [.lst 5 (.int .u8)]⟩
noncomputable def o_spec_l7Put : Shape := ⟨[(0, .c (.ref 1))], [.dead, .lst 5 (.int .u8)]⟩
noncomputable def s_spec_l7Put_2 : Shape := ⟨[(0, .c (.ref 1)), (1, .c (.int .i64)), (7, .c (.int .i64))], [.dead, .lst 5 (.int .u8)]⟩
noncomputable def spec_l7Put_L2 : Nat → Int → Int → (List Int) → Option ((List Int))
  | 0, _, _, _ => none
  | k + 1, a0, a1, a2 =>
  bif decide (a1 ≥ 0) then bif decide (0 ≤ IntKind.u64.wrap a1) then bif decide (a2.length + [IntKind.u8.wrap (IntKind.i64.wrap (↑(BitVec.ofInt IntKind.i64.bits (a0.fdiv (2 ^ min (IntKind.u64.wrap a1).toNat IntKind.i64.bits)) &&& BitVec.ofInt IntKind.i64.bits 1).toNat : Int))].length ≤ maxBytes / 1) then spec_l7Put_L2 k a0 (IntKind.i64.wrap (a1 - 1)) (a2 ++ [IntKind.u8.wrap (IntKind.i64.wrap (↑(BitVec.ofInt IntKind.i64.bits (a0.fdiv (2 ^ min (IntKind.u64.wrap a1).toNat IntKind.i64.bits)) &&& BitVec.ofInt IntKind.i64.bits 1).toNat : Int))]) else none else none else some a2
noncomputable def j_spec_l7Put : List (Nat × (Nat → Cut ((List Int)))) := [(2, fun k => ⟨s_spec_l7Put_2, fun x => spec_l7Put_L2 k x.1.2.1 x.1.2.2.1 x.2.2.1⟩)]
noncomputable def spec_l7Put_F (k : Nat) (a0 : Int) (a1 : Int) (a2 : List Int) : Option ((List Int)) :=
  spec_l7Put_L2 k a0 (IntKind.i64.wrap (a1 - 1)) a2
noncomputable def spec_l7Put (a0 : Int) (a1 : Int) (a2 : List Int) : Option ((List Int)) := evF fun k => spec_l7Put_F k a0 a1 a2
noncomputable def g_spec_l7Put : Sg := ⟨i_spec_l7Put, o_spec_l7Put, (List Int), fun y => (((), ()), ((), y, ())), fun x => spec_l7Put x.1.2.1 x.1.2.2.1 x.2.1⟩
noncomputable def C_spec_l7Put : Ctx := ⟨24, tiOf Try.prog, gl, sgOf [], []⟩
noncomputable def r_spec_l7Put : AExit → Env → Option ((List Int)) := retK C_spec_l7Put 1 o_spec_l7Put (fun y => y.2.2.1) Try.f94.results.toList
theorem e_spec_l7Put : Sound Try.prog gl 94 g_spec_l7Put :=
  sound_cuts (C := C_spec_l7Put) ⟨fun _ _ h => h, by kernel_rfl⟩ (sgOf_all' trivial) 94 Try.f94 g_spec_l7Put (fun y => y.2.2.1) j_spec_l7Put 1 (by kernel_rfl) (by kernel_rfl) (by kernel_rfl) (by kernel_rfl) (by kernel_rfl) (by kernel_rfl) (fun _ => rfl) (by kernel_rfl) (by kernel_rfl)
    ⟨trivial, s_spec_l7Put_2, fun k x => spec_l7Put_L2 k x.1.2.1 x.1.2.2.1 x.2.2.1, ⟨fun k => by kernel_rfl, fun k y => by kernel_rfl, fun y => by kernel_rfl⟩⟩
    (fun k x => spec_l7Put_F k x.1.2.1 x.1.2.2.1 x.2.1) (fun x => rfl) (fun k x => by kernel_rfl)
-- loop.example/g00051/spec.l7Bits
noncomputable def i_spec_l7Bits : Shape := ⟨[(0, .c (.sl (.int .u8)))], []⟩
noncomputable def o_spec_l7Bits : Shape := ⟨[(0, .c (.ref 0))], [.lst 5 (.int .u8)]⟩
noncomputable def s_spec_l7Bits_3 : Shape := ⟨[(0, .c (.sl (.int .u8))), (3, .c (.ref 0)), (4, .c (.int .i64))], [.lst 5 (.int .u8)]⟩
noncomputable def spec_l7Bits_L3 : Nat → (List Int) → Int → (List Int) → Option ((List Int))
  | 0, _, _, _ => none
  | k + 1, a0, a1, a2 =>
  bif decide (a1 < (↑a0.length : Int)) then bif decide (0 ≤ a1) then bif decide (a1 < (↑a0.length : Int)) then (spec_l7Put (IntKind.i64.wrap (rd (Kind.int IntKind.u8) a0 a1)) 8 a2).bind fun val => spec_l7Bits_L3 k a0 (IntKind.i64.wrap (a1 + 1)) val else none else none else some a2
noncomputable def j_spec_l7Bits : List (Nat × (Nat → Cut ((List Int)))) := [(3, fun k => ⟨s_spec_l7Bits_3, fun x => spec_l7Bits_L3 k x.1.1 x.1.2.2.1 x.2.1⟩)]
noncomputable def spec_l7Bits_F (k : Nat) (a0 : List Int) : Option ((List Int)) :=
  spec_l7Bits_L3 k a0 0 []
noncomputable def spec_l7Bits (a0 : List Int) : Option ((List Int)) := evF fun k => spec_l7Bits_F k a0
noncomputable def g_spec_l7Bits : Sg := ⟨i_spec_l7Bits, o_spec_l7Bits, (List Int), fun y => (((), ()), (y, ())), fun x => spec_l7Bits x.1.1⟩
noncomputable def C_spec_l7Bits : Ctx := ⟨20, tiOf Try.prog, gl, sgOf [(94, g_spec_l7Put)], []⟩
noncomputable def r_spec_l7Bits : AExit → Env → Option ((List Int)) := retK C_spec_l7Bits 0 o_spec_l7Bits (fun y => y.2.1) Try.f60.results.toList
theorem e_spec_l7Bits : Sound Try.prog gl 60 g_spec_l7Bits :=
  sound_cuts (C := C_spec_l7Bits) ⟨fun _ _ h => h, by kernel_rfl⟩ (sgOf_all' ⟨.inl ⟨by kernel_rfl, e_spec_l7Put⟩, trivial⟩) 60 Try.f60 g_spec_l7Bits (fun y => y.2.1) j_spec_l7Bits 1 (by kernel_rfl) (by kernel_rfl) (by kernel_rfl) (by kernel_rfl) (by kernel_rfl) (by kernel_rfl) (fun _ => rfl) (by kernel_rfl) (by kernel_rfl)
    ⟨trivial, s_spec_l7Bits_3, fun k x => spec_l7Bits_L3 k x.1.1 x.1.2.2.1 x.2.1, ⟨fun k => by kernel_rfl, fun k y => by kernel_rfl, fun y => by kernel_rfl⟩⟩
    (fun k x => spec_l7Bits_F k x.1.1) (fun x => rfl) (fun k x => by kernel_rfl)
-- loop.example/g00051/spec.l7Bytes
noncomputable def i_spec_l7Bytes : Shape := ⟨[(0, .c (.sl (.int .u8)))], []⟩
noncomputable def o_spec_l7Bytes : Shape := ⟨[(0, .c (.ref 0))], [.lst 5 (.int .u8)]⟩
noncomputable def s_spec_l7Bytes_3 : Shape := ⟨[(0, .c (.sl (.int .u8))), (3, .c (.ref 0)), (4, .c (.int .i64))], [.lst 5 (.int .u8)]⟩
noncomputable def spec_l7Bytes_L3 : Nat → (List Int) → Int → (List Int) → Option ((List Int))
  | 0, _, _, _ => none
  | k + 1, a0, a1, a2 =>
  bif decide (a1 < (↑a0.length : Int)) then
   bif a1.tmod 8 == 0 then bif decide (a2.length + [0].length ≤ maxBytes / 1) then bif decide (0 ≤ IntKind.i64.wrap (a1.tdiv 8)) then bif decide (IntKind.i64.wrap (a1.tdiv 8) < (↑(a2 ++ [0]).length : Int)) then bif decide (IntKind.i64.wrap (a1.tdiv 8) < (↑(a2 ++ [0]).length : Int)) then bif decide (0 ≤ a1) then bif decide (a1 < (↑a0.length : Int)) then bif decide (0 ≤ IntKind.u64.wrap (IntKind.i64.wrap (7 - a1.tmod 8))) then bif decide (0 ≤ IntKind.i64.wrap (a1.tdiv 8)) then bif decide (IntKind.i64.wrap (a1.tdiv 8) < (↑(a2 ++ [0]).length : Int)) then (setW (a2 ++ [0]) (IntKind.i64.wrap (a1.tdiv 8)) (IntKind.u8.wrap (↑(BitVec.ofInt IntKind.u8.bits (rd (Kind.int IntKind.u8) (a2 ++ [0]) (IntKind.i64.wrap (a1.tdiv 8))) ||| BitVec.ofInt IntKind.u8.bits (IntKind.u8.wrap (rd (Kind.int IntKind.u8) a0 a1 * 2 ^ min (IntKind.u64.wrap (IntKind.i64.wrap (7 - a1.tmod 8))).toNat IntKind.u8.bits))).toNat : Int))).bind fun val => spec_l7Bytes_L3 k a0 (IntKind.i64.wrap (a1 + 1)) val else none else none else none else none else none else none else none else none else none
   else bif decide (0 ≤ IntKind.i64.wrap (a1.tdiv 8)) then bif decide (IntKind.i64.wrap (a1.tdiv 8) < (↑a2.length : Int)) then bif decide (IntKind.i64.wrap (a1.tdiv 8) < (↑a2.length : Int)) then bif decide (0 ≤ a1) then bif decide (a1 < (↑a0.length : Int)) then bif decide (0 ≤ IntKind.u64.wrap (IntKind.i64.wrap (7 - a1.tmod 8))) then bif decide (0 ≤ IntKind.i64.wrap (a1.tdiv 8)) then bif decide (IntKind.i64.wrap (a1.tdiv 8) < (↑a2.length : Int)) then (setW a2 (IntKind.i64.wrap (a1.tdiv 8)) (IntKind.u8.wrap (↑(BitVec.ofInt IntKind.u8.bits (rd (Kind.int IntKind.u8) a2 (IntKind.i64.wrap (a1.tdiv 8))) ||| BitVec.ofInt IntKind.u8.bits (IntKind.u8.wrap (rd (Kind.int IntKind.u8) a0 a1 * 2 ^ min (IntKind.u64.wrap (IntKind.i64.wrap (7 - a1.tmod 8))).toNat IntKind.u8.bits))).toNat : Int))).bind fun val => spec_l7Bytes_L3 k a0 (IntKind.i64.wrap (a1 + 1)) val else none else none else none else none else none else none else none else none
  else some a2
noncomputable def j_spec_l7Bytes : List (Nat × (Nat → Cut ((List Int)))) := [(3, fun k => ⟨s_spec_l7Bytes_3, fun x => spec_l7Bytes_L3 k x.1.1 x.1.2.2.1 x.2.1⟩)]
noncomputable def spec_l7Bytes_F (k : Nat) (a0 : List Int) : Option ((List Int)) :=
  spec_l7Bytes_L3 k a0 0 []
noncomputable def spec_l7Bytes (a0 : List Int) : Option ((List Int)) := evF fun k => spec_l7Bytes_F k a0
noncomputable def g_spec_l7Bytes : Sg := ⟨i_spec_l7Bytes, o_spec_l7Bytes, (List Int), fun y => (((), ()), (y, ())), fun x => spec_l7Bytes x.1.1⟩
noncomputable def C_spec_l7Bytes : Ctx := ⟨38, tiOf Try.prog, gl, sgOf [], []⟩
noncomputable def r_spec_l7Bytes : AExit → Env → Option ((List Int)) := retK C_spec_l7Bytes 0 o_spec_l7Bytes (fun y => y.2.1) Try.f73.results.toList
theorem e_spec_l7Bytes : Sound Try.prog gl 73 g_spec_l7Bytes :=
  sound_cuts (C := C_spec_l7Bytes) ⟨fun _ _ h => h, by kernel_rfl⟩ (sgOf_all' trivial) 73 Try.f73 g_spec_l7Bytes (fun y => y.2.1) j_spec_l7Bytes 1 (by kernel_rfl) (by kernel_rfl) (by kernel_rfl) (by kernel_rfl) (by kernel_rfl) (by kernel_rfl) (fun _ => rfl) (by kernel_rfl) (by kernel_rfl)
    ⟨trivial, s_spec_l7Bytes_3, fun k x => spec_l7Bytes_L3 k x.1.1 x.1.2.2.1 x.2.1, ⟨fun k => by kernel_rfl, fun k y => by kernel_rfl, fun y => by kernel_rfl⟩⟩
    (fun k x => spec_l7Bytes_F k x.1.1) (fun x => rfl) (fun k x => by kernel_rfl)
-- math.NaN
noncomputable def i_math_NaN : Shape := ⟨[], []⟩
noncomputable def o_math_NaN : Shape := ⟨[(0, .c (.flt))], []⟩
noncomputable def math_NaN : Option (Nat) :=
  (dFf 9221120237041090561).bind fun val => some val
noncomputable def g_math_NaN : Sg := ⟨i_math_NaN, o_math_NaN, Nat, fun y => ((y, ()), ()), fun x => math_NaN ⟩
noncomputable def C_math_NaN : Ctx := ⟨2, tiOf Try.prog, gl, sgOf [(84, gFf)], []⟩
noncomputable def r_math_NaN : AExit → Env → Option (Nat) := retK C_math_NaN 0 o_math_NaN (fun y => y.1.1) Try.f91.results.toList
theorem e_math_NaN : Sound Try.prog gl 91 g_math_NaN :=
  sound_plain (C := C_math_NaN) ⟨fun _ _ h => h, by kernel_rfl⟩ (sgOf_all' ⟨.inr xFf, trivial⟩) 91 Try.f91 g_math_NaN (fun y => y.1.1) (by kernel_rfl) (by kernel_rfl) (by kernel_rfl) (by kernel_rfl) (by kernel_rfl) (by kernel_rfl) (fun _ => rfl) (fun x => by kernel_rfl)
-- loop.example/g00051/impl.nan
noncomputable def i_impl_nan : Shape := ⟨[], []⟩
noncomputable def o_impl_nan : Shape := ⟨[(0, .c (.flt))], []⟩
noncomputable def impl_nan : Option (Nat) :=
  math_NaN.bind fun val => some val
noncomputable def g_impl_nan : Sg := ⟨i_impl_nan, o_impl_nan, Nat, fun y => ((y, ()), ()), fun x => impl_nan ⟩
noncomputable def C_impl_nan : Ctx := ⟨2, tiOf Try.prog, gl, sgOf [(91, g_math_NaN)], []⟩
noncomputable def r_impl_nan : AExit → Env → Option (Nat) := retK C_impl_nan 0 o_impl_nan (fun y => y.1.1) Try.f58.results.toList
theorem e_impl_nan : Sound Try.prog gl 58 g_impl_nan :=
  sound_plain (C := C_impl_nan) ⟨fun _ _ h => h, by kernel_rfl⟩ (sgOf_all' ⟨.inl ⟨by kernel_rfl, e_math_NaN⟩, trivial⟩) 58 Try.f58 g_impl_nan (fun y => y.1.1) (by kernel_rfl) (by kernel_rfl) (by kernel_rfl) (by kernel_rfl) (by kernel_rfl) (by kernel_rfl) (fun _ => rfl) (fun x => by kernel_rfl)
-- loop.example/g00051/impl.valueOf
noncomputable def i_impl_valueOf : Shape := ⟨[(0, .agg [.int .i64, .int .i64, .int .i64, .int .i64]), (1, .c (.int .u64))], []⟩
noncomputable def o_impl_valueOf : Shape := ⟨[(0, .c (.flt))], []⟩
noncomputable def impl_valueOf (a0 : Int) (a1 : Int) (a2 : Int) (a3 : Int) (a4 : Int) : Option (Nat) :=
  (impl_ones a1).bind fun val => bif a4 == val then impl_nan.bind fun val => some val else bif decide (a2 ≥ 0) then (impl_ten a2).bind fun val => some (fdiv (fofi (IntKind.i64.wrap (IntKind.i64.wrap a4 + a3))) val) else (impl_ten (IntKind.i64.wrap (0 - a2))).bind fun val => some (fmul (fofi (IntKind.i64.wrap (IntKind.i64.wrap a4 + a3))) val)
noncomputable def g_impl_valueOf : Sg := ⟨i_impl_valueOf, o_impl_valueOf, Nat, fun y => ((y, ()), ()), fun x => impl_valueOf x.1.1.1 x.1.1.2.1 x.1.1.2.2.1 x.1.1.2.2.2.1 x.1.2.1⟩
noncomputable def C_impl_valueOf : Ctx := ⟨32, tiOf Try.prog, gl, sgOf [(99, g_impl_ones), (58, g_impl_nan), (100, g_impl_ten)], []⟩
noncomputable def r_impl_valueOf : AExit → Env → Option (Nat) := retK C_impl_valueOf 0 o_impl_valueOf (fun y => y.1.1) Try.f68.results.toList
theorem e_impl_valueOf : Sound Try.prog gl 68 g_impl_valueOf :=
  sound_plain (C := C_impl_valueOf) ⟨fun _ _ h => h, by kernel_rfl⟩ (sgOf_all' ⟨.inl ⟨by kernel_rfl, e_impl_ones⟩, .inl ⟨by kernel_rfl, e_impl_nan⟩, .inl ⟨by kernel_rfl, e_impl_ten⟩, trivial⟩) 68 Try.f68 g_impl_valueOf (fun y => y.1.1) (by kernel_rfl) (by kernel_rfl) (by kernel_rfl) (by kernel_rfl) (by kernel_rfl) (by kernel_rfl) (fun _ => rfl) (fun x => by kernel_rfl)
-- loop.example/g00051/spec.l1None
noncomputable def i_spec_l1None : Shape := ⟨[], []⟩
noncomputable def o_spec_l1None : Shape := ⟨[(0, .c (.flt))], []⟩
noncomputable def spec_l1None : Option (Nat) :=
  some (fdiv 0 0)
noncomputable def g_spec_l1None : Sg := ⟨i_spec_l1None, o_spec_l1None, Nat, fun y => ((y, ()), ()), fun x => spec_l1None ⟩
noncomputable def C_spec_l1None : Ctx := ⟨5, tiOf Try.prog, gl, sgOf [], []⟩
noncomputable def r_spec_l1None : AExit → Env → Option (Nat) := retK C_spec_l1None 0 o_spec_l1None (fun y => y.1.1) Try.f77.results.toList
theorem e_spec_l1None : Sound Try.prog gl 77 g_spec_l1None :=
  sound_plain (C := C_spec_l1None) ⟨fun _ _ h => h, by kernel_rfl⟩ (sgOf_all' trivial) 77 Try.f77 g_spec_l1None (fun y => y.1.1) (by kernel_rfl) (by kernel_rfl) (by kernel_rfl) (by kernel_rfl) (by kernel_rfl) (by kernel_rfl) (fun _ => rfl) (fun x => by kernel_rfl)
-- loop.example/g00051/spec.l7Value
noncomputable def i_spec_l7Value : Shape := ⟨[(0, .agg [.int .i64, .int .i64, .int .i64, .int .i64]), (1, .c (.int .i64))], []⟩
noncomputable def o_spec_l7Value : Shape := ⟨[(0, .c (.flt))], []⟩
noncomputable def spec_l7Value (a0 : Int) (a1 : Int) (a2 : Int) (a3 : Int) (a4 : Int) : Option (Nat) :=
  bif decide (0 ≤ IntKind.u64.wrap a1) then bif a4 == IntKind.i64.wrap (IntKind.i64.wrap (1 * 2 ^ min (IntKind.u64.wrap a1).toNat IntKind.i64.bits) - 1) then spec_l1None.bind fun val => some val else bif decide (a2 < 0) then (spec_l7Ten a2).bind fun val => some (fmul (fofi (IntKind.i64.wrap (a4 + a3))) val) else (spec_l7Ten a2).bind fun val => some (fdiv (fofi (IntKind.i64.wrap (a4 + a3))) val) else none
noncomputable def g_spec_l7Value : Sg := ⟨i_spec_l7Value, o_spec_l7Value, Nat, fun y => ((y, ()), ()), fun x => spec_l7Value x.1.1.1 x.1.1.2.1 x.1.1.2.2.1 x.1.1.2.2.2.1 x.1.2.1⟩
noncomputable def C_spec_l7Value : Ctx := ⟨32, tiOf Try.prog, gl, sgOf [(77, g_spec_l1None), (138, g_spec_l7Ten)], []⟩
noncomputable def r_spec_l7Value : AExit → Env → Option (Nat) := retK C_spec_l7Value 0 o_spec_l7Value (fun y => y.1.1) Try.f127.results.toList
theorem e_spec_l7Value : Sound Try.prog gl 127 g_spec_l7Value :=
  sound_plain (C := C_spec_l7Value) ⟨fun _ _ h => h, by kernel_rfl⟩ (sgOf_all' ⟨.inl ⟨by kernel_rfl, e_spec_l1None⟩, .inl ⟨by kernel_rfl, e_spec_l7Ten⟩, trivial⟩) 127 Try.f127 g_spec_l7Value (fun y => y.1.1) (by kernel_rfl) (by kernel_rfl) (by kernel_rfl) (by kernel_rfl) (by kernel_rfl) (by kernel_rfl) (fun _ => rfl) (fun x => by kernel_rfl)
-- loop.example/g00051/impl.missing
noncomputable def i_impl_missing : Shape := ⟨[(0, .c (.flt))], []⟩
noncomputable def o_impl_missing : Shape := ⟨[(0, .c (.bool))], []⟩
noncomputable def impl_missing (a0 : Nat) : Option (Bool) :=
  some !feq a0 a0
noncomputable def g_impl_missing : Sg := ⟨i_impl_missing, o_impl_missing, Bool, fun y => ((y, ()), ()), fun x => impl_missing x.1.1⟩
noncomputable def C_impl_missing : Ctx := ⟨6, tiOf Try.prog, gl, sgOf [], []⟩
noncomputable def r_impl_missing : AExit → Env → Option (Bool) := retK C_impl_missing 0 o_impl_missing (fun y => y.1.1) Try.f82.results.toList
theorem e_impl_missing : Sound Try.prog gl 82 g_impl_missing :=
  sound_plain (C := C_impl_missing) ⟨fun _ _ h => h, by kernel_rfl⟩ (sgOf_all' trivial) 82 Try.f82 g_impl_missing (fun y => y.1.1) (by kernel_rfl) (by kernel_rfl) (by kernel_rfl) (by kernel_rfl) (by kernel_rfl) (by kernel_rfl) (fun _ => rfl) (fun x => by kernel_rfl)
-- math.Abs
noncomputable def i_math_Abs : Shape := ⟨[(0, .c (.flt))], []⟩
noncomputable def o_math_Abs : Shape := ⟨[(0, .c (.flt))], []⟩
noncomputable def math_Abs (a0 : Nat) : Option (Nat) :=
  (dFb a0).bind fun val => (dFf (IntKind.u64.wrap (↑(BitVec.ofInt IntKind.u64.bits val &&& ~~~BitVec.ofInt IntKind.u64.bits 9223372036854775808).toNat : Int))).bind fun val => some val
noncomputable def g_math_Abs : Sg := ⟨i_math_Abs, o_math_Abs, Nat, fun y => ((y, ()), ()), fun x => math_Abs x.1.1⟩
noncomputable def C_math_Abs : Ctx := ⟨7, tiOf Try.prog, gl, sgOf [(85, gFb), (84, gFf)], []⟩
noncomputable def r_math_Abs : AExit → Env → Option (Nat) := retK C_math_Abs 0 o_math_Abs (fun y => y.1.1) Try.f49.results.toList
theorem e_math_Abs : Sound Try.prog gl 49 g_math_Abs :=
  sound_plain (C := C_math_Abs) ⟨fun _ _ h => h, by kernel_rfl⟩ (sgOf_all' ⟨.inr xFb, .inr xFf, trivial⟩) 49 Try.f49 g_math_Abs (fun y => y.1.1) (by kernel_rfl) (by kernel_rfl) (by kernel_rfl) (by kernel_rfl) (by kernel_rfl) (by kernel_rfl) (fun _ => rfl) (fun x => by kernel_rfl)
-- math.IsInf
noncomputable def i_math_IsInf : Shape := ⟨[(0, .c (.flt)), (1, .c (.int .i64))], []⟩
noncomputable def o_math_IsInf : Shape := ⟨[(0, .c (.bool))], []⟩
noncomputable def math_IsInf (a0 : Nat) (a1 : Int) : Option (Bool) :=
  bif a1 == 0 then (math_Abs a0).bind fun val => some (fgt val 9218868437227405311) else bif decide (a1 < 0) then some (fgt (fneg a0) 9218868437227405311) else some (fgt a0 9218868437227405311)
noncomputable def g_math_IsInf : Sg := ⟨i_math_IsInf, o_math_IsInf, Bool, fun y => ((y, ()), ()), fun x => math_IsInf x.1.1 x.1.2.1⟩
noncomputable def C_math_IsInf : Ctx := ⟨15, tiOf Try.prog, gl, sgOf [(49, g_math_Abs)], []⟩
noncomputable def r_math_IsInf : AExit → Env → Option (Bool) := retK C_math_IsInf 0 o_math_IsInf (fun y => y.1.1) Try.f83.results.toList
theorem e_math_IsInf : Sound Try.prog gl 83 g_math_IsInf :=
  sound_plain (C := C_math_IsInf) ⟨fun _ _ h => h, by kernel_rfl⟩ (sgOf_all' ⟨.inl ⟨by kernel_rfl, e_math_Abs⟩, trivial⟩) 83 Try.f83 g_math_IsInf (fun y => y.1.1) (by kernel_rfl) (by kernel_rfl) (by kernel_rfl) (by kernel_rfl) (by kernel_rfl) (by kernel_rfl) (fun _ => rfl) (fun x => by kernel_rfl)
-- loop.example/g00051/impl.Known
noncomputable def i_impl_Known : Shape := ⟨[(0, .c (.flt))], []⟩
noncomputable def o_impl_Known : Shape := ⟨[(0, .c (.bool))], []⟩
noncomputable def impl_Known (a0 : Nat) : Option (Bool) :=
  (impl_missing a0).bind fun val => bif !val then (math_IsInf a0 0).bind fun val => some !val else some false
noncomputable def g_impl_Known : Sg := ⟨i_impl_Known, o_impl_Known, Bool, fun y => ((y, ()), ()), fun x => impl_Known x.1.1⟩
noncomputable def C_impl_Known : Ctx := ⟨11, tiOf Try.prog, gl, sgOf [(82, g_impl_missing), (83, g_math_IsInf)], []⟩
noncomputable def r_impl_Known : AExit → Env → Option (Bool) := retK C_impl_Known 0 o_impl_Known (fun y => y.1.1) Try.f47.results.toList
theorem e_impl_Known : Sound Try.prog gl 47 g_impl_Known :=
  sound_plain (C := C_impl_Known) ⟨fun _ _ h => h, by kernel_rfl⟩ (sgOf_all' ⟨.inl ⟨by kernel_rfl, e_impl_missing⟩, .inl ⟨by kernel_rfl, e_math_IsInf⟩, trivial⟩) 47 Try.f47 g_impl_Known (fun y => y.1.1) (by kernel_rfl) (by kernel_rfl) (by kernel_rfl) (by kernel_rfl) (by kernel_rfl) (by kernel_rfl) (fun _ => rfl) (fun x => by kernel_rfl)
-- loop.example/g00051/impl.Nearest
noncomputable def i_impl_Nearest : Shape := ⟨[(0, .c (.flt))], []⟩
noncomputable def o_impl_Nearest : Shape := ⟨[(0, .tup [(false, [.int .i64]), (false, [.bool])])], []⟩
noncomputable def impl_Nearest (a0 : Nat) : Option (Int × Bool) :=
  (impl_Known a0).bind fun val => bif !val then some (0, false) else bif flt a0 14054727237768577024 then some (0, false) else bif fgt a0 4831355200913801216 then some (0, false) else (dRte a0).bind fun val => (floatToIntVal FloatKind.f64 val IntKind.i64).bind fun val => some (val, true)
noncomputable def g_impl_Nearest : Sg := ⟨i_impl_Nearest, o_impl_Nearest, Int × Bool, fun y => ((((y.1, ()), (y.2, ()), ()), ()), ()), fun x => impl_Nearest x.1.1⟩
noncomputable def C_impl_Nearest : Ctx := ⟨18, tiOf Try.prog, gl, sgOf [(47, g_impl_Known), (141, gRte)], []⟩
noncomputable def r_impl_Nearest : AExit → Env → Option (Int × Bool) := retK C_impl_Nearest 0 o_impl_Nearest (fun y => (y.1.1.1.1, y.1.1.2.1.1)) Try.f131.results.toList
theorem e_impl_Nearest : Sound Try.prog gl 131 g_impl_Nearest :=
  sound_plain (C := C_impl_Nearest) ⟨fun _ _ h => h, by kernel_rfl⟩ (sgOf_all' ⟨.inl ⟨by kernel_rfl, e_impl_Known⟩, .inr xRte, trivial⟩) 131 Try.f131 g_impl_Nearest (fun y => (y.1.1.1.1, y.1.1.2.1.1)) (by kernel_rfl) (by kernel_rfl) (by kernel_rfl) (by kernel_rfl) (by kernel_rfl) (by kernel_rfl) (fun _ => rfl) (fun x => by kernel_rfl)
-- loop.example/g00051/spec.Known
noncomputable def i_spec_Known : Shape := ⟨[(0, .c (.flt))], []⟩
noncomputable def o_spec_Known : Shape := ⟨[(0, .c (.bool))], []⟩
noncomputable def spec_Known (a0 : Nat) : Option (Bool) :=
  some (feq (fsub a0 a0) 0)
noncomputable def g_spec_Known : Sg := ⟨i_spec_Known, o_spec_Known, Bool, fun y => ((y, ()), ()), fun x => spec_Known x.1.1⟩
noncomputable def C_spec_Known : Ctx := ⟨9, tiOf Try.prog, gl, sgOf [], []⟩
noncomputable def r_spec_Known : AExit → Env → Option (Bool) := retK C_spec_Known 0 o_spec_Known (fun y => y.1.1) Try.f43.results.toList
theorem e_spec_Known : Sound Try.prog gl 43 g_spec_Known :=
  sound_plain (C := C_spec_Known) ⟨fun _ _ h => h, by kernel_rfl⟩ (sgOf_all' trivial) 43 Try.f43 g_spec_Known (fun y => y.1.1) (by kernel_rfl) (by kernel_rfl) (by kernel_rfl) (by kernel_rfl) (by kernel_rfl) (by kernel_rfl) (fun _ => rfl) (fun x => by kernel_rfl)
-- loop.example/g00051/spec.l1Whole
noncomputable def i_spec_l1Whole : Shape := ⟨[(0, .c (.flt))], []⟩
noncomputable def o_spec_l1Whole : Shape := ⟨[(0, .c (.bool))], []⟩
noncomputable def spec_l1Whole (a0 : Nat) : Option (Bool) :=
  (spec_Known a0).bind fun val => bif val then bif fgt a0 14054727237768577024 || feq a0 14054727237768577024 then some (flt a0 4831355200913801216 || feq a0 4831355200913801216) else some false else some false
noncomputable def g_spec_l1Whole : Sg := ⟨i_spec_l1Whole, o_spec_l1Whole, Bool, fun y => ((y, ()), ()), fun x => spec_l1Whole x.1.1⟩
noncomputable def C_spec_l1Whole : Ctx := ⟨13, tiOf Try.prog, gl, sgOf [(43, g_spec_Known)], []⟩
noncomputable def r_spec_l1Whole : AExit → Env → Option (Bool) := retK C_spec_l1Whole 0 o_spec_l1Whole (fun y => y.1.1) Try.f144.results.toList
theorem e_spec_l1Whole : Sound Try.prog gl 144 g_spec_l1Whole :=
  sound_plain (C := C_spec_l1Whole) ⟨fun _ _ h => h, by kernel_rfl⟩ (sgOf_all' ⟨.inl ⟨by kernel_rfl, e_spec_Known⟩, trivial⟩) 144 Try.f144 g_spec_l1Whole (fun y => y.1.1) (by kernel_rfl) (by kernel_rfl) (by kernel_rfl) (by kernel_rfl) (by kernel_rfl) (by kernel_rfl) (fun _ => rfl) (fun x => by kernel_rfl)
-- loop.example/g00051/spec.Nearest
noncomputable def i_spec_Nearest : Shape := ⟨[(0, .c (.flt))], []⟩
noncomputable def o_spec_Nearest : Shape := ⟨[(0, .tup [(false, [.int .i64]), (false, [.bool])])], []⟩
noncomputable def spec_Nearest (a0 : Nat) : Option (Int × Bool) :=
  (spec_l1Whole a0).bind fun val => bif !val then some (0, false) else (floatToIntVal FloatKind.f64 a0 IntKind.i64).bind fun val => bif fgt (fofi val) a0 then bif fgt (fsub a0 (fofi (IntKind.i64.wrap (val - 1)))) 4602678819172646912 then some (IntKind.i64.wrap (IntKind.i64.wrap (val - 1) + 1), true) else bif feq (fsub a0 (fofi (IntKind.i64.wrap (val - 1)))) 4602678819172646912 then bif (IntKind.i64.wrap (val - 1)).tmod 2 != 0 then some (IntKind.i64.wrap (IntKind.i64.wrap (val - 1) + 1), true) else some (IntKind.i64.wrap (val - 1), true) else some (IntKind.i64.wrap (val - 1), true) else bif fgt (fsub a0 (fofi val)) 4602678819172646912 then some (IntKind.i64.wrap (val + 1), true) else bif feq (fsub a0 (fofi val)) 4602678819172646912 then bif val.tmod 2 != 0 then some (IntKind.i64.wrap (val + 1), true) else some (val, true) else some (val, true)
noncomputable def g_spec_Nearest : Sg := ⟨i_spec_Nearest, o_spec_Nearest, Int × Bool, fun y => ((((y.1, ()), (y.2, ()), ()), ()), ()), fun x => spec_Nearest x.1.1⟩
noncomputable def C_spec_Nearest : Ctx := ⟨35, tiOf Try.prog, gl, sgOf [(144, g_spec_l1Whole)], []⟩
noncomputable def r_spec_Nearest : AExit → Env → Option (Int × Bool) := retK C_spec_Nearest 0 o_spec_Nearest (fun y => (y.1.1.1.1, y.1.1.2.1.1)) Try.f139.results.toList
theorem e_spec_Nearest : Sound Try.prog gl 139 g_spec_Nearest :=
  sound_plain (C := C_spec_Nearest) ⟨fun _ _ h => h, by kernel_rfl⟩ (sgOf_all' ⟨.inl ⟨by kernel_rfl, e_spec_l1Whole⟩, trivial⟩) 139 Try.f139 g_spec_Nearest (fun y => (y.1.1.1.1, y.1.1.2.1.1)) (by kernel_rfl) (by kernel_rfl) (by kernel_rfl) (by kernel_rfl) (by kernel_rfl) (by kernel_rfl) (fun _ => rfl) (fun x => by kernel_rfl)
-- loop.example/g00051/impl.bitsOf
noncomputable def i_impl_bitsOf : Shape := ⟨[(0, .agg [.int .i64, .int .i64, .int .i64, .int .i64]), (1, .c (.flt))], []⟩
noncomputable def o_impl_bitsOf : Shape := ⟨[(0, .tup [(false, [.int .u64]), (false, [.bool])])], []⟩
noncomputable def impl_bitsOf (a0 : Int) (a1 : Int) (a2 : Int) (a3 : Int) (a4 : Nat) : Option (Int × Bool) :=
  (impl_missing a4).bind fun val => bif val then (impl_ones a1).bind fun val => some (val, true) else bif decide (a2 ≥ 0) then (impl_ten a2).bind fun val => (impl_Nearest (fmul a4 val)).bind fun val => bif val.snd then (impl_ones a1).bind fun val_1 => (impl_in (IntKind.i64.wrap (val.fst - a3)) 0 (IntKind.i64.wrap (IntKind.i64.wrap val_1 - 1))).bind fun val_2 => some (IntKind.u64.wrap (IntKind.i64.wrap (val.fst - a3)), val_2) else some (IntKind.u64.wrap (IntKind.i64.wrap (val.fst - a3)), false) else (impl_ten (IntKind.i64.wrap (0 - a2))).bind fun val => (impl_Nearest (fdiv a4 val)).bind fun val => bif val.snd then (impl_ones a1).bind fun val_1 => (impl_in (IntKind.i64.wrap (val.fst - a3)) 0 (IntKind.i64.wrap (IntKind.i64.wrap val_1 - 1))).bind fun val_2 => some (IntKind.u64.wrap (IntKind.i64.wrap (val.fst - a3)), val_2) else some (IntKind.u64.wrap (IntKind.i64.wrap (val.fst - a3)), false)
noncomputable def g_impl_bitsOf : Sg := ⟨i_impl_bitsOf, o_impl_bitsOf, Int × Bool, fun y => ((((y.1, ()), (y.2, ()), ()), ()), ()), fun x => impl_bitsOf x.1.1.1 x.1.1.2.1 x.1.1.2.2.1 x.1.1.2.2.2.1 x.1.2.1⟩
noncomputable def C_impl_bitsOf : Ctx := ⟨48, tiOf Try.prog, gl, sgOf [(82, g_impl_missing), (99, g_impl_ones), (100, g_impl_ten), (131, g_impl_Nearest), (81, g_impl_in)], []⟩
noncomputable def r_impl_bitsOf : AExit → Env → Option (Int × Bool) := retK C_impl_bitsOf 0 o_impl_bitsOf (fun y => (y.1.1.1.1, y.1.1.2.1.1)) Try.f107.results.toList
theorem e_impl_bitsOf : Sound Try.prog gl 107 g_impl_bitsOf :=
  sound_plain (C := C_impl_bitsOf) ⟨fun _ _ h => h, by kernel_rfl⟩ (sgOf_all' ⟨.inl ⟨by kernel_rfl, e_impl_missing⟩, .inl ⟨by kernel_rfl, e_impl_ones⟩, .inl ⟨by kernel_rfl, e_impl_ten⟩, .inl ⟨by kernel_rfl, e_impl_Nearest⟩, .inl ⟨by kernel_rfl, e_impl_in⟩, trivial⟩) 107 Try.f107 g_impl_bitsOf (fun y => (y.1.1.1.1, y.1.1.2.1.1)) (by kernel_rfl) (by kernel_rfl) (by kernel_rfl) (by kernel_rfl) (by kernel_rfl) (by kernel_rfl) (fun _ => rfl) (fun x => by kernel_rfl)
-- loop.example/g00051/spec.l7Number
noncomputable def i_spec_l7Number : Shape := ⟨[(0, .agg [.int .i64, .int .i64, .int .i64, .int .i64]), (1, .c (.flt))], []⟩
noncomputable def o_spec_l7Number : Shape := ⟨[(0, .tup [(false, [.int .i64]), (false, [.bool])])], []⟩
noncomputable def spec_l7Number (a0 : Int) (a1 : Int) (a2 : Int) (a3 : Int) (a4 : Nat) : Option (Int × Bool) :=
  (spec_l7Ten a2).bind fun val => bif decide (a2 < 0) then (spec_Nearest (fdiv a4 val)).bind fun val => bif val.snd then bif decide (IntKind.i64.wrap (val.fst - a3) ≥ 0) then bif decide (0 ≤ IntKind.u64.wrap a1) then some (IntKind.i64.wrap (val.fst - a3), decide (IntKind.i64.wrap (val.fst - a3) < IntKind.i64.wrap (IntKind.i64.wrap (1 * 2 ^ min (IntKind.u64.wrap a1).toNat IntKind.i64.bits) - 1))) else none else some (IntKind.i64.wrap (val.fst - a3), false) else some (IntKind.i64.wrap (val.fst - a3), false) else (spec_Nearest (fmul a4 val)).bind fun val => bif val.snd then bif decide (IntKind.i64.wrap (val.fst - a3) ≥ 0) then bif decide (0 ≤ IntKind.u64.wrap a1) then some (IntKind.i64.wrap (val.fst - a3), decide (IntKind.i64.wrap (val.fst - a3) < IntKind.i64.wrap (IntKind.i64.wrap (1 * 2 ^ min (IntKind.u64.wrap a1).toNat IntKind.i64.bits) - 1))) else none else some (IntKind.i64.wrap (val.fst - a3), false) else some (IntKind.i64.wrap (val.fst - a3), false)
noncomputable def g_spec_l7Number : Sg := ⟨i_spec_l7Number, o_spec_l7Number, Int × Bool, fun y => ((((y.1, ()), (y.2, ()), ()), ()), ()), fun x => spec_l7Number x.1.1.1 x.1.1.2.1 x.1.1.2.2.1 x.1.1.2.2.2.1 x.1.2.1⟩
noncomputable def C_spec_l7Number : Ctx := ⟨45, tiOf Try.prog, gl, sgOf [(138, g_spec_l7Ten), (139, g_spec_Nearest)], []⟩
noncomputable def r_spec_l7Number : AExit → Env → Option (Int × Bool) := retK C_spec_l7Number 0 o_spec_l7Number (fun y => (y.1.1.1.1, y.1.1.2.1.1)) Try.f129.results.toList
theorem e_spec_l7Number : Sound Try.prog gl 129 g_spec_l7Number :=
  sound_plain (C := C_spec_l7Number) ⟨fun _ _ h => h, by kernel_rfl⟩ (sgOf_all' ⟨.inl ⟨by kernel_rfl, e_spec_l7Ten⟩, .inl ⟨by kernel_rfl, e_spec_Nearest⟩, trivial⟩) 129 Try.f129 g_spec_l7Number (fun y => (y.1.1.1.1, y.1.1.2.1.1)) (by kernel_rfl) (by kernel_rfl) (by kernel_rfl) (by kernel_rfl) (by kernel_rfl) (by kernel_rfl) (fun _ => rfl) (fun x => by kernel_rfl)
-- loop.example/g00051/spec.l1Minus
noncomputable def i_spec_l1Minus : Shape := ⟨[(0, .c (.flt))], []⟩
noncomputable def o_spec_l1Minus : Shape := ⟨[(0, .c (.bool))], []⟩
noncomputable def spec_l1Minus (a0 : Nat) : Option (Bool) :=
  bif flt a0 0 then some true else bif feq a0 0 then some (flt (fdiv 4607182418800017408 a0) 0) else some false
noncomputable def g_spec_l1Minus : Sg := ⟨i_spec_l1Minus, o_spec_l1Minus, Bool, fun y => ((y, ()), ()), fun x => spec_l1Minus x.1.1⟩
noncomputable def C_spec_l1Minus : Ctx := ⟨16, tiOf Try.prog, gl, sgOf [], []⟩
noncomputable def r_spec_l1Minus : AExit → Env → Option (Bool) := retK C_spec_l1Minus 0 o_spec_l1Minus (fun y => y.1.1) Try.f145.results.toList
theorem e_spec_l1Minus : Sound Try.prog gl 145 g_spec_l1Minus :=
  sound_plain (C := C_spec_l1Minus) ⟨fun _ _ h => h, by kernel_rfl⟩ (sgOf_all' trivial) 145 Try.f145 g_spec_l1Minus (fun y => y.1.1) (by kernel_rfl) (by kernel_rfl) (by kernel_rfl) (by kernel_rfl) (by kernel_rfl) (by kernel_rfl) (fun _ => rfl) (fun x => by kernel_rfl)
-- loop.example/g00051/spec.Same
noncomputable def i_spec_Same : Shape := ⟨[(0, .c (.flt)), (1, .c (.flt))], []⟩
noncomputable def o_spec_Same : Shape := ⟨[(0, .c (.bool))], []⟩
noncomputable def spec_Same (a0 : Nat) (a1 : Nat) : Option (Bool) :=
  bif !feq a0 a0 then bif !feq a0 a0 then some !feq a1 a1 else some false else bif !feq a1 a1 then bif !feq a0 a0 then some !feq a1 a1 else some false else bif feq a0 a1 then (spec_l1Minus a0).bind fun val => (spec_l1Minus a1).bind fun val_1 => some (val == val_1) else some false
noncomputable def g_spec_Same : Sg := ⟨i_spec_Same, o_spec_Same, Bool, fun y => ((y, ()), ()), fun x => spec_Same x.1.1 x.1.2.1⟩
noncomputable def C_spec_Same : Ctx := ⟨31, tiOf Try.prog, gl, sgOf [(145, g_spec_l1Minus)], []⟩
noncomputable def r_spec_Same : AExit → Env → Option (Bool) := retK C_spec_Same 0 o_spec_Same (fun y => y.1.1) Try.f140.results.toList
theorem e_spec_Same : Sound Try.prog gl 140 g_spec_Same :=
  sound_plain (C := C_spec_Same) ⟨fun _ _ h => h, by kernel_rfl⟩ (sgOf_all' ⟨.inl ⟨by kernel_rfl, e_spec_l1Minus⟩, trivial⟩) 140 Try.f140 g_spec_Same (fun y => y.1.1) (by kernel_rfl) (by kernel_rfl) (by kernel_rfl) (by kernel_rfl) (by kernel_rfl) (by kernel_rfl) (fun _ => rfl) (fun x => by kernel_rfl)
-- loop.example/g00051/spec.l5Is
noncomputable def i_spec_l5Is : Shape := ⟨[(0, .c (.flt)), (1, .c (.int .i64)), (2, .c (.int .i64))], []⟩
noncomputable def o_spec_l5Is : Shape := ⟨[(0, .tup [(false, [.int .i64]), (false, [.bool])])], []⟩
noncomputable def spec_l5Is (a0 : Nat) (a1 : Int) (a2 : Int) : Option (Int × Bool) :=
  (spec_Nearest a0).bind fun val => bif !val.snd then some (0, false) else bif decide (val.fst < a1) then some (0, false) else bif decide (val.fst > a2) then some (0, false) else (spec_Same a0 (fofi val.fst)).bind fun val_1 => bif !val_1 then some (0, false) else some (val.fst, true)
noncomputable def g_spec_l5Is : Sg := ⟨i_spec_l5Is, o_spec_l5Is, Int × Bool, fun y => ((((y.1, ()), (y.2, ()), ()), ()), ()), fun x => spec_l5Is x.1.1 x.1.2.1 x.1.2.2.1⟩
noncomputable def C_spec_l5Is : Ctx := ⟨35, tiOf Try.prog, gl, sgOf [(139, g_spec_Nearest), (140, g_spec_Same)], []⟩
noncomputable def r_spec_l5Is : AExit → Env → Option (Int × Bool) := retK C_spec_l5Is 0 o_spec_l5Is (fun y => (y.1.1.1.1, y.1.1.2.1.1)) Try.f128.results.toList
theorem e_spec_l5Is : Sound Try.prog gl 128 g_spec_l5Is :=
  sound_plain (C := C_spec_l5Is) ⟨fun _ _ h => h, by kernel_rfl⟩ (sgOf_all' ⟨.inl ⟨by kernel_rfl, e_spec_Nearest⟩, .inl ⟨by kernel_rfl, e_spec_Same⟩, trivial⟩) 128 Try.f128 g_spec_l5Is (fun y => (y.1.1.1.1, y.1.1.2.1.1)) (by kernel_rfl) (by kernel_rfl) (by kernel_rfl) (by kernel_rfl) (by kernel_rfl) (by kernel_rfl) (fun _ => rfl) (fun x => by kernel_rfl)
-- loop.example/g00051/impl.Same
noncomputable def i_impl_Same : Shape := ⟨[(0, .c (.flt)), (1, .c (.flt))], []⟩
noncomputable def o_impl_Same : Shape := ⟨[(0, .c (.bool))], []⟩
noncomputable def impl_Same (a0 : Nat) (a1 : Nat) : Option (Bool) :=
  (impl_missing a0).bind fun val => bif val then (impl_missing a1).bind fun val => bif val then some true else (dFb a0).bind fun val => (dFb a1).bind fun val_1 => some (val == val_1) else (dFb a0).bind fun val => (dFb a1).bind fun val_1 => some (val == val_1)
noncomputable def g_impl_Same : Sg := ⟨i_impl_Same, o_impl_Same, Bool, fun y => ((y, ()), ()), fun x => impl_Same x.1.1 x.1.2.1⟩
noncomputable def C_impl_Same : Ctx := ⟨18, tiOf Try.prog, gl, sgOf [(82, g_impl_missing), (85, gFb)], []⟩
noncomputable def r_impl_Same : AExit → Env → Option (Bool) := retK C_impl_Same 0 o_impl_Same (fun y => y.1.1) Try.f130.results.toList
theorem e_impl_Same : Sound Try.prog gl 130 g_impl_Same :=
  sound_plain (C := C_impl_Same) ⟨fun _ _ h => h, by kernel_rfl⟩ (sgOf_all' ⟨.inl ⟨by kernel_rfl, e_impl_missing⟩, .inr xFb, trivial⟩) 130 Try.f130 g_impl_Same (fun y => y.1.1) (by kernel_rfl) (by kernel_rfl) (by kernel_rfl) (by kernel_rfl) (by kernel_rfl) (by kernel_rfl) (fun _ => rfl) (fun x => by kernel_rfl)
-- loop.example/g00051/impl.wholeOf
noncomputable def i_impl_wholeOf : Shape := ⟨[(0, .c (.flt)), (1, .c (.int .i64)), (2, .c (.int .i64))], []⟩
noncomputable def o_impl_wholeOf : Shape := ⟨[(0, .tup [(false, [.int .i64]), (false, [.bool])])], []⟩
noncomputable def impl_wholeOf (a0 : Nat) (a1 : Int) (a2 : Int) : Option (Int × Bool) :=
  (impl_Known a0).bind fun val => bif !val then some (0, false) else (math_Abs a0).bind fun val => bif fgt val 4831355200913801216 then some (0, false) else (floatToIntVal FloatKind.f64 a0 IntKind.i64).bind fun val => (impl_in val a1 a2).bind fun val_1 => bif val_1 then (impl_Same (fofi val) a0).bind fun val_2 => some (val, val_2) else some (val, false)
noncomputable def g_impl_wholeOf : Sg := ⟨i_impl_wholeOf, o_impl_wholeOf, Int × Bool, fun y => ((((y.1, ()), (y.2, ()), ()), ()), ()), fun x => impl_wholeOf x.1.1 x.1.2.1 x.1.2.2.1⟩
noncomputable def C_impl_wholeOf : Ctx := ⟨30, tiOf Try.prog, gl, sgOf [(47, g_impl_Known), (49, g_math_Abs), (81, g_impl_in), (130, g_impl_Same)], []⟩
noncomputable def r_impl_wholeOf : AExit → Env → Option (Int × Bool) := retK C_impl_wholeOf 0 o_impl_wholeOf (fun y => (y.1.1.1.1, y.1.1.2.1.1)) Try.f104.results.toList
theorem e_impl_wholeOf : Sound Try.prog gl 104 g_impl_wholeOf :=
  sound_plain (C := C_impl_wholeOf) ⟨fun _ _ h => h, by kernel_rfl⟩ (sgOf_all' ⟨.inl ⟨by kernel_rfl, e_impl_Known⟩, .inl ⟨by kernel_rfl, e_math_Abs⟩, .inl ⟨by kernel_rfl, e_impl_in⟩, .inl ⟨by kernel_rfl, e_impl_Same⟩, trivial⟩) 104 Try.f104 g_impl_wholeOf (fun y => (y.1.1.1.1, y.1.1.2.1.1)) (by kernel_rfl) (by kernel_rfl) (by kernel_rfl) (by kernel_rfl) (by kernel_rfl) (by kernel_rfl) (fun _ => rfl) (fun x => by kernel_rfl)
end Go.Proofs.Ytgkejafaggaocaa.PO
