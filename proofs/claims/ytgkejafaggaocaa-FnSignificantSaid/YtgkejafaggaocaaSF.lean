/-
  Part of a proof by the engine: texts that a program of ours printed, or plain lemmas on them. No condition but what each theorem says.
-/
import Derived.Test.YtgkejafaggaocaaSJ
import Derived.Test.YtgkejafaggaocaaSI
import Derived.Test.YtgkejafaggaocaaDR
import Derived.Test.YtgkejafaggaocaaEng5
import Derived.Test.YtgkejafaggaocaaProg
import Derived.KernelRfl
import Derived.Test.YtgkejafaggaocaaDoors3
import Derived.Test.YtgkejafaggaocaaDoorsF
set_option linter.unusedVariables false
set_option linter.unusedSimpArgs false
set_option maxRecDepth 100000
namespace Go.Proofs.Ytgkejafaggaocaa.SF
open Go Go.Eng Go.Proofs
open Go.Proofs.Ytgkejafaggaocaa.EX
open Go.Proofs.Ytgkejafaggaocaa.SJ hiding gl
open Go.Proofs.Ytgkejafaggaocaa.SI hiding gl
open Go.Proofs.Ytgkejafaggaocaa.DR hiding gl
noncomputable def gl : Nat → Option (List Cell) := glOf []
theorem gl_SJ : ∀ g cs, Go.Proofs.Ytgkejafaggaocaa.SJ.gl g = some cs → gl g = some cs := glOf_mono (by intro p hp; cases hp)
theorem gl_SI : ∀ g cs, Go.Proofs.Ytgkejafaggaocaa.SI.gl g = some cs → gl g = some cs := glOf_mono (by intro p hp; cases hp)
theorem gl_DR : ∀ g cs, Go.Proofs.Ytgkejafaggaocaa.DR.gl g = some cs → gl g = some cs := glOf_mono (by intro p hp; cases hp)
-- loop.example/g00051/laws.big
noncomputable def i_laws_big : Shape := ⟨[(0, .c (.sl (.int .u8)))], []⟩
noncomputable def o_laws_big : Shape := ⟨[(0, .c (.bool))], []⟩
noncomputable def laws_big (a0 : List Int) : Option (Bool) :=
  some (decide ((↑a0.length : Int) > 1048576))
noncomputable def g_laws_big : Sg := ⟨i_laws_big, o_laws_big, Bool, fun y => ((y, ()), ()), fun x => laws_big x.1.1⟩
noncomputable def C_laws_big : Ctx := ⟨6, tiOf Try.prog, gl, sgOf [], []⟩
noncomputable def r_laws_big : AExit → Env → Option (Bool) := retK C_laws_big 0 o_laws_big (fun y => y.1.1) Try.f19.results.toList
theorem e_laws_big : Sound Try.prog gl 19 g_laws_big :=
  sound_plain (C := C_laws_big) ⟨fun _ _ h => h, by kernel_rfl⟩ (sgOf_all' trivial) 19 Try.f19 g_laws_big (fun y => y.1.1) (by kernel_rfl) (by kernel_rfl) (by kernel_rfl) (by kernel_rfl) (by kernel_rfl) (by kernel_rfl) (fun _ => rfl) (fun x => by kernel_rfl)
-- (*loop.example/g00051/spec.l1Rd).size
noncomputable def i_spec_l1Rd_size : Shape := ⟨[(0, .c (.ptr 0 0)), (1, .c (.int .i64)), (2, .c (.int .i64))], [.box 124 [.sl (.int .u8), .int .i64]]⟩
noncomputable def o_spec_l1Rd_size : Shape := ⟨[(0, .c (.int .i64))], [.box 124 [.sl (.int .u8), .int .i64]]⟩
noncomputable def spec_l1Rd_size (a0 : Int) (a1 : Int) (a2 : List Int) (a3 : Int) : Option (Int × (List Int) × Int) :=
  bif !decide (a0 = 0) then bif decide (IntKind.i64.wrap (1 + IntKind.i64.wrap ((↑a2.length : Int).tdiv a0)) > a1) then (spec_l1Rd_below a1 a2 a3).bind fun val => some (IntKind.i64.wrap (1 + val.fst), val.snd.fst, val.snd.snd) else (spec_l1Rd_below (IntKind.i64.wrap (1 + IntKind.i64.wrap ((↑a2.length : Int).tdiv a0))) a2 a3).bind fun val => some (IntKind.i64.wrap (1 + val.fst), val.snd.fst, val.snd.snd) else none
noncomputable def g_spec_l1Rd_size : Sg := ⟨i_spec_l1Rd_size, o_spec_l1Rd_size, Int × (List Int) × Int, fun y => ((y.1, ()), ((y.2.1, y.2.2, ()), ())), fun x => spec_l1Rd_size x.1.2.1 x.1.2.2.1 x.2.1.1 x.2.1.2.1⟩
noncomputable def C_spec_l1Rd_size : Ctx := ⟨24, tiOf Try.prog, gl, sgOf [(55, g_spec_l1Rd_below)], []⟩
noncomputable def r_spec_l1Rd_size : AExit → Env → Option (Int × (List Int) × Int) := retK C_spec_l1Rd_size 1 o_spec_l1Rd_size (fun y => (y.1.1, y.2.1.1, y.2.1.2.1)) Try.f124.results.toList
theorem e_spec_l1Rd_size : Sound Try.prog gl 124 g_spec_l1Rd_size :=
  sound_plain (C := C_spec_l1Rd_size) ⟨fun _ _ h => h, by kernel_rfl⟩ (sgOf_all' ⟨.inl ⟨by kernel_rfl, (Sound.mono gl_DR (by rfl) e_spec_l1Rd_below)⟩, trivial⟩) 124 Try.f124 g_spec_l1Rd_size (fun y => (y.1.1, y.2.1.1, y.2.1.2.1)) (by kernel_rfl) (by kernel_rfl) (by kernel_rfl) (by kernel_rfl) (by kernel_rfl) (by kernel_rfl) (fun _ => rfl) (fun x => by kernel_rfl)
-- (*loop.example/g00051/spec.l1Rd).tenth
noncomputable def i_spec_l1Rd_tenth : Shape := ⟨[(0, .c (.ptr 0 0)), (1, .c (.int .i64)), (2, .c (.int .i64))], [.box 124 [.sl (.int .u8), .int .i64]]⟩
noncomputable def o_spec_l1Rd_tenth : Shape := ⟨[(0, .c (.flt))], [.box 124 [.sl (.int .u8), .int .i64]]⟩
noncomputable def spec_l1Rd_tenth (a0 : Int) (a1 : Int) (a2 : List Int) (a3 : Int) : Option (Nat × (List Int) × Int) :=
  (spec_l1Rd_below (IntKind.i64.wrap (IntKind.i64.wrap (a1 - a0) + 1)) a2 a3).bind fun val => some (fdiv (fofi (IntKind.i64.wrap (a0 + val.fst))) 4621819117588971520, val.snd.fst, val.snd.snd)
noncomputable def g_spec_l1Rd_tenth : Sg := ⟨i_spec_l1Rd_tenth, o_spec_l1Rd_tenth, Nat × (List Int) × Int, fun y => ((y.1, ()), ((y.2.1, y.2.2, ()), ())), fun x => spec_l1Rd_tenth x.1.2.1 x.1.2.2.1 x.2.1.1 x.2.1.2.1⟩
noncomputable def C_spec_l1Rd_tenth : Ctx := ⟨17, tiOf Try.prog, gl, sgOf [(55, g_spec_l1Rd_below)], []⟩
noncomputable def r_spec_l1Rd_tenth : AExit → Env → Option (Nat × (List Int) × Int) := retK C_spec_l1Rd_tenth 1 o_spec_l1Rd_tenth (fun y => (y.1.1, y.2.1.1, y.2.1.2.1)) Try.f125.results.toList
theorem e_spec_l1Rd_tenth : Sound Try.prog gl 125 g_spec_l1Rd_tenth :=
  sound_plain (C := C_spec_l1Rd_tenth) ⟨fun _ _ h => h, by kernel_rfl⟩ (sgOf_all' ⟨.inl ⟨by kernel_rfl, (Sound.mono gl_DR (by rfl) e_spec_l1Rd_below)⟩, trivial⟩) 125 Try.f125 g_spec_l1Rd_tenth (fun y => (y.1.1, y.2.1.1, y.2.1.2.1)) (by kernel_rfl) (by kernel_rfl) (by kernel_rfl) (by kernel_rfl) (by kernel_rfl) (by kernel_rfl) (fun _ => rfl) (fun x => by kernel_rfl)
-- (*loop.example/g00051/spec.l1Rd).ascent
noncomputable def i_spec_l1Rd_ascent : Shape := ⟨[(0, .c (.ptr 0 0)), (1, .c (.int .i64))], [.box 124 [.sl (.int .u8), .int .i64]]⟩
noncomputable def o_spec_l1Rd_ascent : Shape := ⟨[(0, .c (.ref 1))], [.box 124 [.sl (.int .u8), .int .i64], .lst 41 (.pair (.int .i64) .flt)]⟩
noncomputable def s_spec_l1Rd_ascent_6 : Shape := ⟨[(0, .c (.ptr 0 0)), (5, .c (.int .i64)), (6, .c (.ref 1)), (7, .c (.int .i64)), (8, .c (.flt)), (9, .c (.int .i64))], [.box 124 [.sl (.int .u8), .int .i64], .lst 41 (.pair (.int .i64) .flt)]⟩
noncomputable def s_spec_l1Rd_ascent_13 : Shape := ⟨[(6, .c (.ref 1)), (8, .c (.flt))], [.box 124 [.sl (.int .u8), .int .i64], .lst 41 (.pair (.int .i64) .flt)]⟩
mutual
noncomputable def spec_l1Rd_ascent_L6 : Nat → Int → Int → Nat → Int → (List Int) → Int → (List (Int × Nat)) → Option ((List Int) × Int × (List (Int × Nat)))
  | 0, _, _, _, _, _, _, _ => none
  | k + 1, a0, a1, a2, a3, a4, a5, a6 =>
  bif decide (a3 < a0) then bif decide (a1 > 0) then bif decide (a6.length + [(a1, a2)].length ≤ maxBytes / 16) then bif !decide (a0 = 0) then (spec_l1Rd_below (IntKind.i64.wrap ((IntKind.i64.wrap (Int.tdiv 12000 a0)).tdiv 2)) a4 a5).bind fun val => (spec_l1Rd_below 60 val.snd.fst val.snd.snd).bind fun val_1 => (spec_l1Rd_once 6 val_1.snd.fst val_1.snd.snd).bind fun val_2 => bif val_2.fst then (spec_l1Rd_tenth (-600) 200 val_2.snd.fst val_2.snd.snd).bind fun val_3 => spec_l1Rd_ascent_L6 k a0 (IntKind.i64.wrap (IntKind.i64.wrap (a1 - 1) - val.fst)) val_3.fst (IntKind.i64.wrap (a3 + 1)) val_3.snd.fst val_3.snd.snd (a6 ++ [(a1, a2)]) else spec_l1Rd_ascent_L6 k a0 (IntKind.i64.wrap (IntKind.i64.wrap (a1 - 1) - val.fst)) (fadd a2 (fdiv (fofi (IntKind.i64.wrap (val_1.fst - 38))) 4621819117588971520)) (IntKind.i64.wrap (a3 + 1)) val_2.snd.fst val_2.snd.snd (a6 ++ [(a1, a2)]) else none else none else spec_l1Rd_ascent_L13 k a2 a4 a5 a6 else spec_l1Rd_ascent_L13 k a2 a4 a5 a6
noncomputable def spec_l1Rd_ascent_L13 : Nat → Nat → (List Int) → Int → (List (Int × Nat)) → Option ((List Int) × Int × (List (Int × Nat)))
  | 0, _, _, _, _ => none
  | k + 1, a0, a1, a2, a3 =>
  bif decide ((↑a3.length : Int) < 2) then bif decide (0 ≤ IntKind.i64.wrap ((↑a3.length : Int) - 1)) then bif decide (IntKind.i64.wrap ((↑a3.length : Int) - 1) < (↑a3.length : Int)) then bif decide (IntKind.i64.wrap ((↑a3.length : Int) - 1) < (↑a3.length : Int)) then bif decide (a3.length + [(IntKind.i64.wrap ((rd K2_0 a3 (IntKind.i64.wrap ((↑a3.length : Int) - 1))).fst - 1), a0)].length ≤ maxBytes / 16) then spec_l1Rd_ascent_L13 k a0 a1 a2 (a3 ++ [(IntKind.i64.wrap ((rd K2_0 a3 (IntKind.i64.wrap ((↑a3.length : Int) - 1))).fst - 1), a0)]) else none else none else none else none else some (a1, a2, a3)
end
noncomputable def j_spec_l1Rd_ascent : List (Nat × (Nat → Cut ((List Int) × Int × (List (Int × Nat))))) := [(6, fun k => ⟨s_spec_l1Rd_ascent_6, fun x => spec_l1Rd_ascent_L6 k x.1.2.1 x.1.2.2.2.1 x.1.2.2.2.2.1 x.1.2.2.2.2.2.1 x.2.1.1 x.2.1.2.1 x.2.2.1⟩), (13, fun k => ⟨s_spec_l1Rd_ascent_13, fun x => spec_l1Rd_ascent_L13 k x.1.2.1 x.2.1.1 x.2.1.2.1 x.2.2.1⟩)]
noncomputable def spec_l1Rd_ascent_F (k : Nat) (a0 : Int) (a1 : List Int) (a2 : Int) : Option ((List Int) × Int × (List (Int × Nat))) :=
  (spec_l1Rd_size 6 a0 a1 a2).bind fun val => (spec_l1Rd_below 300 val.snd.fst val.snd.snd).bind fun val_1 => (spec_l1Rd_tenth (-100) 300 val_1.snd.fst val_1.snd.snd).bind fun val_2 => spec_l1Rd_ascent_L6 k (IntKind.i64.wrap (1 + val.fst)) (IntKind.i64.wrap (10000 + val_1.fst)) val_2.fst 0 val_2.snd.fst val_2.snd.snd []
noncomputable def spec_l1Rd_ascent (a0 : Int) (a1 : List Int) (a2 : Int) : Option ((List Int) × Int × (List (Int × Nat))) := evF fun k => spec_l1Rd_ascent_F k a0 a1 a2
noncomputable def g_spec_l1Rd_ascent : Sg := ⟨i_spec_l1Rd_ascent, o_spec_l1Rd_ascent, (List Int) × Int × (List (Int × Nat)), fun y => (((), ()), ((y.1, y.2.1, ()), y.2.2, ())), fun x => spec_l1Rd_ascent x.1.2.1 x.2.1.1 x.2.1.2.1⟩
noncomputable def C_spec_l1Rd_ascent : Ctx := ⟨71, tiOf Try.prog, gl, sgOf [(124, g_spec_l1Rd_size), (55, g_spec_l1Rd_below), (125, g_spec_l1Rd_tenth), (56, g_spec_l1Rd_once)], []⟩
noncomputable def r_spec_l1Rd_ascent : AExit → Env → Option ((List Int) × Int × (List (Int × Nat))) := retK C_spec_l1Rd_ascent 1 o_spec_l1Rd_ascent (fun y => (y.2.1.1, y.2.1.2.1, y.2.2.1)) Try.f89.results.toList
theorem e_spec_l1Rd_ascent : Sound Try.prog gl 89 g_spec_l1Rd_ascent :=
  sound_cuts (C := C_spec_l1Rd_ascent) ⟨fun _ _ h => h, by kernel_rfl⟩ (sgOf_all' ⟨.inl ⟨by kernel_rfl, e_spec_l1Rd_size⟩, .inl ⟨by kernel_rfl, (Sound.mono gl_DR (by rfl) e_spec_l1Rd_below)⟩, .inl ⟨by kernel_rfl, e_spec_l1Rd_tenth⟩, .inl ⟨by kernel_rfl, (Sound.mono gl_DR (by rfl) e_spec_l1Rd_once)⟩, trivial⟩) 89 Try.f89 g_spec_l1Rd_ascent (fun y => (y.2.1.1, y.2.1.2.1, y.2.2.1)) j_spec_l1Rd_ascent 2 (by kernel_rfl) (by kernel_rfl) (by kernel_rfl) (by kernel_rfl) (by kernel_rfl) (by kernel_rfl) (fun _ => rfl) (by kernel_rfl) (by kernel_rfl)
    ⟨⟨trivial, s_spec_l1Rd_ascent_6, fun k x => spec_l1Rd_ascent_L6 k x.1.2.1 x.1.2.2.2.1 x.1.2.2.2.2.1 x.1.2.2.2.2.2.1 x.2.1.1 x.2.1.2.1 x.2.2.1, ⟨fun k => by kernel_rfl, fun k y => by kernel_rfl, fun y => by kernel_rfl⟩⟩, s_spec_l1Rd_ascent_13, fun k x => spec_l1Rd_ascent_L13 k x.1.2.1 x.2.1.1 x.2.1.2.1 x.2.2.1, ⟨fun k => by kernel_rfl, fun k y => by kernel_rfl, fun y => by kernel_rfl⟩⟩
    (fun k x => spec_l1Rd_ascent_F k x.1.2.1 x.2.1.1 x.2.1.2.1) (fun x => rfl) (fun k x => by kernel_rfl)
-- loop.example/g00051/spec.l6DrawAny
noncomputable def i_spec_l6DrawAny : Shape := ⟨[(0, .c (.ptr 0 0))], [.box 124 [.sl (.int .u8), .int .i64]]⟩
noncomputable def o_spec_l6DrawAny : Shape := ⟨[(0, .c (.ref 1))], [.box 124 [.sl (.int .u8), .int .i64], .lst 41 (.pair (.int .i64) .flt)]⟩
noncomputable def s_spec_l6DrawAny_20 : Shape := ⟨[(3, .c (.ref 1)), (5, .c (.int .i64)), (6, .c (.int .i64))], [.box 124 [.sl (.int .u8), .int .i64], .lst 41 (.pair (.int .i64) .flt)]⟩
noncomputable def spec_l6DrawAny_L20 : Nat → Int → Int → (List Int) → Int → (List (Int × Nat)) → Option ((List Int) × Int × (List (Int × Nat)))
  | 0, _, _, _, _, _ => none
  | k + 1, a0, a1, a2, a3, a4 =>
  bif decide (a1 < a0) then bif decide (a4.length + [(IntKind.i64.wrap (10000 - a1), fofi (a1.tmod 7))].length ≤ maxBytes / 16) then spec_l6DrawAny_L20 k a0 (IntKind.i64.wrap (a1 + 1)) a2 a3 (a4 ++ [(IntKind.i64.wrap (10000 - a1), fofi (a1.tmod 7))]) else none else some (a2, a3, a4)
noncomputable def j_spec_l6DrawAny : List (Nat × (Nat → Cut ((List Int) × Int × (List (Int × Nat))))) := [(20, fun k => ⟨s_spec_l6DrawAny_20, fun x => spec_l6DrawAny_L20 k x.1.2.1 x.1.2.2.1 x.2.1.1 x.2.1.2.1 x.2.2.1⟩)]
noncomputable def spec_l6DrawAny_F (k : Nat) (a0 : List Int) (a1 : Int) : Option ((List Int) × Int × (List (Int × Nat))) :=
  (spec_l1Rd_ascent 40 a0 a1).bind fun val =>
   (spec_l1Rd_once 7 val.fst val.snd.fst).bind fun val_1 =>
    bif val_1.fst then
     (spec_l1Rd_below (↑val.snd.snd.length : Int) val_1.snd.fst val_1.snd.snd).bind fun val_2 =>
      (spec_l1Rd_below 6 val_2.snd.fst val_2.snd.snd).bind fun val_3 =>
       bif val_3.fst == 0 then spec_l1None.bind fun val_4 => bif decide (0 ≤ val_2.fst) then bif decide (val_2.fst < (↑val.snd.snd.length : Int)) then (setO K2_0 1 [Cell.flt val_4] val.snd.snd val_2.fst).bind fun val => (spec_l1Rd_once 50 val_3.snd.fst val_3.snd.snd).bind fun val_5 => bif val_5.fst then (spec_l1Rd_below 2 val_5.snd.fst val_5.snd.snd).bind fun val_6 => spec_l6DrawAny_L20 k (IntKind.i64.wrap (400 + val_6.fst)) 0 val_6.snd.fst val_6.snd.snd (List.take (Int.toNat 0) val) else some (val_5.snd.fst, val_5.snd.snd, val) else none else none
       else
        bif val_3.fst == 1 then (spec_l1Rd_below 4 val_3.snd.fst val_3.snd.snd).bind fun val_4 => bif decide (0 ≤ val_4.fst) then bif decide (val_4.fst < (↑[4641240890982006784, 13864612927836782592, 4641258483168051200, 13864648112208871424].length : Int)) then bif decide (val_4.fst < (↑[4641240890982006784, 13864612927836782592, 4641258483168051200, 13864648112208871424].length : Int)) then bif decide (0 ≤ val_2.fst) then bif decide (val_2.fst < (↑val.snd.snd.length : Int)) then (setO K2_0 1 [Cell.flt (rd Kind.flt [4641240890982006784, 13864612927836782592, 4641258483168051200, 13864648112208871424] val_4.fst)] val.snd.snd val_2.fst).bind fun val => (spec_l1Rd_once 50 val_4.snd.fst val_4.snd.snd).bind fun val_5 => bif val_5.fst then (spec_l1Rd_below 2 val_5.snd.fst val_5.snd.snd).bind fun val_6 => spec_l6DrawAny_L20 k (IntKind.i64.wrap (400 + val_6.fst)) 0 val_6.snd.fst val_6.snd.snd (List.take (Int.toNat 0) val) else some (val_5.snd.fst, val_5.snd.snd, val) else none else none else none else none else none
        else
         bif val_3.fst == 2 then (spec_l1Rd_below 5 val_3.snd.fst val_3.snd.snd).bind fun val_4 => bif decide (0 ≤ val_4.fst) then bif decide (val_4.fst < (↑[0, 1, 12000, 12001, -5].length : Int)) then bif decide (val_4.fst < (↑[0, 1, 12000, 12001, -5].length : Int)) then bif decide (0 ≤ val_2.fst) then bif decide (val_2.fst < (↑val.snd.snd.length : Int)) then (setO K2_0 0 [Cell.int IntKind.i64 (rd (Kind.int IntKind.i64) [0, 1, 12000, 12001, -5] val_4.fst)] val.snd.snd val_2.fst).bind fun val => (spec_l1Rd_once 50 val_4.snd.fst val_4.snd.snd).bind fun val_5 => bif val_5.fst then (spec_l1Rd_below 2 val_5.snd.fst val_5.snd.snd).bind fun val_6 => spec_l6DrawAny_L20 k (IntKind.i64.wrap (400 + val_6.fst)) 0 val_6.snd.fst val_6.snd.snd (List.take (Int.toNat 0) val) else some (val_5.snd.fst, val_5.snd.snd, val) else none else none else none else none else none
         else
          bif val_3.fst == 3 then bif decide (0 ≤ 1) && decide (1 ≤ (↑val.snd.snd.length : Int)) then (spec_l1Rd_once 50 val_3.snd.fst val_3.snd.snd).bind fun val_4 => bif val_4.fst then (spec_l1Rd_below 2 val_4.snd.fst val_4.snd.snd).bind fun val_5 => spec_l6DrawAny_L20 k (IntKind.i64.wrap (400 + val_5.fst)) 0 val_5.snd.fst val_5.snd.snd (List.take (Int.toNat 0) (List.take (Int.toNat 1) val.snd.snd)) else some (val_4.snd.fst, val_4.snd.snd, List.take (Int.toNat 1) val.snd.snd) else none
          else bif val_3.fst == 4 then (spec_l1Rd_once 50 val_3.snd.fst val_3.snd.snd).bind fun val_4 => bif val_4.fst then (spec_l1Rd_below 2 val_4.snd.fst val_4.snd.snd).bind fun val_5 => spec_l6DrawAny_L20 k (IntKind.i64.wrap (400 + val_5.fst)) 0 val_5.snd.fst val_5.snd.snd (List.take (Int.toNat 0) (List.take (Int.toNat 0) val.snd.snd)) else some (val_4.snd.fst, val_4.snd.snd, List.take (Int.toNat 0) val.snd.snd) else bif decide (0 < (↑val.snd.snd.length : Int)) then bif decide (0 < (↑val.snd.snd.length : Int)) then bif decide (0 ≤ IntKind.i64.wrap ((↑val.snd.snd.length : Int) - 1)) then bif decide (IntKind.i64.wrap ((↑val.snd.snd.length : Int) - 1) < (↑val.snd.snd.length : Int)) then (setO K2_0 0 [Cell.int IntKind.i64 (rd K2_0 val.snd.snd 0).fst] val.snd.snd (IntKind.i64.wrap ((↑val.snd.snd.length : Int) - 1))).bind fun val => (spec_l1Rd_once 50 val_3.snd.fst val_3.snd.snd).bind fun val_4 => bif val_4.fst then (spec_l1Rd_below 2 val_4.snd.fst val_4.snd.snd).bind fun val_5 => spec_l6DrawAny_L20 k (IntKind.i64.wrap (400 + val_5.fst)) 0 val_5.snd.fst val_5.snd.snd (List.take (Int.toNat 0) val) else some (val_4.snd.fst, val_4.snd.snd, val) else none else none else none else none
    else (spec_l1Rd_once 50 val_1.snd.fst val_1.snd.snd).bind fun val_2 => bif val_2.fst then (spec_l1Rd_below 2 val_2.snd.fst val_2.snd.snd).bind fun val_3 => spec_l6DrawAny_L20 k (IntKind.i64.wrap (400 + val_3.fst)) 0 val_3.snd.fst val_3.snd.snd (List.take (Int.toNat 0) val.snd.snd) else some (val_2.snd.fst, val_2.snd.snd, val.snd.snd)
noncomputable def spec_l6DrawAny (a0 : List Int) (a1 : Int) : Option ((List Int) × Int × (List (Int × Nat))) := evF fun k => spec_l6DrawAny_F k a0 a1
noncomputable def g_spec_l6DrawAny : Sg := ⟨i_spec_l6DrawAny, o_spec_l6DrawAny, (List Int) × Int × (List (Int × Nat)), fun y => (((), ()), ((y.1, y.2.1, ()), y.2.2, ())), fun x => spec_l6DrawAny x.2.1.1 x.2.1.2.1⟩
noncomputable def C_spec_l6DrawAny : Ctx := ⟨86, tiOf Try.prog, gl, sgOf [(89, g_spec_l1Rd_ascent), (56, g_spec_l1Rd_once), (55, g_spec_l1Rd_below), (77, g_spec_l1None)], []⟩
noncomputable def r_spec_l6DrawAny : AExit → Env → Option ((List Int) × Int × (List (Int × Nat))) := retK C_spec_l6DrawAny 1 o_spec_l6DrawAny (fun y => (y.2.1.1, y.2.1.2.1, y.2.2.1)) Try.f54.results.toList
theorem e_spec_l6DrawAny : Sound Try.prog gl 54 g_spec_l6DrawAny :=
  sound_cuts (C := C_spec_l6DrawAny) ⟨fun _ _ h => h, by kernel_rfl⟩ (sgOf_all' ⟨.inl ⟨by kernel_rfl, e_spec_l1Rd_ascent⟩, .inl ⟨by kernel_rfl, (Sound.mono gl_DR (by rfl) e_spec_l1Rd_once)⟩, .inl ⟨by kernel_rfl, (Sound.mono gl_DR (by rfl) e_spec_l1Rd_below)⟩, .inl ⟨by kernel_rfl, (Sound.mono gl_SJ (by rfl) e_spec_l1None)⟩, trivial⟩) 54 Try.f54 g_spec_l6DrawAny (fun y => (y.2.1.1, y.2.1.2.1, y.2.2.1)) j_spec_l6DrawAny 1 (by kernel_rfl) (by kernel_rfl) (by kernel_rfl) (by kernel_rfl) (by kernel_rfl) (by kernel_rfl) (fun _ => rfl) (by kernel_rfl) (by kernel_rfl)
    ⟨trivial, s_spec_l6DrawAny_20, fun k x => spec_l6DrawAny_L20 k x.1.2.1 x.1.2.2.1 x.2.1.1 x.2.1.2.1 x.2.2.1, ⟨fun k => by kernel_rfl, fun k y => by kernel_rfl, fun y => by kernel_rfl⟩⟩
    (fun k x => spec_l6DrawAny_F k x.2.1.1 x.2.1.2.1) (fun x => rfl) (fun k x => by kernel_rfl)
-- (*loop.example/g00051/spec.l1Rd).word
noncomputable def i_spec_l1Rd_word : Shape := ⟨[(0, .c (.ptr 0 0))], [.box 124 [.sl (.int .u8), .int .i64]]⟩
noncomputable def o_spec_l1Rd_word : Shape := ⟨[(0, .c (.int .u64))], [.box 124 [.sl (.int .u8), .int .i64]]⟩
noncomputable def s_spec_l1Rd_word_3 : Shape := ⟨[(0, .c (.ptr 0 0)), (3, .c (.int .u64)), (4, .c (.int .i64))], [.box 124 [.sl (.int .u8), .int .i64]]⟩
noncomputable def spec_l1Rd_word_L3 : Nat → Int → Int → (List Int) → Int → Option (Int × (List Int) × Int)
  | 0, _, _, _, _ => none
  | k + 1, a0, a1, a2, a3 =>
  bif decide (a1 < 8) then (spec_l1Rd_next a2 a3).bind fun val => spec_l1Rd_word_L3 k (IntKind.u64.wrap (↑(BitVec.ofInt IntKind.u64.bits (IntKind.u64.wrap (a0 * 2 ^ min (Int.toNat 8) IntKind.u64.bits)) ||| BitVec.ofInt IntKind.u64.bits (IntKind.u64.wrap val.fst)).toNat : Int)) (IntKind.i64.wrap (a1 + 1)) val.snd.fst val.snd.snd else some (a0, a2, a3)
noncomputable def j_spec_l1Rd_word : List (Nat × (Nat → Cut (Int × (List Int) × Int))) := [(3, fun k => ⟨s_spec_l1Rd_word_3, fun x => spec_l1Rd_word_L3 k x.1.2.1 x.1.2.2.1 x.2.1.1 x.2.1.2.1⟩)]
noncomputable def spec_l1Rd_word_F (k : Nat) (a0 : List Int) (a1 : Int) : Option (Int × (List Int) × Int) :=
  spec_l1Rd_word_L3 k 0 0 a0 a1
noncomputable def spec_l1Rd_word (a0 : List Int) (a1 : Int) : Option (Int × (List Int) × Int) := evF fun k => spec_l1Rd_word_F k a0 a1
noncomputable def g_spec_l1Rd_word : Sg := ⟨i_spec_l1Rd_word, o_spec_l1Rd_word, Int × (List Int) × Int, fun y => ((y.1, ()), ((y.2.1, y.2.2, ()), ())), fun x => spec_l1Rd_word x.2.1.1 x.2.1.2.1⟩
noncomputable def C_spec_l1Rd_word : Ctx := ⟨16, tiOf Try.prog, gl, sgOf [(78, g_spec_l1Rd_next)], []⟩
noncomputable def r_spec_l1Rd_word : AExit → Env → Option (Int × (List Int) × Int) := retK C_spec_l1Rd_word 1 o_spec_l1Rd_word (fun y => (y.1.1, y.2.1.1, y.2.1.2.1)) Try.f111.results.toList
theorem e_spec_l1Rd_word : Sound Try.prog gl 111 g_spec_l1Rd_word :=
  sound_cuts (C := C_spec_l1Rd_word) ⟨fun _ _ h => h, by kernel_rfl⟩ (sgOf_all' ⟨.inl ⟨by kernel_rfl, (Sound.mono gl_DR (by rfl) e_spec_l1Rd_next)⟩, trivial⟩) 111 Try.f111 g_spec_l1Rd_word (fun y => (y.1.1, y.2.1.1, y.2.1.2.1)) j_spec_l1Rd_word 1 (by kernel_rfl) (by kernel_rfl) (by kernel_rfl) (by kernel_rfl) (by kernel_rfl) (by kernel_rfl) (fun _ => rfl) (by kernel_rfl) (by kernel_rfl)
    ⟨trivial, s_spec_l1Rd_word_3, fun k x => spec_l1Rd_word_L3 k x.1.2.1 x.1.2.2.1 x.2.1.1 x.2.1.2.1, ⟨fun k => by kernel_rfl, fun k y => by kernel_rfl, fun y => by kernel_rfl⟩⟩
    (fun k x => spec_l1Rd_word_F k x.2.1.1 x.2.1.2.1) (fun x => rfl) (fun k x => by kernel_rfl)
-- (*loop.example/g00051/spec.l1Rd).number
noncomputable def i_spec_l1Rd_number : Shape := ⟨[(0, .c (.ptr 0 0))], [.box 124 [.sl (.int .u8), .int .i64]]⟩
noncomputable def o_spec_l1Rd_number : Shape := ⟨[(0, .c (.int .i64))], [.box 124 [.sl (.int .u8), .int .i64]]⟩
noncomputable def spec_l1Rd_number (a0 : List Int) (a1 : Int) : Option (Int × (List Int) × Int) :=
  (spec_l1Rd_below 5 a0 a1).bind fun val => bif val.fst == 0 then (spec_l1Rd_below 300 val.snd.fst val.snd.snd).bind fun val => some (IntKind.i64.wrap (val.fst - 4), val.snd.fst, val.snd.snd) else bif val.fst == 1 then (spec_l1Rd_below 12 val.snd.fst val.snd.snd).bind fun val => bif decide (0 ≤ val.fst) then bif decide (val.fst < (↑[0, 1, -1, 127, 128, 2147483648, 1000000000000000, 1000000000000001, -1000000000000000, 9007199254740993, 9223372036854775807, -9223372036854775808].length : Int)) then bif decide (val.fst < (↑[0, 1, -1, 127, 128, 2147483648, 1000000000000000, 1000000000000001, -1000000000000000, 9007199254740993, 9223372036854775807, -9223372036854775808].length : Int)) then some (rd (Kind.int IntKind.i64) [0, 1, -1, 127, 128, 2147483648, 1000000000000000, 1000000000000001, -1000000000000000, 9007199254740993, 9223372036854775807, -9223372036854775808] val.fst, val.snd.fst, val.snd.snd) else none else none else none else bif val.fst == 2 then (spec_l1Rd_word val.snd.fst val.snd.snd).bind fun val => (spec_l1Rd_below 60 val.snd.fst val.snd.snd).bind fun val_1 => bif decide (0 ≤ IntKind.u64.wrap (IntKind.i64.wrap (1 + val_1.fst))) then some (IntKind.i64.wrap (val.fst.fdiv (2 ^ min (IntKind.u64.wrap (IntKind.i64.wrap (1 + val_1.fst))).toNat IntKind.u64.bits)), val_1.snd.fst, val_1.snd.snd) else none else (spec_l1Rd_below 20 val.snd.fst val.snd.snd).bind fun val => some (val.fst, val.snd.fst, val.snd.snd)
noncomputable def g_spec_l1Rd_number : Sg := ⟨i_spec_l1Rd_number, o_spec_l1Rd_number, Int × (List Int) × Int, fun y => ((y.1, ()), ((y.2.1, y.2.2, ()), ())), fun x => spec_l1Rd_number x.2.1.1 x.2.1.2.1⟩
noncomputable def C_spec_l1Rd_number : Ctx := ⟨29, tiOf Try.prog, gl, sgOf [(55, g_spec_l1Rd_below), (111, g_spec_l1Rd_word)], []⟩
noncomputable def r_spec_l1Rd_number : AExit → Env → Option (Int × (List Int) × Int) := retK C_spec_l1Rd_number 1 o_spec_l1Rd_number (fun y => (y.1.1, y.2.1.1, y.2.1.2.1)) Try.f90.results.toList
theorem e_spec_l1Rd_number : Sound Try.prog gl 90 g_spec_l1Rd_number :=
  sound_plain (C := C_spec_l1Rd_number) ⟨fun _ _ h => h, by kernel_rfl⟩ (sgOf_all' ⟨.inl ⟨by kernel_rfl, (Sound.mono gl_DR (by rfl) e_spec_l1Rd_below)⟩, .inl ⟨by kernel_rfl, e_spec_l1Rd_word⟩, trivial⟩) 90 Try.f90 g_spec_l1Rd_number (fun y => (y.1.1, y.2.1.1, y.2.1.2.1)) (by kernel_rfl) (by kernel_rfl) (by kernel_rfl) (by kernel_rfl) (by kernel_rfl) (by kernel_rfl) (fun _ => rfl) (fun x => by kernel_rfl)
-- (*loop.example/g00051/spec.l1Rd).float
noncomputable def i_spec_l1Rd_float : Shape := ⟨[(0, .c (.ptr 0 0))], [.box 124 [.sl (.int .u8), .int .i64]]⟩
noncomputable def o_spec_l1Rd_float : Shape := ⟨[(0, .c (.flt))], [.box 124 [.sl (.int .u8), .int .i64]]⟩
noncomputable def spec_l1Rd_float (a0 : List Int) (a1 : Int) : Option (Nat × (List Int) × Int) :=
  (spec_l1Rd_below 8 a0 a1).bind fun val =>
   bif val.fst == 0 then spec_l1None.bind fun val_1 => some (val_1, val.snd.fst, val.snd.snd)
   else
    bif val.fst == 1 then (spec_l1Rd_below 16 val.snd.fst val.snd.snd).bind fun val => bif decide (0 ≤ val.fst) then bif decide (val.fst < (↑[0, fneg 0, 4602678819172646912, 13826050856027422720, 4609434218613702656, 4612811918334230528, 13836183955189006336, 4831355200913801216, 4831355200913801224, 14054727237768577024, 1, 9214871658872686752, fmul 9214871658872686752 4621819117588971520, fmul (fneg 9214871658872686752) 4621819117588971520, 4587366580439587226, 4598175219545276416].length : Int)) then bif decide (val.fst < (↑[0, fneg 0, 4602678819172646912, 13826050856027422720, 4609434218613702656, 4612811918334230528, 13836183955189006336, 4831355200913801216, 4831355200913801224, 14054727237768577024, 1, 9214871658872686752, fmul 9214871658872686752 4621819117588971520, fmul (fneg 9214871658872686752) 4621819117588971520, 4587366580439587226, 4598175219545276416].length : Int)) then some (rd Kind.flt [0, fneg 0, 4602678819172646912, 13826050856027422720, 4609434218613702656, 4612811918334230528, 13836183955189006336, 4831355200913801216, 4831355200913801224, 14054727237768577024, 1, 9214871658872686752, fmul 9214871658872686752 4621819117588971520, fmul (fneg 9214871658872686752) 4621819117588971520, 4587366580439587226, 4598175219545276416] val.fst, val.snd.fst, val.snd.snd) else none else none else none
    else bif val.fst == 2 then (spec_l1Rd_number val.snd.fst val.snd.snd).bind fun val => (spec_l1Rd_below 1000 val.snd.fst val.snd.snd).bind fun val_1 => some (fdiv (fofi val.fst) (fofi (IntKind.i64.wrap (1 + val_1.fst))), val_1.snd.fst, val_1.snd.snd) else bif val.fst == 3 then (spec_l1Rd_below 1000 val.snd.fst val.snd.snd).bind fun val => some (fneg (fdiv (fofi val.fst) 4621819117588971520), val.snd.fst, val.snd.snd) else (spec_l1Rd_below 1000 val.snd.fst val.snd.snd).bind fun val => some (fdiv (fofi val.fst) 4621819117588971520, val.snd.fst, val.snd.snd)
noncomputable def g_spec_l1Rd_float : Sg := ⟨i_spec_l1Rd_float, o_spec_l1Rd_float, Nat × (List Int) × Int, fun y => ((y.1, ()), ((y.2.1, y.2.2, ()), ())), fun x => spec_l1Rd_float x.2.1.1 x.2.1.2.1⟩
noncomputable def C_spec_l1Rd_float : Ctx := ⟨47, tiOf Try.prog, gl, sgOf [(55, g_spec_l1Rd_below), (77, g_spec_l1None), (90, g_spec_l1Rd_number)], []⟩
noncomputable def r_spec_l1Rd_float : AExit → Env → Option (Nat × (List Int) × Int) := retK C_spec_l1Rd_float 1 o_spec_l1Rd_float (fun y => (y.1.1, y.2.1.1, y.2.1.2.1)) Try.f57.results.toList
theorem e_spec_l1Rd_float : Sound Try.prog gl 57 g_spec_l1Rd_float :=
  sound_plain (C := C_spec_l1Rd_float) ⟨fun _ _ h => h, by kernel_rfl⟩ (sgOf_all' ⟨.inl ⟨by kernel_rfl, (Sound.mono gl_DR (by rfl) e_spec_l1Rd_below)⟩, .inl ⟨by kernel_rfl, (Sound.mono gl_SJ (by rfl) e_spec_l1None)⟩, .inl ⟨by kernel_rfl, e_spec_l1Rd_number⟩, trivial⟩) 57 Try.f57 g_spec_l1Rd_float (fun y => (y.1.1, y.2.1.1, y.2.1.2.1)) (by kernel_rfl) (by kernel_rfl) (by kernel_rfl) (by kernel_rfl) (by kernel_rfl) (by kernel_rfl) (fun _ => rfl) (fun x => by kernel_rfl)
-- loop.example/g00051/spec.DrawSignif
noncomputable def i_spec_DrawSignif : Shape := ⟨[(0, .c (.sl (.int .u8)))], []⟩
noncomputable def o_spec_DrawSignif : Shape := ⟨[(0, .tup [(false, [.ref 0]), (false, [.flt])])], [.lst 41 (.pair (.int .i64) .flt)]⟩
noncomputable def spec_DrawSignif (a0 : List Int) : Option (Nat × (List (Int × Nat))) :=
  (spec_l1Open a0).bind fun val => (spec_l6DrawAny val.fst val.snd).bind fun val => (spec_l1Rd_below 40 val.fst val.snd.fst).bind fun val_1 => (spec_l1Rd_once 12 val_1.snd.fst val_1.snd.snd).bind fun val_2 => bif val_2.fst then (spec_l1Rd_float val_2.snd.fst val_2.snd.snd).bind fun val_3 => some (val_3.fst, val.snd.snd) else some (fdiv (fofi val_1.fst) 4621819117588971520, val.snd.snd)
noncomputable def g_spec_DrawSignif : Sg := ⟨i_spec_DrawSignif, o_spec_DrawSignif, Nat × (List (Int × Nat)), fun y => (((((), ()), (y.1, ()), ()), ()), (y.2, ())), fun x => spec_DrawSignif x.1.1⟩
noncomputable def C_spec_DrawSignif : Ctx := ⟨21, tiOf Try.prog, gl, sgOf [(53, g_spec_l1Open), (54, g_spec_l6DrawAny), (55, g_spec_l1Rd_below), (56, g_spec_l1Rd_once), (57, g_spec_l1Rd_float)], []⟩
noncomputable def r_spec_DrawSignif : AExit → Env → Option (Nat × (List (Int × Nat))) := retK C_spec_DrawSignif 0 o_spec_DrawSignif (fun y => (y.1.1.2.1.1, y.2.1)) Try.f20.results.toList
theorem e_spec_DrawSignif : Sound Try.prog gl 20 g_spec_DrawSignif :=
  sound_plain (C := C_spec_DrawSignif) ⟨fun _ _ h => h, by kernel_rfl⟩ (sgOf_all' ⟨.inl ⟨by kernel_rfl, (Sound.mono gl_DR (by rfl) e_spec_l1Open)⟩, .inl ⟨by kernel_rfl, e_spec_l6DrawAny⟩, .inl ⟨by kernel_rfl, (Sound.mono gl_DR (by rfl) e_spec_l1Rd_below)⟩, .inl ⟨by kernel_rfl, (Sound.mono gl_DR (by rfl) e_spec_l1Rd_once)⟩, .inl ⟨by kernel_rfl, e_spec_l1Rd_float⟩, trivial⟩) 20 Try.f20 g_spec_DrawSignif (fun y => (y.1.1.2.1.1, y.2.1)) (by kernel_rfl) (by kernel_rfl) (by kernel_rfl) (by kernel_rfl) (by kernel_rfl) (by kernel_rfl) (fun _ => rfl) (fun x => by kernel_rfl)
-- loop.example/g00051/laws.FnFewer
noncomputable def i_laws_FnFewer : Shape := ⟨[(0, .c (.sl (.int .u8))), (1, .c (.sl (.int .u8)))], []⟩
noncomputable def o_laws_FnFewer : Shape := ⟨[(0, .c (.bool))], []⟩
noncomputable def s_laws_FnFewer_12 : Shape := ⟨[(8, .c (.ref 0)), (9, .c (.ref 1)), (10, .c (.int .i64))], [.lst 2 (.int .i64), .lst 2 (.int .i64)]⟩
noncomputable def s_laws_FnFewer_16 : Shape := ⟨[(8, .c (.ref 0)), (9, .c (.ref 1)), (10, .c (.int .i64)), (11, .c (.bool)), (12, .c (.int .i64))], [.lst 2 (.int .i64), .lst 2 (.int .i64)]⟩
mutual
noncomputable def laws_FnFewer_L12 : Nat → Int → (List Int) → (List Int) → Option (Bool)
  | 0, _, _, _ => none
  | k + 1, a0, a1, a2 =>
  bif decide (a0 < (↑a2.length : Int)) then laws_FnFewer_L16 k a0 false 0 a1 a2 else some true
noncomputable def laws_FnFewer_L16 : Nat → Int → Bool → Int → (List Int) → (List Int) → Option (Bool)
  | 0, _, _, _, _, _ => none
  | k + 1, a0, a1, a2, a3, a4 =>
  bif decide (a2 < (↑a3.length : Int)) then bif a1 then laws_FnFewer_L16 k a0 true (IntKind.i64.wrap (a2 + 1)) a3 a4 else bif decide (0 ≤ a2) then bif decide (a2 < (↑a3.length : Int)) then bif decide (a2 < (↑a3.length : Int)) then bif decide (0 ≤ a0) then bif decide (a0 < (↑a4.length : Int)) then bif decide (a0 < (↑a4.length : Int)) then laws_FnFewer_L16 k a0 (rd (Kind.int IntKind.i64) a3 a2 == rd (Kind.int IntKind.i64) a4 a0) (IntKind.i64.wrap (a2 + 1)) a3 a4 else none else none else none else none else none else none else bif !a1 then some false else laws_FnFewer_L12 k (IntKind.i64.wrap (a0 + 1)) a3 a4
end
noncomputable def j_laws_FnFewer : List (Nat × (Nat → Cut (Bool))) := [(12, fun k => ⟨s_laws_FnFewer_12, fun x => laws_FnFewer_L12 k x.1.2.2.1 x.2.1 x.2.2.1⟩), (16, fun k => ⟨s_laws_FnFewer_16, fun x => laws_FnFewer_L16 k x.1.2.2.1 x.1.2.2.2.1 x.1.2.2.2.2.1 x.2.1 x.2.2.1⟩)]
noncomputable def laws_FnFewer_F (k : Nat) (a0 : List Int) (a1 : List Int) : Option (Bool) :=
  (laws_big a0).bind fun val => bif val then some true else (laws_big a1).bind fun val => bif val then some true else (spec_DrawSignif a0).bind fun val => bif decide ((↑val.snd.length : Int) > 120) then some true else (spec_Signif val.snd val.fst).bind fun val_1 => bif (↑(List.length val_1) : Int) == 0 then some true else bif fgt val.fst 4696837146684686336 then some true else (impl_Signif val.snd val.fst).bind fun val_2 => (impl_Signif val.snd (fadd val.fst (fdiv (fofi ((↑a1.length : Int).tmod 50)) 4621819117588971520))).bind fun val => bif decide ((↑(List.length val) : Int) < 2) then some false else laws_FnFewer_L12 k 0 val_2 val
noncomputable def laws_FnFewer (a0 : List Int) (a1 : List Int) : Option (Bool) := evF fun k => laws_FnFewer_F k a0 a1
noncomputable def g_laws_FnFewer : Sg := ⟨i_laws_FnFewer, o_laws_FnFewer, Bool, fun y => ((y, ()), ()), fun x => laws_FnFewer x.1.1 x.1.2.1⟩
noncomputable def C_laws_FnFewer : Ctx := ⟨80, tiOf Try.prog, gl, sgOf [(19, g_laws_big), (20, g_spec_DrawSignif), (11, g_spec_Signif), (13, g_impl_Signif)], []⟩
noncomputable def r_laws_FnFewer : AExit → Env → Option (Bool) := retK C_laws_FnFewer 0 o_laws_FnFewer (fun y => y.1.1) Try.f4.results.toList
theorem e_laws_FnFewer : Sound Try.prog gl 4 g_laws_FnFewer :=
  sound_cuts (C := C_laws_FnFewer) ⟨fun _ _ h => h, by kernel_rfl⟩ (sgOf_all' ⟨.inl ⟨by kernel_rfl, e_laws_big⟩, .inl ⟨by kernel_rfl, e_spec_DrawSignif⟩, .inl ⟨by kernel_rfl, (Sound.mono gl_SJ (by rfl) e_spec_Signif)⟩, .inl ⟨by kernel_rfl, (Sound.mono gl_SI (by rfl) e_impl_Signif)⟩, trivial⟩) 4 Try.f4 g_laws_FnFewer (fun y => y.1.1) j_laws_FnFewer 2 (by kernel_rfl) (by kernel_rfl) (by kernel_rfl) (by kernel_rfl) (by kernel_rfl) (by kernel_rfl) (fun _ => rfl) (by kernel_rfl) (by kernel_rfl)
    ⟨⟨trivial, s_laws_FnFewer_12, fun k x => laws_FnFewer_L12 k x.1.2.2.1 x.2.1 x.2.2.1, ⟨fun k => by kernel_rfl, fun k y => by kernel_rfl, fun y => by kernel_rfl⟩⟩, s_laws_FnFewer_16, fun k x => laws_FnFewer_L16 k x.1.2.2.1 x.1.2.2.2.1 x.1.2.2.2.2.1 x.2.1 x.2.2.1, ⟨fun k => by kernel_rfl, fun k y => by kernel_rfl, fun y => by kernel_rfl⟩⟩
    (fun k x => laws_FnFewer_F k x.1.1 x.1.2.1) (fun x => rfl) (fun k x => by kernel_rfl)
end Go.Proofs.Ytgkejafaggaocaa.SF
