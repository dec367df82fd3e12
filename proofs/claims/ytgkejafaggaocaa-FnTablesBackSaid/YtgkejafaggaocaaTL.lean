/-
  Part of a proof by the engine: texts that a program of ours printed, or plain lemmas on them. No condition but what each theorem says.
-/
import Derived.Test.YtgkejafaggaocaaPO
import Derived.Test.YtgkejafaggaocaaDE
import Derived.Test.YtgkejafaggaocaaEV
import Derived.Test.YtgkejafaggaocaaDR
import Derived.Test.YtgkejafaggaocaaEng5
import Derived.Test.YtgkejafaggaocaaProg
import Derived.KernelRfl
import Derived.Test.YtgkejafaggaocaaDoorsF
set_option linter.unusedVariables false
set_option linter.unusedSimpArgs false
set_option maxRecDepth 100000
namespace Go.Proofs.Ytgkejafaggaocaa.TL
open Go Go.Eng Go.Proofs
open Go.Proofs.Ytgkejafaggaocaa.EX
open Go.Proofs.Ytgkejafaggaocaa.PO hiding gl
open Go.Proofs.Ytgkejafaggaocaa.DE hiding gl
open Go.Proofs.Ytgkejafaggaocaa.EV hiding gl
open Go.Proofs.Ytgkejafaggaocaa.DR hiding gl
noncomputable def gl : Nat → Option (List Cell) := glOf []
theorem gl_PO : ∀ g cs, Go.Proofs.Ytgkejafaggaocaa.PO.gl g = some cs → gl g = some cs := glOf_mono (by intro p hp; cases hp)
theorem gl_DE : ∀ g cs, Go.Proofs.Ytgkejafaggaocaa.DE.gl g = some cs → gl g = some cs := glOf_mono (by intro p hp; cases hp)
theorem gl_EV : ∀ g cs, Go.Proofs.Ytgkejafaggaocaa.EV.gl g = some cs → gl g = some cs := glOf_mono (by intro p hp; cases hp)
theorem gl_DR : ∀ g cs, Go.Proofs.Ytgkejafaggaocaa.DR.gl g = some cs → gl g = some cs := glOf_mono (by intro p hp; cases hp)
-- loop.example/g00051/laws.big
noncomputable def i_laws_big : Shape := ⟨[(0, .c (.sl (.int .u8)))], []⟩
noncomputable def o_laws_big : Shape := ⟨[(0, .c (.bool))], []⟩
noncomputable def laws_big (a0 : List Int) : Option (Bool) :=
  some (decide ((↑a0.length : Int) > 1048576))
noncomputable def g_laws_big : Sg := ⟨i_laws_big, o_laws_big, Bool, fun y => ((y, ()), ()), fun x => laws_big x.1.1⟩
noncomputable def C_laws_big : Ctx := ⟨6, tiOf Try.prog, gl, sgOf [], []⟩
noncomputable def r_laws_big : AExit → Env → Option (Bool) := retK C_laws_big 0 o_laws_big (fun y => y.1.1) Try.f19.results.toList
theorem e_laws_big : Sound Try.prog gl 19 g_laws_big :=
  sound_plain (C := C_laws_big) ⟨fun _ _ h => h, by kernel_rfl⟩ (sgOf_all' trivial) 19 Try.f19 g_laws_big (fun y => y.1.1) (by kernel_rfl) (by kernel_rfl) (by kernel_rfl) (by kernel_rfl) (by kernel_rfl) (by kernel_rfl) (fun _ => rfl) (fun x => by kernel_rfl)
-- (*loop.example/g00051/spec.l1Rd).table
noncomputable def i_spec_l1Rd_table : Shape := ⟨[(0, .c (.ptr 0 0))], [.box 124 [.sl (.int .u8), .int .i64]]⟩
noncomputable def o_spec_l1Rd_table : Shape := ⟨[(0, .c (.ref 1))], [.box 124 [.sl (.int .u8), .int .i64], .lst 89 (.pair (.int .i64) (.pair (.int .i64) (.pair (.int .i64) (.int .i64))))]⟩
noncomputable def s_spec_l1Rd_table_5 : Shape := ⟨[(0, .c (.ptr 0 0)), (3, .c (.ref 1)), (4, .c (.int .i64)), (5, .c (.int .i64)), (6, .c (.int .i64))], [.box 124 [.sl (.int .u8), .int .i64], .lst 89 (.pair (.int .i64) (.pair (.int .i64) (.pair (.int .i64) (.int .i64))))]⟩
noncomputable def spec_l1Rd_table_L5 : Nat → Int → Int → Int → (List Int) → Int → (List (Int × Int × Int × Int)) → Option ((List Int) × Int × (List (Int × Int × Int × Int)))
  | 0, _, _, _, _, _, _ => none
  | k + 1, a0, a1, a2, a3, a4, a5 =>
  bif decide (a2 < a1) then
   (spec_l1Rd_below 3 a3 a4).bind fun val =>
    (spec_l1Rd_below 14 val.snd.fst val.snd.snd).bind fun val_1 =>
     (spec_l1Rd_below 4 val_1.snd.fst val_1.snd.snd).bind fun val_2 =>
      (spec_l1Rd_below 200 val_2.snd.fst val_2.snd.snd).bind fun val_3 =>
       bif decide (a5.length + [(IntKind.i64.wrap (IntKind.i64.wrap (a0 + 1) + val.fst), IntKind.i64.wrap (1 + val_1.fst), IntKind.i64.wrap (val_2.fst - 1), IntKind.i64.wrap (val_3.fst - 100))].length ≤ maxBytes / 32) then
        (spec_l1Rd_once 9 val_3.snd.fst val_3.snd.snd).bind fun val_4 =>
         bif val_4.fst then
          (spec_l1Rd_below 3 val_4.snd.fst val_4.snd.snd).bind fun val_5 =>
           bif decide (0 ≤ val_5.fst) then
            bif decide (val_5.fst < (↑[1, 32, 31].length : Int)) then
             bif decide (val_5.fst < (↑[1, 32, 31].length : Int)) then
              bif decide (0 ≤ a2) then
               bif decide (a2 < (↑(a5 ++ [(IntKind.i64.wrap (IntKind.i64.wrap (a0 + 1) + val.fst), IntKind.i64.wrap (1 + val_1.fst), IntKind.i64.wrap (val_2.fst - 1), IntKind.i64.wrap (val_3.fst - 100))]).length : Int)) then
                (setO K4_0 1 [Cell.int IntKind.i64 (rd (Kind.int IntKind.i64) [1, 32, 31] val_5.fst)] (a5 ++ [(IntKind.i64.wrap (IntKind.i64.wrap (a0 + 1) + val.fst), IntKind.i64.wrap (1 + val_1.fst), IntKind.i64.wrap (val_2.fst - 1), IntKind.i64.wrap (val_3.fst - 100))]) a2).bind fun val_6 =>
                 (spec_l1Rd_below 2 val_5.snd.fst val_5.snd.snd).bind fun val_7 => bif decide (0 ≤ val_7.fst) then bif decide (val_7.fst < (↑[-10, 10].length : Int)) then bif decide (val_7.fst < (↑[-10, 10].length : Int)) then bif decide (0 ≤ a2) then bif decide (a2 < (↑val_6.length : Int)) then (setO K4_0 2 [Cell.int IntKind.i64 (rd (Kind.int IntKind.i64) [-10, 10] val_7.fst)] val_6 a2).bind fun val_8 => (spec_l1Rd_below 2 val_7.snd.fst val_7.snd.snd).bind fun val_9 => bif decide (0 ≤ val_9.fst) then bif decide (val_9.fst < (↑[-1000000000, 1000000000].length : Int)) then bif decide (val_9.fst < (↑[-1000000000, 1000000000].length : Int)) then bif decide (0 ≤ a2) then bif decide (a2 < (↑val_8.length : Int)) then (setO K4_0 3 [Cell.int IntKind.i64 (rd (Kind.int IntKind.i64) [-1000000000, 1000000000] val_9.fst)] val_8 a2).bind fun val_10 => spec_l1Rd_table_L5 k (IntKind.i64.wrap (IntKind.i64.wrap (a0 + 1) + val.fst)) a1 (IntKind.i64.wrap (a2 + 1)) val_9.snd.fst val_9.snd.snd val_10 else none else none else none else none else none else none else none else none else none else none
               else none
              else none
             else none
            else none
           else none
         else spec_l1Rd_table_L5 k (IntKind.i64.wrap (IntKind.i64.wrap (a0 + 1) + val.fst)) a1 (IntKind.i64.wrap (a2 + 1)) val_4.snd.fst val_4.snd.snd (a5 ++ [(IntKind.i64.wrap (IntKind.i64.wrap (a0 + 1) + val.fst), IntKind.i64.wrap (1 + val_1.fst), IntKind.i64.wrap (val_2.fst - 1), IntKind.i64.wrap (val_3.fst - 100))])
       else none
  else some (a3, a4, a5)
noncomputable def j_spec_l1Rd_table : List (Nat × (Nat → Cut ((List Int) × Int × (List (Int × Int × Int × Int))))) := [(5, fun k => ⟨s_spec_l1Rd_table_5, fun x => spec_l1Rd_table_L5 k x.1.2.2.1 x.1.2.2.2.1 x.1.2.2.2.2.1 x.2.1.1 x.2.1.2.1 x.2.2.1⟩)]
noncomputable def spec_l1Rd_table_F (k : Nat) (a0 : List Int) (a1 : Int) : Option ((List Int) × Int × (List (Int × Int × Int × Int))) :=
  (spec_l1Rd_below 4 a0 a1).bind fun val => spec_l1Rd_table_L5 k 1000 (IntKind.i64.wrap (3 + val.fst)) 0 val.snd.fst val.snd.snd []
noncomputable def spec_l1Rd_table (a0 : List Int) (a1 : Int) : Option ((List Int) × Int × (List (Int × Int × Int × Int))) := evF fun k => spec_l1Rd_table_F k a0 a1
noncomputable def g_spec_l1Rd_table : Sg := ⟨i_spec_l1Rd_table, o_spec_l1Rd_table, (List Int) × Int × (List (Int × Int × Int × Int)), fun y => (((), ()), ((y.1, y.2.1, ()), y.2.2, ())), fun x => spec_l1Rd_table x.2.1.1 x.2.1.2.1⟩
noncomputable def C_spec_l1Rd_table : Ctx := ⟨65, tiOf Try.prog, gl, sgOf [(55, g_spec_l1Rd_below), (56, g_spec_l1Rd_once)], []⟩
noncomputable def r_spec_l1Rd_table : AExit → Env → Option ((List Int) × Int × (List (Int × Int × Int × Int))) := retK C_spec_l1Rd_table 1 o_spec_l1Rd_table (fun y => (y.2.1.1, y.2.1.2.1, y.2.2.1)) Try.f108.results.toList
theorem e_spec_l1Rd_table : Sound Try.prog gl 108 g_spec_l1Rd_table :=
  sound_cuts (C := C_spec_l1Rd_table) ⟨fun _ _ h => h, by kernel_rfl⟩ (sgOf_all' ⟨.inl ⟨by kernel_rfl, (Sound.mono gl_DR (by rfl) e_spec_l1Rd_below)⟩, .inl ⟨by kernel_rfl, (Sound.mono gl_DR (by rfl) e_spec_l1Rd_once)⟩, trivial⟩) 108 Try.f108 g_spec_l1Rd_table (fun y => (y.2.1.1, y.2.1.2.1, y.2.2.1)) j_spec_l1Rd_table 1 (by kernel_rfl) (by kernel_rfl) (by kernel_rfl) (by kernel_rfl) (by kernel_rfl) (by kernel_rfl) (fun _ => rfl) (by kernel_rfl) (by kernel_rfl)
    ⟨trivial, s_spec_l1Rd_table_5, fun k x => spec_l1Rd_table_L5 k x.1.2.2.1 x.1.2.2.2.1 x.1.2.2.2.2.1 x.2.1.1 x.2.1.2.1 x.2.2.1, ⟨fun k => by kernel_rfl, fun k y => by kernel_rfl, fun y => by kernel_rfl⟩⟩
    (fun k x => spec_l1Rd_table_F k x.2.1.1 x.2.1.2.1) (fun x => rfl) (fun k x => by kernel_rfl)
-- (*loop.example/g00051/spec.l1Rd).size
noncomputable def i_spec_l1Rd_size : Shape := ⟨[(0, .c (.ptr 0 0)), (1, .c (.int .i64)), (2, .c (.int .i64))], [.box 124 [.sl (.int .u8), .int .i64]]⟩
noncomputable def o_spec_l1Rd_size : Shape := ⟨[(0, .c (.int .i64))], [.box 124 [.sl (.int .u8), .int .i64]]⟩
noncomputable def spec_l1Rd_size (a0 : Int) (a1 : Int) (a2 : List Int) (a3 : Int) : Option (Int × (List Int) × Int) :=
  bif !decide (a0 = 0) then bif decide (IntKind.i64.wrap (1 + IntKind.i64.wrap ((↑a2.length : Int).tdiv a0)) > a1) then (spec_l1Rd_below a1 a2 a3).bind fun val => some (IntKind.i64.wrap (1 + val.fst), val.snd.fst, val.snd.snd) else (spec_l1Rd_below (IntKind.i64.wrap (1 + IntKind.i64.wrap ((↑a2.length : Int).tdiv a0))) a2 a3).bind fun val => some (IntKind.i64.wrap (1 + val.fst), val.snd.fst, val.snd.snd) else none
noncomputable def g_spec_l1Rd_size : Sg := ⟨i_spec_l1Rd_size, o_spec_l1Rd_size, Int × (List Int) × Int, fun y => ((y.1, ()), ((y.2.1, y.2.2, ()), ())), fun x => spec_l1Rd_size x.1.2.1 x.1.2.2.1 x.2.1.1 x.2.1.2.1⟩
noncomputable def C_spec_l1Rd_size : Ctx := ⟨24, tiOf Try.prog, gl, sgOf [(55, g_spec_l1Rd_below)], []⟩
noncomputable def r_spec_l1Rd_size : AExit → Env → Option (Int × (List Int) × Int) := retK C_spec_l1Rd_size 1 o_spec_l1Rd_size (fun y => (y.1.1, y.2.1.1, y.2.1.2.1)) Try.f124.results.toList
theorem e_spec_l1Rd_size : Sound Try.prog gl 124 g_spec_l1Rd_size :=
  sound_plain (C := C_spec_l1Rd_size) ⟨fun _ _ h => h, by kernel_rfl⟩ (sgOf_all' ⟨.inl ⟨by kernel_rfl, (Sound.mono gl_DR (by rfl) e_spec_l1Rd_below)⟩, trivial⟩) 124 Try.f124 g_spec_l1Rd_size (fun y => (y.1.1, y.2.1.1, y.2.1.2.1)) (by kernel_rfl) (by kernel_rfl) (by kernel_rfl) (by kernel_rfl) (by kernel_rfl) (by kernel_rfl) (fun _ => rfl) (fun x => by kernel_rfl)
-- (*loop.example/g00051/spec.l1Rd).plan
noncomputable def i_spec_l1Rd_plan : Shape := ⟨[(0, .c (.ptr 0 0)), (1, .c (.ref 1)), (2, .c (.int .i64)), (3, .c (.bool))], [.box 124 [.sl (.int .u8), .int .i64], .lst 89 (.pair (.int .i64) (.pair (.int .i64) (.pair (.int .i64) (.int .i64))))]⟩
noncomputable def o_spec_l1Rd_plan : Shape := ⟨[(0, .c (.ref 2))], [.box 124 [.sl (.int .u8), .int .i64], .lst 89 (.pair (.int .i64) (.pair (.int .i64) (.pair (.int .i64) (.int .i64)))), .lst 2 (.int .i64)]⟩
noncomputable def s_spec_l1Rd_plan_4 : Shape := ⟨[(0, .c (.ptr 0 0)), (1, .c (.ref 1)), (2, .c (.int .i64)), (3, .c (.bool)), (9, .c (.int .i64)), (10, .c (.ref 2)), (11, .c (.int .i64))], [.box 124 [.sl (.int .u8), .int .i64], .lst 89 (.pair (.int .i64) (.pair (.int .i64) (.pair (.int .i64) (.int .i64)))), .lst 2 (.int .i64)]⟩
noncomputable def spec_l1Rd_plan_L4 (rc : Int → Bool → (List Int) → Int → (List (Int × Int × Int × Int)) → Option ((List Int) × Int × (List (Int × Int × Int × Int)) × (List Int))) : Nat → Int → Bool → Int → Int → (List Int) → Int → (List (Int × Int × Int × Int)) → (List Int) → Option ((List Int) × Int × (List (Int × Int × Int × Int)) × (List Int))
  | 0, _, _, _, _, _, _, _, _ => none
  | k + 1, a0, a1, a2, a3, a4, a5, a6, a7 =>
  bif decide (a3 < a2) then
   (spec_l1Rd_below 9 a4 a5).bind fun val =>
    bif val.fst == 8 then
     bif decide (a0 < 2) then (spec_l1Rd_below (↑a6.length : Int) val.snd.fst val.snd.snd).bind fun val => bif decide (0 ≤ val.fst) then bif decide (val.fst < (↑a6.length : Int)) then bif decide (val.fst < (↑a6.length : Int)) then bif decide (a7.length + [(rd K4_0 a6 val.fst).fst].length ≤ maxBytes / 8) then spec_l1Rd_plan_L4 rc k a0 a1 a2 (IntKind.i64.wrap (a3 + 1)) val.snd.fst val.snd.snd a6 (a7 ++ [(rd K4_0 a6 val.fst).fst]) else none else none else none else none
     else
      bif val.fst == 8 then
       (rc (IntKind.i64.wrap (a0.tdiv 2)) a1 val.snd.fst val.snd.snd a6).bind fun val =>
        (spec_l1Rd_below 4 val.fst val.snd.fst).bind fun val_1 =>
         bif a1 then
          (spec_l1Rd_once 2 val_1.snd.fst val_1.snd.snd).bind fun val_2 =>
           bif val_2.fst then bif decide ((↑val.snd.snd.snd.length : Int) < 90) then bif decide (a7.length + [IntKind.i64.wrap (IntKind.i64.wrap (100000 + IntKind.i64.wrap (1000 * (↑val.snd.snd.snd.length : Int))) + 0)].length ≤ maxBytes / 8) then bif decide ((a7 ++ [IntKind.i64.wrap (IntKind.i64.wrap (100000 + IntKind.i64.wrap (1000 * (↑val.snd.snd.snd.length : Int))) + 0)]).length + val.snd.snd.snd.length ≤ maxBytes / 8) then spec_l1Rd_plan_L4 rc k a0 a1 a2 (IntKind.i64.wrap (a3 + 1)) val_2.snd.fst val_2.snd.snd val.snd.snd.fst (a7 ++ [IntKind.i64.wrap (IntKind.i64.wrap (100000 + IntKind.i64.wrap (1000 * (↑val.snd.snd.snd.length : Int))) + 0)] ++ val.snd.snd.snd) else none else none else spec_l1Rd_plan_L4 rc k a0 a1 a2 (IntKind.i64.wrap (a3 + 1)) val_2.snd.fst val_2.snd.snd val.snd.snd.fst a7
           else bif decide ((↑val.snd.snd.snd.length : Int) < 90) then bif decide (a7.length + [IntKind.i64.wrap (IntKind.i64.wrap (100000 + IntKind.i64.wrap (1000 * (↑val.snd.snd.snd.length : Int))) + IntKind.i64.wrap (1 + val_1.fst))].length ≤ maxBytes / 8) then bif decide ((a7 ++ [IntKind.i64.wrap (IntKind.i64.wrap (100000 + IntKind.i64.wrap (1000 * (↑val.snd.snd.snd.length : Int))) + IntKind.i64.wrap (1 + val_1.fst))]).length + val.snd.snd.snd.length ≤ maxBytes / 8) then spec_l1Rd_plan_L4 rc k a0 a1 a2 (IntKind.i64.wrap (a3 + 1)) val_2.snd.fst val_2.snd.snd val.snd.snd.fst (a7 ++ [IntKind.i64.wrap (IntKind.i64.wrap (100000 + IntKind.i64.wrap (1000 * (↑val.snd.snd.snd.length : Int))) + IntKind.i64.wrap (1 + val_1.fst))] ++ val.snd.snd.snd) else none else none else spec_l1Rd_plan_L4 rc k a0 a1 a2 (IntKind.i64.wrap (a3 + 1)) val_2.snd.fst val_2.snd.snd val.snd.snd.fst a7
         else bif decide ((↑val.snd.snd.snd.length : Int) < 90) then bif decide (a7.length + [IntKind.i64.wrap (IntKind.i64.wrap (100000 + IntKind.i64.wrap (1000 * (↑val.snd.snd.snd.length : Int))) + IntKind.i64.wrap (1 + val_1.fst))].length ≤ maxBytes / 8) then bif decide ((a7 ++ [IntKind.i64.wrap (IntKind.i64.wrap (100000 + IntKind.i64.wrap (1000 * (↑val.snd.snd.snd.length : Int))) + IntKind.i64.wrap (1 + val_1.fst))]).length + val.snd.snd.snd.length ≤ maxBytes / 8) then spec_l1Rd_plan_L4 rc k a0 a1 a2 (IntKind.i64.wrap (a3 + 1)) val_1.snd.fst val_1.snd.snd val.snd.snd.fst (a7 ++ [IntKind.i64.wrap (IntKind.i64.wrap (100000 + IntKind.i64.wrap (1000 * (↑val.snd.snd.snd.length : Int))) + IntKind.i64.wrap (1 + val_1.fst))] ++ val.snd.snd.snd) else none else none else spec_l1Rd_plan_L4 rc k a0 a1 a2 (IntKind.i64.wrap (a3 + 1)) val_1.snd.fst val_1.snd.snd val.snd.snd.fst a7
      else
       bif val.fst == 7 then (spec_l1Rd_below 5 val.snd.fst val.snd.snd).bind fun val => bif decide (0 ≤ val.fst) then bif decide (val.fst < (↑[0, 127, 129, 130, 128].length : Int)) then bif decide (val.fst < (↑[0, 127, 129, 130, 128].length : Int)) then bif decide (a7.length + [IntKind.i64.wrap (201000 + rd (Kind.int IntKind.i64) [0, 127, 129, 130, 128] val.fst)].length ≤ maxBytes / 8) then spec_l1Rd_plan_L4 rc k a0 a1 a2 (IntKind.i64.wrap (a3 + 1)) val.snd.fst val.snd.snd a6 (a7 ++ [IntKind.i64.wrap (201000 + rd (Kind.int IntKind.i64) [0, 127, 129, 130, 128] val.fst)]) else none else none else none else none
       else bif val.fst == 6 then (spec_l1Rd_below 4 val.snd.fst val.snd.snd).bind fun val => bif decide (0 ≤ val.fst) then bif decide (val.fst < (↑[0, 127, 129, 128].length : Int)) then bif decide (val.fst < (↑[0, 127, 129, 128].length : Int)) then bif decide (a7.length + [IntKind.i64.wrap (202000 + rd (Kind.int IntKind.i64) [0, 127, 129, 128] val.fst)].length ≤ maxBytes / 8) then spec_l1Rd_plan_L4 rc k a0 a1 a2 (IntKind.i64.wrap (a3 + 1)) val.snd.fst val.snd.snd a6 (a7 ++ [IntKind.i64.wrap (202000 + rd (Kind.int IntKind.i64) [0, 127, 129, 128] val.fst)]) else none else none else none else none else (spec_l1Rd_below (↑a6.length : Int) val.snd.fst val.snd.snd).bind fun val => bif decide (0 ≤ val.fst) then bif decide (val.fst < (↑a6.length : Int)) then bif decide (val.fst < (↑a6.length : Int)) then bif decide (a7.length + [(rd K4_0 a6 val.fst).fst].length ≤ maxBytes / 8) then spec_l1Rd_plan_L4 rc k a0 a1 a2 (IntKind.i64.wrap (a3 + 1)) val.snd.fst val.snd.snd a6 (a7 ++ [(rd K4_0 a6 val.fst).fst]) else none else none else none else none
    else
     bif val.fst == 8 then
      (rc (IntKind.i64.wrap (a0.tdiv 2)) a1 val.snd.fst val.snd.snd a6).bind fun val =>
       (spec_l1Rd_below 4 val.fst val.snd.fst).bind fun val_1 =>
        bif a1 then
         (spec_l1Rd_once 2 val_1.snd.fst val_1.snd.snd).bind fun val_2 =>
          bif val_2.fst then bif decide ((↑val.snd.snd.snd.length : Int) < 90) then bif decide (a7.length + [IntKind.i64.wrap (IntKind.i64.wrap (100000 + IntKind.i64.wrap (1000 * (↑val.snd.snd.snd.length : Int))) + 0)].length ≤ maxBytes / 8) then bif decide ((a7 ++ [IntKind.i64.wrap (IntKind.i64.wrap (100000 + IntKind.i64.wrap (1000 * (↑val.snd.snd.snd.length : Int))) + 0)]).length + val.snd.snd.snd.length ≤ maxBytes / 8) then spec_l1Rd_plan_L4 rc k a0 a1 a2 (IntKind.i64.wrap (a3 + 1)) val_2.snd.fst val_2.snd.snd val.snd.snd.fst (a7 ++ [IntKind.i64.wrap (IntKind.i64.wrap (100000 + IntKind.i64.wrap (1000 * (↑val.snd.snd.snd.length : Int))) + 0)] ++ val.snd.snd.snd) else none else none else spec_l1Rd_plan_L4 rc k a0 a1 a2 (IntKind.i64.wrap (a3 + 1)) val_2.snd.fst val_2.snd.snd val.snd.snd.fst a7
          else bif decide ((↑val.snd.snd.snd.length : Int) < 90) then bif decide (a7.length + [IntKind.i64.wrap (IntKind.i64.wrap (100000 + IntKind.i64.wrap (1000 * (↑val.snd.snd.snd.length : Int))) + IntKind.i64.wrap (1 + val_1.fst))].length ≤ maxBytes / 8) then bif decide ((a7 ++ [IntKind.i64.wrap (IntKind.i64.wrap (100000 + IntKind.i64.wrap (1000 * (↑val.snd.snd.snd.length : Int))) + IntKind.i64.wrap (1 + val_1.fst))]).length + val.snd.snd.snd.length ≤ maxBytes / 8) then spec_l1Rd_plan_L4 rc k a0 a1 a2 (IntKind.i64.wrap (a3 + 1)) val_2.snd.fst val_2.snd.snd val.snd.snd.fst (a7 ++ [IntKind.i64.wrap (IntKind.i64.wrap (100000 + IntKind.i64.wrap (1000 * (↑val.snd.snd.snd.length : Int))) + IntKind.i64.wrap (1 + val_1.fst))] ++ val.snd.snd.snd) else none else none else spec_l1Rd_plan_L4 rc k a0 a1 a2 (IntKind.i64.wrap (a3 + 1)) val_2.snd.fst val_2.snd.snd val.snd.snd.fst a7
        else bif decide ((↑val.snd.snd.snd.length : Int) < 90) then bif decide (a7.length + [IntKind.i64.wrap (IntKind.i64.wrap (100000 + IntKind.i64.wrap (1000 * (↑val.snd.snd.snd.length : Int))) + IntKind.i64.wrap (1 + val_1.fst))].length ≤ maxBytes / 8) then bif decide ((a7 ++ [IntKind.i64.wrap (IntKind.i64.wrap (100000 + IntKind.i64.wrap (1000 * (↑val.snd.snd.snd.length : Int))) + IntKind.i64.wrap (1 + val_1.fst))]).length + val.snd.snd.snd.length ≤ maxBytes / 8) then spec_l1Rd_plan_L4 rc k a0 a1 a2 (IntKind.i64.wrap (a3 + 1)) val_1.snd.fst val_1.snd.snd val.snd.snd.fst (a7 ++ [IntKind.i64.wrap (IntKind.i64.wrap (100000 + IntKind.i64.wrap (1000 * (↑val.snd.snd.snd.length : Int))) + IntKind.i64.wrap (1 + val_1.fst))] ++ val.snd.snd.snd) else none else none else spec_l1Rd_plan_L4 rc k a0 a1 a2 (IntKind.i64.wrap (a3 + 1)) val_1.snd.fst val_1.snd.snd val.snd.snd.fst a7
     else
      bif val.fst == 7 then (spec_l1Rd_below 5 val.snd.fst val.snd.snd).bind fun val => bif decide (0 ≤ val.fst) then bif decide (val.fst < (↑[0, 127, 129, 130, 128].length : Int)) then bif decide (val.fst < (↑[0, 127, 129, 130, 128].length : Int)) then bif decide (a7.length + [IntKind.i64.wrap (201000 + rd (Kind.int IntKind.i64) [0, 127, 129, 130, 128] val.fst)].length ≤ maxBytes / 8) then spec_l1Rd_plan_L4 rc k a0 a1 a2 (IntKind.i64.wrap (a3 + 1)) val.snd.fst val.snd.snd a6 (a7 ++ [IntKind.i64.wrap (201000 + rd (Kind.int IntKind.i64) [0, 127, 129, 130, 128] val.fst)]) else none else none else none else none
      else bif val.fst == 6 then (spec_l1Rd_below 4 val.snd.fst val.snd.snd).bind fun val => bif decide (0 ≤ val.fst) then bif decide (val.fst < (↑[0, 127, 129, 128].length : Int)) then bif decide (val.fst < (↑[0, 127, 129, 128].length : Int)) then bif decide (a7.length + [IntKind.i64.wrap (202000 + rd (Kind.int IntKind.i64) [0, 127, 129, 128] val.fst)].length ≤ maxBytes / 8) then spec_l1Rd_plan_L4 rc k a0 a1 a2 (IntKind.i64.wrap (a3 + 1)) val.snd.fst val.snd.snd a6 (a7 ++ [IntKind.i64.wrap (202000 + rd (Kind.int IntKind.i64) [0, 127, 129, 128] val.fst)]) else none else none else none else none else (spec_l1Rd_below (↑a6.length : Int) val.snd.fst val.snd.snd).bind fun val => bif decide (0 ≤ val.fst) then bif decide (val.fst < (↑a6.length : Int)) then bif decide (val.fst < (↑a6.length : Int)) then bif decide (a7.length + [(rd K4_0 a6 val.fst).fst].length ≤ maxBytes / 8) then spec_l1Rd_plan_L4 rc k a0 a1 a2 (IntKind.i64.wrap (a3 + 1)) val.snd.fst val.snd.snd a6 (a7 ++ [(rd K4_0 a6 val.fst).fst]) else none else none else none else none
  else some (a4, a5, a6, a7)
noncomputable def j_spec_l1Rd_plan (rc : Int → Bool → (List Int) → Int → (List (Int × Int × Int × Int)) → Option ((List Int) × Int × (List (Int × Int × Int × Int)) × (List Int))) : List (Nat × (Nat → Cut ((List Int) × Int × (List (Int × Int × Int × Int)) × (List Int)))) := [(4, fun k => ⟨s_spec_l1Rd_plan_4, fun x => spec_l1Rd_plan_L4 rc k x.1.2.2.1 x.1.2.2.2.1 x.1.2.2.2.2.1 x.1.2.2.2.2.2.2.1 x.2.1.1 x.2.1.2.1 x.2.2.1 x.2.2.2.1⟩)]
noncomputable def spec_l1Rd_plan_F (rc : Int → Bool → (List Int) → Int → (List (Int × Int × Int × Int)) → Option ((List Int) × Int × (List (Int × Int × Int × Int)) × (List Int))) (k : Nat) (a0 : Int) (a1 : Bool) (a2 : List Int) (a3 : Int) (a4 : List (Int × Int × Int × Int)) : Option ((List Int) × Int × (List (Int × Int × Int × Int)) × (List Int)) :=
  (spec_l1Rd_size 9 a0 a2 a3).bind fun val => spec_l1Rd_plan_L4 rc k a0 a1 val.fst 0 val.snd.fst val.snd.snd a4 []
noncomputable def spec_l1Rd_plan_R : Nat → Int → Bool → (List Int) → Int → (List (Int × Int × Int × Int)) → Option ((List Int) × Int × (List (Int × Int × Int × Int)) × (List Int))
  | 0, _, _, _, _, _ => none
  | m + 1, a0, a1, a2, a3, a4 => evF fun k => spec_l1Rd_plan_F (spec_l1Rd_plan_R m) k a0 a1 a2 a3 a4
noncomputable def spec_l1Rd_plan (a0 : Int) (a1 : Bool) (a2 : List Int) (a3 : Int) (a4 : List (Int × Int × Int × Int)) : Option ((List Int) × Int × (List (Int × Int × Int × Int)) × (List Int)) := evF fun m => spec_l1Rd_plan_R m a0 a1 a2 a3 a4
noncomputable def gR_spec_l1Rd_plan (rc : Int → Bool → (List Int) → Int → (List (Int × Int × Int × Int)) → Option ((List Int) × Int × (List (Int × Int × Int × Int)) × (List Int))) : Sg := ⟨i_spec_l1Rd_plan, o_spec_l1Rd_plan, (List Int) × Int × (List (Int × Int × Int × Int)) × (List Int), fun y => (((), ()), ((y.1, y.2.1, ()), y.2.2.1, y.2.2.2, ())), fun x => rc x.1.2.2.1 x.1.2.2.2.1 x.2.1.1 x.2.1.2.1 x.2.2.1⟩
noncomputable def g_spec_l1Rd_plan : Sg := ⟨i_spec_l1Rd_plan, o_spec_l1Rd_plan, (List Int) × Int × (List (Int × Int × Int × Int)) × (List Int), fun y => (((), ()), ((y.1, y.2.1, ()), y.2.2.1, y.2.2.2, ())), fun x => spec_l1Rd_plan x.1.2.2.1 x.1.2.2.2.1 x.2.1.1 x.2.1.2.1 x.2.2.1⟩
noncomputable def C_spec_l1Rd_plan (rc : Int → Bool → (List Int) → Int → (List (Int × Int × Int × Int)) → Option ((List Int) × Int × (List (Int × Int × Int × Int)) × (List Int))) : Ctx := ⟨98, tiOf Try.prog, gl, sgOf [(124, g_spec_l1Rd_size), (55, g_spec_l1Rd_below), (109, (gR_spec_l1Rd_plan rc)), (56, g_spec_l1Rd_once)], []⟩
noncomputable def r_spec_l1Rd_plan (rc : Int → Bool → (List Int) → Int → (List (Int × Int × Int × Int)) → Option ((List Int) × Int × (List (Int × Int × Int × Int)) × (List Int))) : AExit → Env → Option ((List Int) × Int × (List (Int × Int × Int × Int)) × (List Int)) := retK (C_spec_l1Rd_plan rc) 2 o_spec_l1Rd_plan (fun y => (y.2.1.1, y.2.1.2.1, y.2.2.1, y.2.2.2.1)) Try.f109.results.toList
theorem eR_spec_l1Rd_plan : ∀ m, Sound Try.prog gl 109 (gR_spec_l1Rd_plan (spec_l1Rd_plan_R m))
  | 0 => fun _ _ _ _ _ _ _ h => nomatch h
  | m + 1 => sound_cuts (C := (C_spec_l1Rd_plan (spec_l1Rd_plan_R m))) ⟨fun _ _ h => h, by kernel_rfl⟩ (sgOf_all' ⟨.inl ⟨by kernel_rfl, e_spec_l1Rd_size⟩, .inl ⟨by kernel_rfl, (Sound.mono gl_DR (by rfl) e_spec_l1Rd_below)⟩, .inl ⟨by kernel_rfl, eR_spec_l1Rd_plan m⟩, .inl ⟨by kernel_rfl, (Sound.mono gl_DR (by rfl) e_spec_l1Rd_once)⟩, trivial⟩) 109 Try.f109 (gR_spec_l1Rd_plan (spec_l1Rd_plan_R (m + 1))) (fun y => (y.2.1.1, y.2.1.2.1, y.2.2.1, y.2.2.2.1)) (j_spec_l1Rd_plan (spec_l1Rd_plan_R m)) 1 (by kernel_rfl) (by kernel_rfl) (by kernel_rfl) (by kernel_rfl) (by kernel_rfl) (by kernel_rfl) (fun _ => rfl) (by kernel_rfl) (by kernel_rfl)
    ⟨trivial, s_spec_l1Rd_plan_4, fun k x => spec_l1Rd_plan_L4 (spec_l1Rd_plan_R m) k x.1.2.2.1 x.1.2.2.2.1 x.1.2.2.2.2.1 x.1.2.2.2.2.2.2.1 x.2.1.1 x.2.1.2.1 x.2.2.1 x.2.2.2.1, ⟨fun k => by kernel_rfl, fun k y => by kernel_rfl, fun y => by kernel_rfl⟩⟩
    (fun k x => spec_l1Rd_plan_F (spec_l1Rd_plan_R m) k x.1.2.2.1 x.1.2.2.2.1 x.2.1.1 x.2.1.2.1 x.2.2.1) (fun x => rfl) (fun k x => by kernel_rfl)
theorem e_spec_l1Rd_plan : Sound Try.prog gl 109 g_spec_l1Rd_plan := fun w S vals x y hI hr h => let ⟨m, hm⟩ := evF_some h; eR_spec_l1Rd_plan m w S vals x y hI hr hm
-- loop.example/g00051/spec.l7DrawBoth
noncomputable def i_spec_l7DrawBoth : Shape := ⟨[(0, .c (.ptr 0 0)), (1, .c (.bool))], [.box 124 [.sl (.int .u8), .int .i64]]⟩
noncomputable def o_spec_l7DrawBoth : Shape := ⟨[(0, .tup [(false, [.ref 1]), (false, [.ref 2])])], [.box 124 [.sl (.int .u8), .int .i64], .lst 89 (.pair (.int .i64) (.pair (.int .i64) (.pair (.int .i64) (.int .i64)))), .lst 2 (.int .i64)]⟩
noncomputable def spec_l7DrawBoth (a0 : Bool) (a1 : List Int) (a2 : Int) : Option ((List Int) × Int × (List (Int × Int × Int × Int)) × (List Int)) :=
  (spec_l1Rd_table a1 a2).bind fun val =>
   (spec_l1Rd_plan 8 a0 val.fst val.snd.fst val.snd.snd).bind fun val =>
    bif decide ((↑val.snd.snd.snd.length : Int) > 100) then
     bif decide (0 < (↑val.snd.snd.fst.length : Int)) then
      bif decide (0 < (↑val.snd.snd.fst.length : Int)) then
       (spec_l1Rd_below 40 val.fst val.snd.fst).bind fun val_1 =>
        bif val_1.fst == 0 then (spec_l1Rd_below 2 val_1.snd.fst val_1.snd.snd).bind fun val_2 => bif decide (0 ≤ val_2.fst) then bif decide (val_2.fst < (↑[0, 33].length : Int)) then bif decide (val_2.fst < (↑[0, 33].length : Int)) then bif decide (0 < (↑val.snd.snd.fst.length : Int)) then (setO K4_0 1 [Cell.int IntKind.i64 (rd (Kind.int IntKind.i64) [0, 33] val_2.fst)] val.snd.snd.fst 0).bind fun val_3 => some (val_2.snd.fst, val_2.snd.snd, val_3, [(rd K4_0 val.snd.snd.fst 0).fst]) else none else none else none else none
        else
         bif val_1.fst == 1 then bif decide (0 < (↑val.snd.snd.fst.length : Int)) then bif decide (0 < (↑val.snd.snd.fst.length : Int)) then bif decide (1 < (↑val.snd.snd.fst.length : Int)) then (setO K4_0 0 [Cell.int IntKind.i64 (rd K4_0 val.snd.snd.fst 0).fst] val.snd.snd.fst 1).bind fun val_2 => some (val_1.snd.fst, val_1.snd.snd, val_2, [(rd K4_0 val.snd.snd.fst 0).fst]) else none else none else none
         else
          bif val_1.fst == 2 then (spec_l1Rd_below 8 val_1.snd.fst val_1.snd.snd).bind fun val_2 => bif decide (0 ≤ val_2.fst) then bif decide (val_2.fst < (↑[101001, 100000, 100001, 201256, 203000, 7, -1, 199001].length : Int)) then bif decide (val_2.fst < (↑[101001, 100000, 100001, 201256, 203000, 7, -1, 199001].length : Int)) then some (val_2.snd.fst, val_2.snd.snd, val.snd.snd.fst, [(rd K4_0 val.snd.snd.fst 0).fst] ++ [rd (Kind.int IntKind.i64) [101001, 100000, 100001, 201256, 203000, 7, -1, 199001] val_2.fst]) else none else none else none
          else
           bif val_1.fst == 3 then bif decide (0 < (↑val.snd.snd.fst.length : Int)) then (setO K4_0 2 [Cell.int IntKind.i64 11] val.snd.snd.fst 0).bind fun val_2 => some (val_1.snd.fst, val_1.snd.snd, val_2, [(rd K4_0 val.snd.snd.fst 0).fst]) else none
           else
            bif val_1.fst == 4 then bif decide (0 < (↑val.snd.snd.fst.length : Int)) then bif decide (0 < (↑val.snd.snd.fst.length : Int)) then some (val_1.snd.fst, val_1.snd.snd, val.snd.snd.fst, [(rd K4_0 val.snd.snd.fst 0).fst] ++ [201255, (rd K4_0 val.snd.snd.fst 0).fst]) else none else none
            else bif val_1.fst == 5 then bif decide (0 < (↑val.snd.snd.fst.length : Int)) then bif decide (0 < (↑val.snd.snd.fst.length : Int)) then some (val_1.snd.fst, val_1.snd.snd, val.snd.snd.fst, [(rd K4_0 val.snd.snd.fst 0).fst] ++ [202255, (rd K4_0 val.snd.snd.fst 0).fst]) else none else none else bif val_1.fst == 6 then bif decide (0 < (↑val.snd.snd.fst.length : Int)) then bif decide (0 < (↑val.snd.snd.fst.length : Int)) then some (val_1.snd.fst, val_1.snd.snd, val.snd.snd.fst, [102255, 101030, (rd K4_0 val.snd.snd.fst 0).fst]) else none else none else some (val_1.snd.fst, val_1.snd.snd, val.snd.snd.fst, [(rd K4_0 val.snd.snd.fst 0).fst])
      else none
     else none
    else
     (spec_l1Rd_below 40 val.fst val.snd.fst).bind fun val_1 =>
      bif val_1.fst == 0 then (spec_l1Rd_below 2 val_1.snd.fst val_1.snd.snd).bind fun val_2 => bif decide (0 ≤ val_2.fst) then bif decide (val_2.fst < (↑[0, 33].length : Int)) then bif decide (val_2.fst < (↑[0, 33].length : Int)) then bif decide (0 < (↑val.snd.snd.fst.length : Int)) then (setO K4_0 1 [Cell.int IntKind.i64 (rd (Kind.int IntKind.i64) [0, 33] val_2.fst)] val.snd.snd.fst 0).bind fun val_3 => some (val_2.snd.fst, val_2.snd.snd, val_3, val.snd.snd.snd) else none else none else none else none
      else
       bif val_1.fst == 1 then bif decide (0 < (↑val.snd.snd.fst.length : Int)) then bif decide (0 < (↑val.snd.snd.fst.length : Int)) then bif decide (1 < (↑val.snd.snd.fst.length : Int)) then (setO K4_0 0 [Cell.int IntKind.i64 (rd K4_0 val.snd.snd.fst 0).fst] val.snd.snd.fst 1).bind fun val_2 => some (val_1.snd.fst, val_1.snd.snd, val_2, val.snd.snd.snd) else none else none else none
       else
        bif val_1.fst == 2 then (spec_l1Rd_below 8 val_1.snd.fst val_1.snd.snd).bind fun val_2 => bif decide (0 ≤ val_2.fst) then bif decide (val_2.fst < (↑[101001, 100000, 100001, 201256, 203000, 7, -1, 199001].length : Int)) then bif decide (val_2.fst < (↑[101001, 100000, 100001, 201256, 203000, 7, -1, 199001].length : Int)) then bif decide (val.snd.snd.snd.length + [rd (Kind.int IntKind.i64) [101001, 100000, 100001, 201256, 203000, 7, -1, 199001] val_2.fst].length ≤ maxBytes / 8) then some (val_2.snd.fst, val_2.snd.snd, val.snd.snd.fst, val.snd.snd.snd ++ [rd (Kind.int IntKind.i64) [101001, 100000, 100001, 201256, 203000, 7, -1, 199001] val_2.fst]) else none else none else none else none
        else
         bif val_1.fst == 3 then bif decide (0 < (↑val.snd.snd.fst.length : Int)) then (setO K4_0 2 [Cell.int IntKind.i64 11] val.snd.snd.fst 0).bind fun val_2 => some (val_1.snd.fst, val_1.snd.snd, val_2, val.snd.snd.snd) else none
         else
          bif val_1.fst == 4 then bif decide (0 < (↑val.snd.snd.fst.length : Int)) then bif decide (0 < (↑val.snd.snd.fst.length : Int)) then bif decide (val.snd.snd.snd.length + [201255, (rd K4_0 val.snd.snd.fst 0).fst].length ≤ maxBytes / 8) then some (val_1.snd.fst, val_1.snd.snd, val.snd.snd.fst, val.snd.snd.snd ++ [201255, (rd K4_0 val.snd.snd.fst 0).fst]) else none else none else none
          else bif val_1.fst == 5 then bif decide (0 < (↑val.snd.snd.fst.length : Int)) then bif decide (0 < (↑val.snd.snd.fst.length : Int)) then bif decide (val.snd.snd.snd.length + [202255, (rd K4_0 val.snd.snd.fst 0).fst].length ≤ maxBytes / 8) then some (val_1.snd.fst, val_1.snd.snd, val.snd.snd.fst, val.snd.snd.snd ++ [202255, (rd K4_0 val.snd.snd.fst 0).fst]) else none else none else none else bif val_1.fst == 6 then bif decide (0 < (↑val.snd.snd.fst.length : Int)) then bif decide (0 < (↑val.snd.snd.fst.length : Int)) then some (val_1.snd.fst, val_1.snd.snd, val.snd.snd.fst, [102255, 101030, (rd K4_0 val.snd.snd.fst 0).fst]) else none else none else some (val_1.snd.fst, val_1.snd.snd, val.snd.snd.fst, val.snd.snd.snd)
noncomputable def g_spec_l7DrawBoth : Sg := ⟨i_spec_l7DrawBoth, o_spec_l7DrawBoth, (List Int) × Int × (List (Int × Int × Int × Int)) × (List Int), fun y => (((((), ()), ((), ()), ()), ()), ((y.1, y.2.1, ()), y.2.2.1, y.2.2.2, ())), fun x => spec_l7DrawBoth x.1.2.1 x.2.1.1 x.2.1.2.1⟩
noncomputable def C_spec_l7DrawBoth : Ctx := ⟨85, tiOf Try.prog, gl, sgOf [(108, g_spec_l1Rd_table), (109, g_spec_l1Rd_plan), (55, g_spec_l1Rd_below)], []⟩
noncomputable def r_spec_l7DrawBoth : AExit → Env → Option ((List Int) × Int × (List (Int × Int × Int × Int)) × (List Int)) := retK C_spec_l7DrawBoth 1 o_spec_l7DrawBoth (fun y => (y.2.1.1, y.2.1.2.1, y.2.2.1, y.2.2.2.1)) Try.f75.results.toList
theorem e_spec_l7DrawBoth : Sound Try.prog gl 75 g_spec_l7DrawBoth :=
  sound_plain (C := C_spec_l7DrawBoth) ⟨fun _ _ h => h, by kernel_rfl⟩ (sgOf_all' ⟨.inl ⟨by kernel_rfl, e_spec_l1Rd_table⟩, .inl ⟨by kernel_rfl, e_spec_l1Rd_plan⟩, .inl ⟨by kernel_rfl, (Sound.mono gl_DR (by rfl) e_spec_l1Rd_below)⟩, trivial⟩) 75 Try.f75 g_spec_l7DrawBoth (fun y => (y.2.1.1, y.2.1.2.1, y.2.2.1, y.2.2.2.1)) (by kernel_rfl) (by kernel_rfl) (by kernel_rfl) (by kernel_rfl) (by kernel_rfl) (by kernel_rfl) (fun _ => rfl) (fun x => by kernel_rfl)
-- (*loop.example/g00051/spec.l1Rd).word
noncomputable def i_spec_l1Rd_word : Shape := ⟨[(0, .c (.ptr 0 0))], [.box 124 [.sl (.int .u8), .int .i64]]⟩
noncomputable def o_spec_l1Rd_word : Shape := ⟨[(0, .c (.int .u64))], [.box 124 [.sl (.int .u8), .int .i64]]⟩
noncomputable def s_spec_l1Rd_word_3 : Shape := ⟨[(0, .c (.ptr 0 0)), (3, .c (.int .u64)), (4, .c (.int .i64))], [.box 124 [.sl (.int .u8), .int .i64]]⟩
noncomputable def spec_l1Rd_word_L3 : Nat → Int → Int → (List Int) → Int → Option (Int × (List Int) × Int)
  | 0, _, _, _, _ => none
  | k + 1, a0, a1, a2, a3 =>
  bif decide (a1 < 8) then (spec_l1Rd_next a2 a3).bind fun val => spec_l1Rd_word_L3 k (IntKind.u64.wrap (↑(BitVec.ofInt IntKind.u64.bits (IntKind.u64.wrap (a0 * 2 ^ min (Int.toNat 8) IntKind.u64.bits)) ||| BitVec.ofInt IntKind.u64.bits (IntKind.u64.wrap val.fst)).toNat : Int)) (IntKind.i64.wrap (a1 + 1)) val.snd.fst val.snd.snd else some (a0, a2, a3)
noncomputable def j_spec_l1Rd_word : List (Nat × (Nat → Cut (Int × (List Int) × Int))) := [(3, fun k => ⟨s_spec_l1Rd_word_3, fun x => spec_l1Rd_word_L3 k x.1.2.1 x.1.2.2.1 x.2.1.1 x.2.1.2.1⟩)]
noncomputable def spec_l1Rd_word_F (k : Nat) (a0 : List Int) (a1 : Int) : Option (Int × (List Int) × Int) :=
  spec_l1Rd_word_L3 k 0 0 a0 a1
noncomputable def spec_l1Rd_word (a0 : List Int) (a1 : Int) : Option (Int × (List Int) × Int) := evF fun k => spec_l1Rd_word_F k a0 a1
noncomputable def g_spec_l1Rd_word : Sg := ⟨i_spec_l1Rd_word, o_spec_l1Rd_word, Int × (List Int) × Int, fun y => ((y.1, ()), ((y.2.1, y.2.2, ()), ())), fun x => spec_l1Rd_word x.2.1.1 x.2.1.2.1⟩
noncomputable def C_spec_l1Rd_word : Ctx := ⟨16, tiOf Try.prog, gl, sgOf [(78, g_spec_l1Rd_next)], []⟩
noncomputable def r_spec_l1Rd_word : AExit → Env → Option (Int × (List Int) × Int) := retK C_spec_l1Rd_word 1 o_spec_l1Rd_word (fun y => (y.1.1, y.2.1.1, y.2.1.2.1)) Try.f111.results.toList
theorem e_spec_l1Rd_word : Sound Try.prog gl 111 g_spec_l1Rd_word :=
  sound_cuts (C := C_spec_l1Rd_word) ⟨fun _ _ h => h, by kernel_rfl⟩ (sgOf_all' ⟨.inl ⟨by kernel_rfl, (Sound.mono gl_DR (by rfl) e_spec_l1Rd_next)⟩, trivial⟩) 111 Try.f111 g_spec_l1Rd_word (fun y => (y.1.1, y.2.1.1, y.2.1.2.1)) j_spec_l1Rd_word 1 (by kernel_rfl) (by kernel_rfl) (by kernel_rfl) (by kernel_rfl) (by kernel_rfl) (by kernel_rfl) (fun _ => rfl) (by kernel_rfl) (by kernel_rfl)
    ⟨trivial, s_spec_l1Rd_word_3, fun k x => spec_l1Rd_word_L3 k x.1.2.1 x.1.2.2.1 x.2.1.1 x.2.1.2.1, ⟨fun k => by kernel_rfl, fun k y => by kernel_rfl, fun y => by kernel_rfl⟩⟩
    (fun k x => spec_l1Rd_word_F k x.2.1.1 x.2.1.2.1) (fun x => rfl) (fun k x => by kernel_rfl)
-- loop.example/g00051/spec.l7Noise
noncomputable def i_spec_l7Noise : Shape := ⟨[(0, .c (.int .u64)), (1, .c (.int .i64))], []⟩
noncomputable def o_spec_l7Noise : Shape := ⟨[(0, .c (.ref 0))], [.lst 5 (.int .u8)]⟩
noncomputable def s_spec_l7Noise_3 : Shape := ⟨[(0, .c (.int .u64)), (1, .c (.int .i64)), (5, .c (.ref 0)), (6, .c (.int .i64))], [.lst 5 (.int .u8)]⟩
noncomputable def spec_l7Noise_L3 : Nat → Int → Int → Int → (List Int) → Option ((List Int))
  | 0, _, _, _, _ => none
  | k + 1, a0, a1, a2, a3 =>
  bif decide (a2 < a1) then bif decide (a3.length + [IntKind.u8.wrap (IntKind.u64.wrap (↑(BitVec.ofInt IntKind.u64.bits ((IntKind.u64.wrap (IntKind.u64.wrap (a0 * 6364136223846793005) + 1442695040888963407)).fdiv (2 ^ min (Int.toNat 60) IntKind.u64.bits)) &&& BitVec.ofInt IntKind.u64.bits 1).toNat : Int))].length ≤ maxBytes / 1) then spec_l7Noise_L3 k (IntKind.u64.wrap (IntKind.u64.wrap (a0 * 6364136223846793005) + 1442695040888963407)) a1 (IntKind.i64.wrap (a2 + 1)) (a3 ++ [IntKind.u8.wrap (IntKind.u64.wrap (↑(BitVec.ofInt IntKind.u64.bits ((IntKind.u64.wrap (IntKind.u64.wrap (a0 * 6364136223846793005) + 1442695040888963407)).fdiv (2 ^ min (Int.toNat 60) IntKind.u64.bits)) &&& BitVec.ofInt IntKind.u64.bits 1).toNat : Int))]) else none else some a3
noncomputable def j_spec_l7Noise : List (Nat × (Nat → Cut ((List Int)))) := [(3, fun k => ⟨s_spec_l7Noise_3, fun x => spec_l7Noise_L3 k x.1.1 x.1.2.1 x.1.2.2.2.1 x.2.1⟩)]
noncomputable def spec_l7Noise_F (k : Nat) (a0 : Int) (a1 : Int) : Option ((List Int)) :=
  spec_l7Noise_L3 k a0 a1 0 []
noncomputable def spec_l7Noise (a0 : Int) (a1 : Int) : Option ((List Int)) := evF fun k => spec_l7Noise_F k a0 a1
noncomputable def g_spec_l7Noise : Sg := ⟨i_spec_l7Noise, o_spec_l7Noise, (List Int), fun y => (((), ()), (y, ())), fun x => spec_l7Noise x.1.1 x.1.2.1⟩
noncomputable def C_spec_l7Noise : Ctx := ⟨24, tiOf Try.prog, gl, sgOf [], []⟩
noncomputable def r_spec_l7Noise : AExit → Env → Option ((List Int)) := retK C_spec_l7Noise 0 o_spec_l7Noise (fun y => y.2.1) Try.f110.results.toList
theorem e_spec_l7Noise : Sound Try.prog gl 110 g_spec_l7Noise :=
  sound_cuts (C := C_spec_l7Noise) ⟨fun _ _ h => h, by kernel_rfl⟩ (sgOf_all' trivial) 110 Try.f110 g_spec_l7Noise (fun y => y.2.1) j_spec_l7Noise 1 (by kernel_rfl) (by kernel_rfl) (by kernel_rfl) (by kernel_rfl) (by kernel_rfl) (by kernel_rfl) (fun _ => rfl) (by kernel_rfl) (by kernel_rfl)
    ⟨trivial, s_spec_l7Noise_3, fun k x => spec_l7Noise_L3 k x.1.1 x.1.2.1 x.1.2.2.2.1 x.2.1, ⟨fun k => by kernel_rfl, fun k y => by kernel_rfl, fun y => by kernel_rfl⟩⟩
    (fun k x => spec_l7Noise_F k x.1.1 x.1.2.1) (fun x => rfl) (fun k x => by kernel_rfl)
-- loop.example/g00051/spec.l7DrawValues
noncomputable def i_spec_l7DrawValues : Shape := ⟨[(0, .c (.ptr 0 0)), (1, .c (.sl (.pair (.int .i64) (.pair (.int .i64) (.pair (.int .i64) (.int .i64)))))), (2, .c (.sl (.int .i64)))], [.box 124 [.sl (.int .u8), .int .i64]]⟩
noncomputable def o_spec_l7DrawValues : Shape := ⟨[(0, .c (.ref 1))], [.box 124 [.sl (.int .u8), .int .i64], .lst 23 .flt]⟩
noncomputable def s_spec_l7DrawValues_5 : Shape := ⟨[(0, .c (.ptr 0 0)), (7, .c (.ptr 1 0)), (8, .c (.int .i64))], [.box 124 [.sl (.int .u8), .int .i64], .box 86 [.sl (.pair (.int .i64) (.pair (.int .i64) (.pair (.int .i64) (.int .i64)))), .ref 2, .ref 3, .sl (.int .u8), .bool, .int .i64, .int .i64, .int .i64, .int .i64, .int .i64], .lst 133 (.pair .bool (.pair (.int .i64) (.pair (.int .i64) (.pair (.int .i64) (.int .i64))))), .lst 23 .flt]⟩
noncomputable def spec_l7DrawValues_L5 : Nat → Int → (List Int) → Int → (List (Int × Int × Int × Int)) → (List Int) → Bool → Int → Int → Int → Int → Int → (List (Bool × Int × Int × Int × Int)) → (List Nat) → Option ((List Int) × Int × (List Nat))
  | 0, _, _, _, _, _, _, _, _, _, _, _, _, _ => none
  | k + 1, a0, a1, a2, a3, a4, a5, a6, a7, a8, a9, a10, a11, a12 =>
  bif decide (a0 < (↑a12.length : Int)) then bif decide (a0 < (↑a11.length : Int)) then bif decide (0 ≤ a0) then bif decide (a0 < (↑a11.length : Int)) then bif decide (a0 < (↑a11.length : Int)) then bif !(rd K5_DE0 a11 a0).fst then (spec_l1Rd_once 7 a1 a2).bind fun val => bif val.fst then spec_l1None.bind fun val_1 => bif decide (0 ≤ a0) then bif decide (a0 < (↑a12.length : Int)) then (setW a12 a0 val_1).bind fun val_2 => spec_l7DrawValues_L5 k (IntKind.i64.wrap (a0 + 1)) val.snd.fst val.snd.snd a3 a4 a5 a6 a7 a8 a9 a10 a11 val_2 else none else none else spec_l7DrawValues_L5 k (IntKind.i64.wrap (a0 + 1)) val.snd.fst val.snd.snd a3 a4 a5 a6 a7 a8 a9 a10 a11 a12 else spec_l7DrawValues_L5 k (IntKind.i64.wrap (a0 + 1)) a1 a2 a3 a4 a5 a6 a7 a8 a9 a10 a11 a12 else none else none else none else spec_l7DrawValues_L5 k (IntKind.i64.wrap (a0 + 1)) a1 a2 a3 a4 a5 a6 a7 a8 a9 a10 a11 a12 else some (a1, a2, a12)
noncomputable def j_spec_l7DrawValues : List (Nat × (Nat → Cut ((List Int) × Int × (List Nat)))) := [(5, fun k => ⟨s_spec_l7DrawValues_5, fun x => spec_l7DrawValues_L5 k x.1.2.2.1 x.2.1.1 x.2.1.2.1 x.2.2.1.1 x.2.2.1.2.2.2.1 x.2.2.1.2.2.2.2.1 x.2.2.1.2.2.2.2.2.1 x.2.2.1.2.2.2.2.2.2.1 x.2.2.1.2.2.2.2.2.2.2.1 x.2.2.1.2.2.2.2.2.2.2.2.1 x.2.2.1.2.2.2.2.2.2.2.2.2.1 x.2.2.2.1 x.2.2.2.2.1⟩)]
noncomputable def spec_l7DrawValues_F (k : Nat) (a0 : List (Int × Int × Int × Int)) (a1 : List Int) (a2 : List Int) (a3 : Int) : Option ((List Int) × Int × (List Nat)) :=
  (spec_l1Rd_word a2 a3).bind fun val => (spec_l7Noise val.fst 9000).bind fun val_1 => (spec_PlanOk a0 a1).bind fun val_2 => bif val_2 then (spec_l7Walk_run a1 a0 val_1 true 0 0 0 0 0 [] []).bind fun val_3 => spec_l7DrawValues_L5 k 0 val.snd.fst val.snd.snd val_3.fst val_3.snd.fst val_3.snd.snd.fst val_3.snd.snd.snd.fst val_3.snd.snd.snd.snd.fst val_3.snd.snd.snd.snd.snd.fst val_3.snd.snd.snd.snd.snd.snd.fst val_3.snd.snd.snd.snd.snd.snd.snd.fst val_3.snd.snd.snd.snd.snd.snd.snd.snd.fst val_3.snd.snd.snd.snd.snd.snd.snd.snd.snd else spec_l7DrawValues_L5 k 0 val.snd.fst val.snd.snd a0 val_1 true 0 0 0 0 0 [] []
noncomputable def spec_l7DrawValues (a0 : List (Int × Int × Int × Int)) (a1 : List Int) (a2 : List Int) (a3 : Int) : Option ((List Int) × Int × (List Nat)) := evF fun k => spec_l7DrawValues_F k a0 a1 a2 a3
noncomputable def g_spec_l7DrawValues : Sg := ⟨i_spec_l7DrawValues, o_spec_l7DrawValues, (List Int) × Int × (List Nat), fun y => (((), ()), ((y.1, y.2.1, ()), y.2.2, ())), fun x => spec_l7DrawValues x.1.2.1 x.1.2.2.1 x.2.1.1 x.2.1.2.1⟩
noncomputable def C_spec_l7DrawValues : Ctx := ⟨63, tiOf Try.prog, gl, sgOf [(111, g_spec_l1Rd_word), (110, g_spec_l7Noise), (59, g_spec_PlanOk), (61, g_spec_l7Walk_run), (56, g_spec_l1Rd_once), (77, g_spec_l1None)], [14]⟩
noncomputable def r_spec_l7DrawValues : AExit → Env → Option ((List Int) × Int × (List Nat)) := retK C_spec_l7DrawValues 1 o_spec_l7DrawValues (fun y => (y.2.1.1, y.2.1.2.1, y.2.2.1)) Try.f76.results.toList
theorem e_spec_l7DrawValues : Sound Try.prog gl 76 g_spec_l7DrawValues :=
  sound_cuts (C := C_spec_l7DrawValues) ⟨fun _ _ h => h, by kernel_rfl⟩ (sgOf_all' ⟨.inl ⟨by kernel_rfl, e_spec_l1Rd_word⟩, .inl ⟨by kernel_rfl, e_spec_l7Noise⟩, .inl ⟨by kernel_rfl, (Sound.mono gl_PO (by rfl) e_spec_PlanOk)⟩, .inl ⟨by kernel_rfl, (Sound.mono gl_DE (by rfl) e_spec_l7Walk_run)⟩, .inl ⟨by kernel_rfl, (Sound.mono gl_DR (by rfl) e_spec_l1Rd_once)⟩, .inl ⟨by kernel_rfl, (Sound.mono gl_PO (by rfl) e_spec_l1None)⟩, trivial⟩) 76 Try.f76 g_spec_l7DrawValues (fun y => (y.2.1.1, y.2.1.2.1, y.2.2.1)) j_spec_l7DrawValues 1 (by kernel_rfl) (by kernel_rfl) (by kernel_rfl) (by kernel_rfl) (by kernel_rfl) (by kernel_rfl) (fun _ => rfl) (by kernel_rfl) (by kernel_rfl)
    ⟨trivial, s_spec_l7DrawValues_5, fun k x => spec_l7DrawValues_L5 k x.1.2.2.1 x.2.1.1 x.2.1.2.1 x.2.2.1.1 x.2.2.1.2.2.2.1 x.2.2.1.2.2.2.2.1 x.2.2.1.2.2.2.2.2.1 x.2.2.1.2.2.2.2.2.2.1 x.2.2.1.2.2.2.2.2.2.2.1 x.2.2.1.2.2.2.2.2.2.2.2.1 x.2.2.1.2.2.2.2.2.2.2.2.2.1 x.2.2.2.1 x.2.2.2.2.1, ⟨fun k => by kernel_rfl, fun k y => by kernel_rfl, fun y => by kernel_rfl⟩⟩
    (fun k x => spec_l7DrawValues_F k x.1.2.1 x.1.2.2.1 x.2.1.1 x.2.1.2.1) (fun x => rfl) (fun k x => by kernel_rfl)
-- loop.example/g00051/spec.DrawDecode
noncomputable def i_spec_DrawDecode : Shape := ⟨[(0, .c (.sl (.int .u8)))], []⟩
noncomputable def o_spec_DrawDecode : Shape := ⟨[(0, .tup [(false, [.sl (.pair (.int .i64) (.pair (.int .i64) (.pair (.int .i64) (.int .i64))))]), (false, [.sl (.int .i64)]), (false, [.ref 0])])], [.lst 5 (.int .u8)]⟩
noncomputable def spec_DrawDecode (a0 : List Int) : Option ((List (Int × Int × Int × Int)) × (List Int) × (List Int)) :=
  (spec_l1Open a0).bind fun val =>
   (spec_l7DrawBoth true val.fst val.snd).bind fun val =>
    (spec_l7DrawValues val.snd.snd.fst val.snd.snd.snd val.fst val.snd.fst).bind fun val_1 =>
     (spec_Encode val.snd.snd.fst val.snd.snd.snd val_1.snd.snd).bind fun val_2 =>
      (spec_l1Rd_once 3 val_1.fst val_1.snd.fst).bind fun val_3 =>
       bif val_3.fst then
        bif decide ((↑val_2.snd.length : Int) > 0) then
         (spec_l1Rd_below (↑val_2.snd.length : Int) val_3.snd.fst val_3.snd.snd).bind fun val_4 =>
          (spec_l1Rd_next val_4.snd.fst val_4.snd.snd).bind fun val_5 =>
           bif decide (0 ≤ val_4.fst) then bif decide (val_4.fst < (↑val_2.snd.length : Int)) then (setW val_2.snd val_4.fst (IntKind.u8.wrap val_5.fst)).bind fun val_6 => (spec_l1Rd_once 8 val_5.snd.fst val_5.snd.snd).bind fun val_7 => bif val_7.fst then bif decide ((↑val_6.length : Int) > 0) then bif decide (0 ≤ IntKind.i64.wrap ((↑val_6.length : Int) - 1)) && decide (IntKind.i64.wrap ((↑val_6.length : Int) - 1) ≤ (↑val_6.length : Int)) then (spec_l1Rd_once 8 val_7.snd.fst val_7.snd.snd).bind fun val_8 => bif val_8.fst then bif decide ((List.take (IntKind.i64.wrap ((↑val_6.length : Int) - 1)).toNat val_6).length + [0].length ≤ maxBytes / 1) then some (val.snd.snd.fst, val.snd.snd.snd, List.take (IntKind.i64.wrap ((↑val_6.length : Int) - 1)).toNat val_6 ++ [0]) else none else some (val.snd.snd.fst, val.snd.snd.snd, List.take (IntKind.i64.wrap ((↑val_6.length : Int) - 1)).toNat val_6) else none else (spec_l1Rd_once 8 val_7.snd.fst val_7.snd.snd).bind fun val_8 => bif val_8.fst then bif decide (val_6.length + [0].length ≤ maxBytes / 1) then some (val.snd.snd.fst, val.snd.snd.snd, val_6 ++ [0]) else none else some (val.snd.snd.fst, val.snd.snd.snd, val_6) else (spec_l1Rd_once 8 val_7.snd.fst val_7.snd.snd).bind fun val_8 => bif val_8.fst then bif decide (val_6.length + [0].length ≤ maxBytes / 1) then some (val.snd.snd.fst, val.snd.snd.snd, val_6 ++ [0]) else none else some (val.snd.snd.fst, val.snd.snd.snd, val_6) else none else none
        else (spec_l1Rd_once 8 val_3.snd.fst val_3.snd.snd).bind fun val_4 => bif val_4.fst then bif decide ((↑val_2.snd.length : Int) > 0) then bif decide (0 ≤ IntKind.i64.wrap ((↑val_2.snd.length : Int) - 1)) && decide (IntKind.i64.wrap ((↑val_2.snd.length : Int) - 1) ≤ (↑val_2.snd.length : Int)) then (spec_l1Rd_once 8 val_4.snd.fst val_4.snd.snd).bind fun val_5 => bif val_5.fst then bif decide ((List.take (IntKind.i64.wrap ((↑val_2.snd.length : Int) - 1)).toNat val_2.snd).length + [0].length ≤ maxBytes / 1) then some (val.snd.snd.fst, val.snd.snd.snd, List.take (IntKind.i64.wrap ((↑val_2.snd.length : Int) - 1)).toNat val_2.snd ++ [0]) else none else some (val.snd.snd.fst, val.snd.snd.snd, List.take (IntKind.i64.wrap ((↑val_2.snd.length : Int) - 1)).toNat val_2.snd) else none else (spec_l1Rd_once 8 val_4.snd.fst val_4.snd.snd).bind fun val_5 => bif val_5.fst then bif decide (val_2.snd.length + [0].length ≤ maxBytes / 1) then some (val.snd.snd.fst, val.snd.snd.snd, val_2.snd ++ [0]) else none else some (val.snd.snd.fst, val.snd.snd.snd, val_2.snd) else (spec_l1Rd_once 8 val_4.snd.fst val_4.snd.snd).bind fun val_5 => bif val_5.fst then bif decide (val_2.snd.length + [0].length ≤ maxBytes / 1) then some (val.snd.snd.fst, val.snd.snd.snd, val_2.snd ++ [0]) else none else some (val.snd.snd.fst, val.snd.snd.snd, val_2.snd)
       else (spec_l1Rd_once 8 val_3.snd.fst val_3.snd.snd).bind fun val_4 => bif val_4.fst then bif decide ((↑val_2.snd.length : Int) > 0) then bif decide (0 ≤ IntKind.i64.wrap ((↑val_2.snd.length : Int) - 1)) && decide (IntKind.i64.wrap ((↑val_2.snd.length : Int) - 1) ≤ (↑val_2.snd.length : Int)) then (spec_l1Rd_once 8 val_4.snd.fst val_4.snd.snd).bind fun val_5 => bif val_5.fst then bif decide ((List.take (IntKind.i64.wrap ((↑val_2.snd.length : Int) - 1)).toNat val_2.snd).length + [0].length ≤ maxBytes / 1) then some (val.snd.snd.fst, val.snd.snd.snd, List.take (IntKind.i64.wrap ((↑val_2.snd.length : Int) - 1)).toNat val_2.snd ++ [0]) else none else some (val.snd.snd.fst, val.snd.snd.snd, List.take (IntKind.i64.wrap ((↑val_2.snd.length : Int) - 1)).toNat val_2.snd) else none else (spec_l1Rd_once 8 val_4.snd.fst val_4.snd.snd).bind fun val_5 => bif val_5.fst then bif decide (val_2.snd.length + [0].length ≤ maxBytes / 1) then some (val.snd.snd.fst, val.snd.snd.snd, val_2.snd ++ [0]) else none else some (val.snd.snd.fst, val.snd.snd.snd, val_2.snd) else (spec_l1Rd_once 8 val_4.snd.fst val_4.snd.snd).bind fun val_5 => bif val_5.fst then bif decide (val_2.snd.length + [0].length ≤ maxBytes / 1) then some (val.snd.snd.fst, val.snd.snd.snd, val_2.snd ++ [0]) else none else some (val.snd.snd.fst, val.snd.snd.snd, val_2.snd)
noncomputable def g_spec_DrawDecode : Sg := ⟨i_spec_DrawDecode, o_spec_DrawDecode, (List (Int × Int × Int × Int)) × (List Int) × (List Int), fun y => ((((y.1, ()), (y.2.1, ()), ((), ()), ()), ()), (y.2.2, ())), fun x => spec_DrawDecode x.1.1⟩
noncomputable def C_spec_DrawDecode : Ctx := ⟨63, tiOf Try.prog, gl, sgOf [(53, g_spec_l1Open), (75, g_spec_l7DrawBoth), (76, g_spec_l7DrawValues), (36, g_spec_Encode), (56, g_spec_l1Rd_once), (55, g_spec_l1Rd_below), (78, g_spec_l1Rd_next)], [54]⟩
noncomputable def r_spec_DrawDecode : AExit → Env → Option ((List (Int × Int × Int × Int)) × (List Int) × (List Int)) := retK C_spec_DrawDecode 0 o_spec_DrawDecode (fun y => (y.1.1.1.1, y.1.1.2.1.1, y.2.1)) Try.f41.results.toList
theorem e_spec_DrawDecode : Sound Try.prog gl 41 g_spec_DrawDecode :=
  sound_plain (C := C_spec_DrawDecode) ⟨fun _ _ h => h, by kernel_rfl⟩ (sgOf_all' ⟨.inl ⟨by kernel_rfl, (Sound.mono gl_DR (by rfl) e_spec_l1Open)⟩, .inl ⟨by kernel_rfl, e_spec_l7DrawBoth⟩, .inl ⟨by kernel_rfl, e_spec_l7DrawValues⟩, .inl ⟨by kernel_rfl, (Sound.mono gl_EV (by rfl) e_spec_Encode)⟩, .inl ⟨by kernel_rfl, (Sound.mono gl_DR (by rfl) e_spec_l1Rd_once)⟩, .inl ⟨by kernel_rfl, (Sound.mono gl_DR (by rfl) e_spec_l1Rd_below)⟩, .inl ⟨by kernel_rfl, (Sound.mono gl_DR (by rfl) e_spec_l1Rd_next)⟩, trivial⟩) 41 Try.f41 g_spec_DrawDecode (fun y => (y.1.1.1.1, y.1.1.2.1.1, y.2.1)) (by kernel_rfl) (by kernel_rfl) (by kernel_rfl) (by kernel_rfl) (by kernel_rfl) (by kernel_rfl) (fun _ => rfl) (fun x => by kernel_rfl)
-- loop.example/g00051/laws.FnTablesBits
noncomputable def i_laws_FnTablesBits : Shape := ⟨[(0, .c (.sl (.int .u8)))], []⟩
noncomputable def o_laws_FnTablesBits : Shape := ⟨[(0, .c (.bool))], []⟩
noncomputable def laws_FnTablesBits (a0 : List Int) : Option (Bool) :=
  (laws_big a0).bind fun val => bif val then some true else (spec_DrawDecode a0).bind fun val => (spec_Decode val.fst val.snd.fst val.snd.snd).bind fun val_1 => (impl_Decode val.fst val.snd.fst val.snd.snd).bind fun val_2 => bif val_2.fst != val_1.snd then some false else bif val_2.fst != 0 then some ((↑val_2.snd.length : Int) == 0) else (impl_Encode val.fst val.snd.fst val_2.snd).bind fun val_3 => bif val_3.fst == 0 then some ((bytesOf val_3.snd).toList == (bytesOf val.snd.snd).toList) else some false
noncomputable def g_laws_FnTablesBits : Sg := ⟨i_laws_FnTablesBits, o_laws_FnTablesBits, Bool, fun y => ((y, ()), ()), fun x => laws_FnTablesBits x.1.1⟩
noncomputable def C_laws_FnTablesBits : Ctx := ⟨58, tiOf Try.prog, gl, sgOf [(19, g_laws_big), (41, g_spec_DrawDecode), (24, g_spec_Decode), (28, g_impl_Decode), (38, g_impl_Encode)], []⟩
noncomputable def r_laws_FnTablesBits : AExit → Env → Option (Bool) := retK C_laws_FnTablesBits 0 o_laws_FnTablesBits (fun y => y.1.1) Try.f9.results.toList
theorem e_laws_FnTablesBits : Sound Try.prog gl 9 g_laws_FnTablesBits :=
  sound_plain (C := C_laws_FnTablesBits) ⟨fun _ _ h => h, by kernel_rfl⟩ (sgOf_all' ⟨.inl ⟨by kernel_rfl, e_laws_big⟩, .inl ⟨by kernel_rfl, e_spec_DrawDecode⟩, .inl ⟨by kernel_rfl, (Sound.mono gl_DE (by rfl) e_spec_Decode)⟩, .inl ⟨by kernel_rfl, (Sound.mono gl_DE (by rfl) e_impl_Decode)⟩, .inl ⟨by kernel_rfl, (Sound.mono gl_EV (by rfl) e_impl_Encode)⟩, trivial⟩) 9 Try.f9 g_laws_FnTablesBits (fun y => y.1.1) (by kernel_rfl) (by kernel_rfl) (by kernel_rfl) (by kernel_rfl) (by kernel_rfl) (by kernel_rfl) (fun _ => rfl) (fun x => by kernel_rfl)
end Go.Proofs.Ytgkejafaggaocaa.TL
