/-
  Part of a proof by the engine: texts that a program of ours printed, or plain lemmas on them. No condition but what each theorem says.
-/
import Derived.Test.YtgkejafaggaocaaDoorDT
import Derived.Test.YtgkejafaggaocaaDoorNR
import Derived.Test.YtgkejafaggaocaaDoorTD
import Derived.Test.YtgkejafaggaocaaDoorEng5
import Derived.Test.YtgkejafaggaocaaDoorProg
import Derived.KernelRfl
import Derived.Test.YtgkejafaggaocaaDoorDoors1
import Derived.Test.YtgkejafaggaocaaDoorDoorsF
set_option linter.unusedVariables false
set_option linter.unusedSimpArgs false
set_option maxRecDepth 100000
namespace Go.Proofs.YtgkejafaggaocaaDoor.SR
open Go Go.Eng Go.Proofs
open Go.Proofs.YtgkejafaggaocaaDoor.EX
open Go.Proofs.YtgkejafaggaocaaDoor.DT hiding gl
open Go.Proofs.YtgkejafaggaocaaDoor.NR hiding gl
open Go.Proofs.YtgkejafaggaocaaDoor.TD hiding gl
noncomputable def gl : Nat → Option (List Cell) := glOf [(4, L_strconv_uint64pow10.map (Cell.int .u64))]
theorem gl_DT : ∀ g cs, Go.Proofs.YtgkejafaggaocaaDoor.DT.gl g = some cs → gl g = some cs := glOf_mono (by intro p hp; simp only [List.mem_cons, List.not_mem_nil, or_false] at hp; subst hp <;> rfl)
theorem gl_NR : ∀ g cs, Go.Proofs.YtgkejafaggaocaaDoor.NR.gl g = some cs → gl g = some cs := glOf_mono (by intro p hp; cases hp)
theorem gl_TD : ∀ g cs, Go.Proofs.YtgkejafaggaocaaDoor.TD.gl g = some cs → gl g = some cs := glOf_mono (by intro p hp; simp only [List.mem_cons, List.not_mem_nil, or_false] at hp; subst hp <;> rfl)
-- loop.example/g00051/spec.l1None
noncomputable def i_spec_l1None : Shape := ⟨[], []⟩
noncomputable def o_spec_l1None : Shape := ⟨[(0, .c (.flt))], []⟩
noncomputable def spec_l1None : Option (Nat) :=
  some (fdiv 0 0)
noncomputable def g_spec_l1None : Sg := ⟨i_spec_l1None, o_spec_l1None, Nat, fun y => ((y, ()), ()), fun x => spec_l1None ⟩
noncomputable def C_spec_l1None : Ctx := ⟨5, tiOf Tryd.prog, gl, sgOf [], []⟩
noncomputable def r_spec_l1None : AExit → Env → Option (Nat) := retK C_spec_l1None 0 o_spec_l1None (fun y => y.1.1) Tryd.f58.results.toList
theorem e_spec_l1None : Sound Tryd.prog gl 58 g_spec_l1None :=
  sound_plain (C := C_spec_l1None) ⟨fun _ _ h => h, by kernel_rfl⟩ (sgOf_all' trivial) 58 Tryd.f58 g_spec_l1None (fun y => y.1.1) (by kernel_rfl) (by kernel_rfl) (by kernel_rfl) (by kernel_rfl) (by kernel_rfl) (by kernel_rfl) (fun _ => rfl) (fun x => by kernel_rfl)
-- loop.example/g00051/spec.l1Digit
noncomputable def i_spec_l1Digit : Shape := ⟨[(0, .c (.int .u8))], []⟩
noncomputable def o_spec_l1Digit : Shape := ⟨[(0, .c (.bool))], []⟩
noncomputable def spec_l1Digit (a0 : Int) : Option (Bool) :=
  bif decide (a0 ≥ 48) then some (decide (a0 ≤ 57)) else some false
noncomputable def g_spec_l1Digit : Sg := ⟨i_spec_l1Digit, o_spec_l1Digit, Bool, fun y => ((y, ()), ()), fun x => spec_l1Digit x.1.1⟩
noncomputable def C_spec_l1Digit : Ctx := ⟨9, tiOf Tryd.prog, gl, sgOf [], []⟩
noncomputable def r_spec_l1Digit : AExit → Env → Option (Bool) := retK C_spec_l1Digit 0 o_spec_l1Digit (fun y => y.1.1) Tryd.f59.results.toList
theorem e_spec_l1Digit : Sound Tryd.prog gl 59 g_spec_l1Digit :=
  sound_plain (C := C_spec_l1Digit) ⟨fun _ _ h => h, by kernel_rfl⟩ (sgOf_all' trivial) 59 Tryd.f59 g_spec_l1Digit (fun y => y.1.1) (by kernel_rfl) (by kernel_rfl) (by kernel_rfl) (by kernel_rfl) (by kernel_rfl) (by kernel_rfl) (fun _ => rfl) (fun x => by kernel_rfl)
-- loop.example/g00051/spec.ReadNumber
noncomputable def i_spec_ReadNumber : Shape := ⟨[(0, .c (.str))], []⟩
noncomputable def o_spec_ReadNumber : Shape := ⟨[(0, .tup [(false, [.flt]), (false, [.bool])])], []⟩
noncomputable def s_spec_ReadNumber_13 : Shape := ⟨[(0, .c (.str)), (5, .c (.int .i64)), (6, .c (.int .i64)), (7, .c (.int .i64))], []⟩
noncomputable def spec_ReadNumber_L13 : Nat → ByteArray → Int → Int → Int → Option (Nat × Bool)
  | 0, _, _, _, _ => none
  | k + 1, a0, a1, a2, a3 =>
  bif decide (a3 < (↑a0.size : Int)) then
   bif decide (0 ≤ a3) then
    bif decide (a3 < (↑a0.size : Int)) then
     bif bt a0 a3 == 46 then bif decide (a2 < 0) then spec_ReadNumber_L13 k a0 a1 0 (IntKind.i64.wrap (a3 + 1)) else bif decide (0 ≤ a3) then bif decide (a3 < (↑a0.size : Int)) then (spec_l1Digit (bt a0 a3)).bind fun val => bif val then bif decide (a1 > 1000000000000000) then some (0, false) else bif decide (0 ≤ a3) then bif decide (a3 < (↑a0.size : Int)) then bif decide (a2 ≥ 0) then spec_ReadNumber_L13 k a0 (IntKind.i64.wrap (IntKind.i64.wrap (a1 * 10) + IntKind.i64.wrap (IntKind.u8.wrap (bt a0 a3 - 48)))) (IntKind.i64.wrap (a2 + 1)) (IntKind.i64.wrap (a3 + 1)) else spec_ReadNumber_L13 k a0 (IntKind.i64.wrap (IntKind.i64.wrap (a1 * 10) + IntKind.i64.wrap (IntKind.u8.wrap (bt a0 a3 - 48)))) a2 (IntKind.i64.wrap (a3 + 1)) else none else none else bif decide (a3 > 0) then some (0, false) else bif decide (0 ≤ a3) then bif decide (a3 < (↑a0.size : Int)) then bif bt a0 a3 != 45 then some (0, false) else spec_ReadNumber_L13 k a0 a1 a2 (IntKind.i64.wrap (a3 + 1)) else none else none else none else none
     else bif decide (0 ≤ a3) then bif decide (a3 < (↑a0.size : Int)) then (spec_l1Digit (bt a0 a3)).bind fun val => bif val then bif decide (a1 > 1000000000000000) then some (0, false) else bif decide (0 ≤ a3) then bif decide (a3 < (↑a0.size : Int)) then bif decide (a2 ≥ 0) then spec_ReadNumber_L13 k a0 (IntKind.i64.wrap (IntKind.i64.wrap (a1 * 10) + IntKind.i64.wrap (IntKind.u8.wrap (bt a0 a3 - 48)))) (IntKind.i64.wrap (a2 + 1)) (IntKind.i64.wrap (a3 + 1)) else spec_ReadNumber_L13 k a0 (IntKind.i64.wrap (IntKind.i64.wrap (a1 * 10) + IntKind.i64.wrap (IntKind.u8.wrap (bt a0 a3 - 48)))) a2 (IntKind.i64.wrap (a3 + 1)) else none else none else bif decide (a3 > 0) then some (0, false) else bif decide (0 ≤ a3) then bif decide (a3 < (↑a0.size : Int)) then bif bt a0 a3 != 45 then some (0, false) else spec_ReadNumber_L13 k a0 a1 a2 (IntKind.i64.wrap (a3 + 1)) else none else none else none else none
    else none
   else none
  else bif a2 == 0 then some (0, false) else bif decide (a2 > 6) then some (0, false) else bif decide (a1 > 1000000000000000) then some (0, false) else bif decide ((↑a0.size : Int) > 0) then bif decide (0 < (↑a0.size : Int)) then bif bt a0 0 == 45 then (spec_l1Point (IntKind.i64.wrap (0 - a1)) (if 0 > a2 then 0 else a2)).bind fun val => bif !ByteArray.toList val == a0.toList then some (0, false) else (spec_l1Ten (if 0 > a2 then 0 else a2)).bind fun val => some (fdiv (fofi (IntKind.i64.wrap (0 - a1))) (fofi val), true) else (spec_l1Point a1 (if 0 > a2 then 0 else a2)).bind fun val => bif !ByteArray.toList val == a0.toList then some (0, false) else (spec_l1Ten (if 0 > a2 then 0 else a2)).bind fun val => some (fdiv (fofi a1) (fofi val), true) else none else (spec_l1Point a1 (if 0 > a2 then 0 else a2)).bind fun val => bif !ByteArray.toList val == a0.toList then some (0, false) else (spec_l1Ten (if 0 > a2 then 0 else a2)).bind fun val => some (fdiv (fofi a1) (fofi val), true)
noncomputable def j_spec_ReadNumber : List (Nat × (Nat → Cut (Nat × Bool))) := [(13, fun k => ⟨s_spec_ReadNumber_13, fun x => spec_ReadNumber_L13 k x.1.1 x.1.2.1 x.1.2.2.1 x.1.2.2.2.1⟩)]
noncomputable def spec_ReadNumber_F (k : Nat) (a0 : ByteArray) : Option (Nat × Bool) :=
  bif a0.toList == (bs [47]).toList then spec_l1None.bind fun val => some (val, true) else bif a0.toList == (bs [104, 105, 103, 104]).toList then some (fmul 9214871658872686752 4621819117588971520, true) else bif a0.toList == (bs [108, 111, 119]).toList then some (fmul (fneg 9214871658872686752) 4621819117588971520, true) else bif decide ((↑a0.size : Int) > 30) then some (0, false) else spec_ReadNumber_L13 k a0 0 (-1) 0
noncomputable def spec_ReadNumber (a0 : ByteArray) : Option (Nat × Bool) := evF fun k => spec_ReadNumber_F k a0
noncomputable def g_spec_ReadNumber : Sg := ⟨i_spec_ReadNumber, o_spec_ReadNumber, Nat × Bool, fun y => ((((y.1, ()), (y.2, ()), ()), ()), ()), fun x => spec_ReadNumber x.1.1⟩
noncomputable def C_spec_ReadNumber : Ctx := ⟨96, tiOf Tryd.prog, gl, sgOf [(58, g_spec_l1None), (59, g_spec_l1Digit), (60, g_spec_l1Point), (61, g_spec_l1Ten)], []⟩
noncomputable def r_spec_ReadNumber : AExit → Env → Option (Nat × Bool) := retK C_spec_ReadNumber 0 o_spec_ReadNumber (fun y => (y.1.1.1.1, y.1.1.2.1.1)) Tryd.f21.results.toList
theorem e_spec_ReadNumber : Sound Tryd.prog gl 21 g_spec_ReadNumber :=
  sound_cuts (C := C_spec_ReadNumber) ⟨fun _ _ h => h, by kernel_rfl⟩ (sgOf_all' ⟨.inl ⟨by kernel_rfl, e_spec_l1None⟩, .inl ⟨by kernel_rfl, e_spec_l1Digit⟩, .inl ⟨by kernel_rfl, (Sound.mono gl_TD (by rfl) e_spec_l1Point)⟩, .inl ⟨by kernel_rfl, (Sound.mono gl_NR (by rfl) e_spec_l1Ten)⟩, trivial⟩) 21 Tryd.f21 g_spec_ReadNumber (fun y => (y.1.1.1.1, y.1.1.2.1.1)) j_spec_ReadNumber 1 (by kernel_rfl) (by kernel_rfl) (by kernel_rfl) (by kernel_rfl) (by kernel_rfl) (by kernel_rfl) (fun _ => rfl) (by kernel_rfl) (by kernel_rfl)
    ⟨trivial, s_spec_ReadNumber_13, fun k x => spec_ReadNumber_L13 k x.1.1 x.1.2.1 x.1.2.2.1 x.1.2.2.2.1, ⟨fun k => by kernel_rfl, fun k y => by kernel_rfl, fun y => by kernel_rfl⟩⟩
    (fun k x => spec_ReadNumber_F k x.1.1) (fun x => rfl) (fun k x => by kernel_rfl)
end Go.Proofs.YtgkejafaggaocaaDoor.SR
