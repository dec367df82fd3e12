/-
  Part of a proof by the engine: texts that a program of ours printed, or plain lemmas on them. No condition but what each theorem says.
-/
import Derived.Test.YtgkejafaggaocaaDoorEng5
import Derived.Test.YtgkejafaggaocaaDoorProg
import Derived.KernelRfl
import Derived.Test.YtgkejafaggaocaaDoorDoorsF
set_option linter.unusedVariables false
set_option linter.unusedSimpArgs false
set_option maxRecDepth 100000
namespace Go.Proofs.YtgkejafaggaocaaDoor.NR
open Go Go.Eng Go.Proofs
open Go.Proofs.YtgkejafaggaocaaDoor.EX
noncomputable def gl : Nat → Option (List Cell) := glOf []
-- loop.example/g00051/spec.Known
noncomputable def i_spec_Known : Shape := ⟨[(0, .c (.flt))], []⟩
noncomputable def o_spec_Known : Shape := ⟨[(0, .c (.bool))], []⟩
noncomputable def spec_Known (a0 : Nat) : Option (Bool) :=
  some (feq (fsub a0 a0) 0)
noncomputable def g_spec_Known : Sg := ⟨i_spec_Known, o_spec_Known, Bool, fun y => ((y, ()), ()), fun x => spec_Known x.1.1⟩
noncomputable def C_spec_Known : Ctx := ⟨9, tiOf Tryd.prog, gl, sgOf [], []⟩
noncomputable def r_spec_Known : AExit → Env → Option (Bool) := retK C_spec_Known 0 o_spec_Known (fun y => y.1.1) Tryd.f72.results.toList
theorem e_spec_Known : Sound Tryd.prog gl 72 g_spec_Known :=
  sound_plain (C := C_spec_Known) ⟨fun _ _ h => h, by kernel_rfl⟩ (sgOf_all' trivial) 72 Tryd.f72 g_spec_Known (fun y => y.1.1) (by kernel_rfl) (by kernel_rfl) (by kernel_rfl) (by kernel_rfl) (by kernel_rfl) (by kernel_rfl) (fun _ => rfl) (fun x => by kernel_rfl)
-- loop.example/g00051/spec.l1Whole
noncomputable def i_spec_l1Whole : Shape := ⟨[(0, .c (.flt))], []⟩
noncomputable def o_spec_l1Whole : Shape := ⟨[(0, .c (.bool))], []⟩
noncomputable def spec_l1Whole (a0 : Nat) : Option (Bool) :=
  (spec_Known a0).bind fun val => bif val then bif fgt a0 14054727237768577024 || feq a0 14054727237768577024 then some (flt a0 4831355200913801216 || feq a0 4831355200913801216) else some false else some false
noncomputable def g_spec_l1Whole : Sg := ⟨i_spec_l1Whole, o_spec_l1Whole, Bool, fun y => ((y, ()), ()), fun x => spec_l1Whole x.1.1⟩
noncomputable def C_spec_l1Whole : Ctx := ⟨13, tiOf Tryd.prog, gl, sgOf [(72, g_spec_Known)], []⟩
noncomputable def r_spec_l1Whole : AExit → Env → Option (Bool) := retK C_spec_l1Whole 0 o_spec_l1Whole (fun y => y.1.1) Tryd.f101.results.toList
theorem e_spec_l1Whole : Sound Tryd.prog gl 101 g_spec_l1Whole :=
  sound_plain (C := C_spec_l1Whole) ⟨fun _ _ h => h, by kernel_rfl⟩ (sgOf_all' ⟨.inl ⟨by kernel_rfl, e_spec_Known⟩, trivial⟩) 101 Tryd.f101 g_spec_l1Whole (fun y => y.1.1) (by kernel_rfl) (by kernel_rfl) (by kernel_rfl) (by kernel_rfl) (by kernel_rfl) (by kernel_rfl) (fun _ => rfl) (fun x => by kernel_rfl)
-- loop.example/g00051/spec.Nearest
noncomputable def i_spec_Nearest : Shape := ⟨[(0, .c (.flt))], []⟩
noncomputable def o_spec_Nearest : Shape := ⟨[(0, .tup [(false, [.int .i64]), (false, [.bool])])], []⟩
noncomputable def spec_Nearest (a0 : Nat) : Option (Int × Bool) :=
  (spec_l1Whole a0).bind fun val => bif !val then some (0, false) else (floatToIntVal FloatKind.f64 a0 IntKind.i64).bind fun val => bif fgt (fofi val) a0 then bif fgt (fsub a0 (fofi (IntKind.i64.wrap (val - 1)))) 4602678819172646912 then some (IntKind.i64.wrap (IntKind.i64.wrap (val - 1) + 1), true) else bif feq (fsub a0 (fofi (IntKind.i64.wrap (val - 1)))) 4602678819172646912 then bif (IntKind.i64.wrap (val - 1)).tmod 2 != 0 then some (IntKind.i64.wrap (IntKind.i64.wrap (val - 1) + 1), true) else some (IntKind.i64.wrap (val - 1), true) else some (IntKind.i64.wrap (val - 1), true) else bif fgt (fsub a0 (fofi val)) 4602678819172646912 then some (IntKind.i64.wrap (val + 1), true) else bif feq (fsub a0 (fofi val)) 4602678819172646912 then bif val.tmod 2 != 0 then some (IntKind.i64.wrap (val + 1), true) else some (val, true) else some (val, true)
noncomputable def g_spec_Nearest : Sg := ⟨i_spec_Nearest, o_spec_Nearest, Int × Bool, fun y => ((((y.1, ()), (y.2, ()), ()), ()), ()), fun x => spec_Nearest x.1.1⟩
noncomputable def C_spec_Nearest : Ctx := ⟨35, tiOf Tryd.prog, gl, sgOf [(101, g_spec_l1Whole)], []⟩
noncomputable def r_spec_Nearest : AExit → Env → Option (Int × Bool) := retK C_spec_Nearest 0 o_spec_Nearest (fun y => (y.1.1.1.1, y.1.1.2.1.1)) Tryd.f73.results.toList
theorem e_spec_Nearest : Sound Tryd.prog gl 73 g_spec_Nearest :=
  sound_plain (C := C_spec_Nearest) ⟨fun _ _ h => h, by kernel_rfl⟩ (sgOf_all' ⟨.inl ⟨by kernel_rfl, e_spec_l1Whole⟩, trivial⟩) 73 Tryd.f73 g_spec_Nearest (fun y => (y.1.1.1.1, y.1.1.2.1.1)) (by kernel_rfl) (by kernel_rfl) (by kernel_rfl) (by kernel_rfl) (by kernel_rfl) (by kernel_rfl) (fun _ => rfl) (fun x => by kernel_rfl)
-- loop.example/g00051/impl.missing
noncomputable def i_impl_missing : Shape := ⟨[(0, .c (.flt))], []⟩
noncomputable def o_impl_missing : Shape := ⟨[(0, .c (.bool))], []⟩
noncomputable def impl_missing (a0 : Nat) : Option (Bool) :=
  some !feq a0 a0
noncomputable def g_impl_missing : Sg := ⟨i_impl_missing, o_impl_missing, Bool, fun y => ((y, ()), ()), fun x => impl_missing x.1.1⟩
noncomputable def C_impl_missing : Ctx := ⟨6, tiOf Tryd.prog, gl, sgOf [], []⟩
noncomputable def r_impl_missing : AExit → Env → Option (Bool) := retK C_impl_missing 0 o_impl_missing (fun y => y.1.1) Tryd.f74.results.toList
theorem e_impl_missing : Sound Tryd.prog gl 74 g_impl_missing :=
  sound_plain (C := C_impl_missing) ⟨fun _ _ h => h, by kernel_rfl⟩ (sgOf_all' trivial) 74 Tryd.f74 g_impl_missing (fun y => y.1.1) (by kernel_rfl) (by kernel_rfl) (by kernel_rfl) (by kernel_rfl) (by kernel_rfl) (by kernel_rfl) (fun _ => rfl) (fun x => by kernel_rfl)
-- math.Abs
noncomputable def i_math_Abs : Shape := ⟨[(0, .c (.flt))], []⟩
noncomputable def o_math_Abs : Shape := ⟨[(0, .c (.flt))], []⟩
noncomputable def math_Abs (a0 : Nat) : Option (Nat) :=
  (dFb a0).bind fun val => (dFf (IntKind.u64.wrap (↑(BitVec.ofInt IntKind.u64.bits val &&& ~~~BitVec.ofInt IntKind.u64.bits 9223372036854775808).toNat : Int))).bind fun val => some val
noncomputable def g_math_Abs : Sg := ⟨i_math_Abs, o_math_Abs, Nat, fun y => ((y, ()), ()), fun x => math_Abs x.1.1⟩
noncomputable def C_math_Abs : Ctx := ⟨7, tiOf Tryd.prog, gl, sgOf [(124, gFb), (95, gFf)], []⟩
noncomputable def r_math_Abs : AExit → Env → Option (Nat) := retK C_math_Abs 0 o_math_Abs (fun y => y.1.1) Tryd.f102.results.toList
theorem e_math_Abs : Sound Tryd.prog gl 102 g_math_Abs :=
  sound_plain (C := C_math_Abs) ⟨fun _ _ h => h, by kernel_rfl⟩ (sgOf_all' ⟨.inr xFb, .inr xFf, trivial⟩) 102 Tryd.f102 g_math_Abs (fun y => y.1.1) (by kernel_rfl) (by kernel_rfl) (by kernel_rfl) (by kernel_rfl) (by kernel_rfl) (by kernel_rfl) (fun _ => rfl) (fun x => by kernel_rfl)
-- math.IsInf
noncomputable def i_math_IsInf : Shape := ⟨[(0, .c (.flt)), (1, .c (.int .i64))], []⟩
noncomputable def o_math_IsInf : Shape := ⟨[(0, .c (.bool))], []⟩
noncomputable def math_IsInf (a0 : Nat) (a1 : Int) : Option (Bool) :=
  bif a1 == 0 then (math_Abs a0).bind fun val => some (fgt val 9218868437227405311) else bif decide (a1 < 0) then some (fgt (fneg a0) 9218868437227405311) else some (fgt a0 9218868437227405311)
noncomputable def g_math_IsInf : Sg := ⟨i_math_IsInf, o_math_IsInf, Bool, fun y => ((y, ()), ()), fun x => math_IsInf x.1.1 x.1.2.1⟩
noncomputable def C_math_IsInf : Ctx := ⟨15, tiOf Tryd.prog, gl, sgOf [(102, g_math_Abs)], []⟩
noncomputable def r_math_IsInf : AExit → Env → Option (Bool) := retK C_math_IsInf 0 o_math_IsInf (fun y => y.1.1) Tryd.f75.results.toList
theorem e_math_IsInf : Sound Tryd.prog gl 75 g_math_IsInf :=
  sound_plain (C := C_math_IsInf) ⟨fun _ _ h => h, by kernel_rfl⟩ (sgOf_all' ⟨.inl ⟨by kernel_rfl, e_math_Abs⟩, trivial⟩) 75 Tryd.f75 g_math_IsInf (fun y => y.1.1) (by kernel_rfl) (by kernel_rfl) (by kernel_rfl) (by kernel_rfl) (by kernel_rfl) (by kernel_rfl) (fun _ => rfl) (fun x => by kernel_rfl)
-- loop.example/g00051/impl.Known
noncomputable def i_impl_Known : Shape := ⟨[(0, .c (.flt))], []⟩
noncomputable def o_impl_Known : Shape := ⟨[(0, .c (.bool))], []⟩
noncomputable def impl_Known (a0 : Nat) : Option (Bool) :=
  (impl_missing a0).bind fun val => bif !val then (math_IsInf a0 0).bind fun val => some !val else some false
noncomputable def g_impl_Known : Sg := ⟨i_impl_Known, o_impl_Known, Bool, fun y => ((y, ()), ()), fun x => impl_Known x.1.1⟩
noncomputable def C_impl_Known : Ctx := ⟨11, tiOf Tryd.prog, gl, sgOf [(74, g_impl_missing), (75, g_math_IsInf)], []⟩
noncomputable def r_impl_Known : AExit → Env → Option (Bool) := retK C_impl_Known 0 o_impl_Known (fun y => y.1.1) Tryd.f103.results.toList
theorem e_impl_Known : Sound Tryd.prog gl 103 g_impl_Known :=
  sound_plain (C := C_impl_Known) ⟨fun _ _ h => h, by kernel_rfl⟩ (sgOf_all' ⟨.inl ⟨by kernel_rfl, e_impl_missing⟩, .inl ⟨by kernel_rfl, e_math_IsInf⟩, trivial⟩) 103 Tryd.f103 g_impl_Known (fun y => y.1.1) (by kernel_rfl) (by kernel_rfl) (by kernel_rfl) (by kernel_rfl) (by kernel_rfl) (by kernel_rfl) (fun _ => rfl) (fun x => by kernel_rfl)
-- loop.example/g00051/impl.Nearest
noncomputable def i_impl_Nearest : Shape := ⟨[(0, .c (.flt))], []⟩
noncomputable def o_impl_Nearest : Shape := ⟨[(0, .tup [(false, [.int .i64]), (false, [.bool])])], []⟩
noncomputable def impl_Nearest (a0 : Nat) : Option (Int × Bool) :=
  (impl_Known a0).bind fun val => bif !val then some (0, false) else bif flt a0 14054727237768577024 then some (0, false) else bif fgt a0 4831355200913801216 then some (0, false) else (dRte a0).bind fun val => (floatToIntVal FloatKind.f64 val IntKind.i64).bind fun val => some (val, true)
noncomputable def g_impl_Nearest : Sg := ⟨i_impl_Nearest, o_impl_Nearest, Int × Bool, fun y => ((((y.1, ()), (y.2, ()), ()), ()), ()), fun x => impl_Nearest x.1.1⟩
noncomputable def C_impl_Nearest : Ctx := ⟨18, tiOf Tryd.prog, gl, sgOf [(103, g_impl_Known), (104, gRte)], []⟩
noncomputable def r_impl_Nearest : AExit → Env → Option (Int × Bool) := retK C_impl_Nearest 0 o_impl_Nearest (fun y => (y.1.1.1.1, y.1.1.2.1.1)) Tryd.f76.results.toList
theorem e_impl_Nearest : Sound Tryd.prog gl 76 g_impl_Nearest :=
  sound_plain (C := C_impl_Nearest) ⟨fun _ _ h => h, by kernel_rfl⟩ (sgOf_all' ⟨.inl ⟨by kernel_rfl, e_impl_Known⟩, .inr xRte, trivial⟩) 76 Tryd.f76 g_impl_Nearest (fun y => (y.1.1.1.1, y.1.1.2.1.1)) (by kernel_rfl) (by kernel_rfl) (by kernel_rfl) (by kernel_rfl) (by kernel_rfl) (by kernel_rfl) (fun _ => rfl) (fun x => by kernel_rfl)
-- loop.example/g00051/spec.l1Ten
noncomputable def i_spec_l1Ten : Shape := ⟨[(0, .c (.int .i64))], []⟩
noncomputable def o_spec_l1Ten : Shape := ⟨[(0, .c (.int .i64))], []⟩
noncomputable def s_spec_l1Ten_3 : Shape := ⟨[(0, .c (.int .i64)), (3, .c (.int .i64)), (4, .c (.int .i64))], []⟩
noncomputable def spec_l1Ten_L3 : Nat → Int → Int → Int → Option (Int)
  | 0, _, _, _ => none
  | k + 1, a0, a1, a2 =>
  bif decide (a2 < a0) then spec_l1Ten_L3 k a0 (IntKind.i64.wrap (a1 * 10)) (IntKind.i64.wrap (a2 + 1)) else some a1
noncomputable def j_spec_l1Ten : List (Nat × (Nat → Cut (Int))) := [(3, fun k => ⟨s_spec_l1Ten_3, fun x => spec_l1Ten_L3 k x.1.1 x.1.2.1 x.1.2.2.1⟩)]
noncomputable def spec_l1Ten_F (k : Nat) (a0 : Int) : Option (Int) :=
  spec_l1Ten_L3 k a0 1 0
noncomputable def spec_l1Ten (a0 : Int) : Option (Int) := evF fun k => spec_l1Ten_F k a0
noncomputable def g_spec_l1Ten : Sg := ⟨i_spec_l1Ten, o_spec_l1Ten, Int, fun y => ((y, ()), ()), fun x => spec_l1Ten x.1.1⟩
noncomputable def C_spec_l1Ten : Ctx := ⟨13, tiOf Tryd.prog, gl, sgOf [], []⟩
noncomputable def r_spec_l1Ten : AExit → Env → Option (Int) := retK C_spec_l1Ten 0 o_spec_l1Ten (fun y => y.1.1) Tryd.f61.results.toList
theorem e_spec_l1Ten : Sound Tryd.prog gl 61 g_spec_l1Ten :=
  sound_cuts (C := C_spec_l1Ten) ⟨fun _ _ h => h, by kernel_rfl⟩ (sgOf_all' trivial) 61 Tryd.f61 g_spec_l1Ten (fun y => y.1.1) j_spec_l1Ten 1 (by kernel_rfl) (by kernel_rfl) (by kernel_rfl) (by kernel_rfl) (by kernel_rfl) (by kernel_rfl) (fun _ => rfl) (by kernel_rfl) (by kernel_rfl)
    ⟨trivial, s_spec_l1Ten_3, fun k x => spec_l1Ten_L3 k x.1.1 x.1.2.1 x.1.2.2.1, ⟨fun k => by kernel_rfl, fun k y => by kernel_rfl, fun y => by kernel_rfl⟩⟩
    (fun k x => spec_l1Ten_F k x.1.1) (fun x => rfl) (fun k x => by kernel_rfl)
-- loop.example/g00051/impl.ten
noncomputable def i_impl_ten : Shape := ⟨[(0, .c (.int .i64))], []⟩
noncomputable def o_impl_ten : Shape := ⟨[(0, .c (.flt))], []⟩
noncomputable def s_impl_ten_2 : Shape := ⟨[(0, .c (.int .i64)), (3, .c (.flt))], []⟩
noncomputable def impl_ten_L2 : Nat → Int → Nat → Option (Nat)
  | 0, _, _ => none
  | k + 1, a0, a1 =>
  bif decide (a0 > 0) then impl_ten_L2 k (IntKind.i64.wrap (a0 - 1)) (fmul a1 4621819117588971520) else some a1
noncomputable def j_impl_ten : List (Nat × (Nat → Cut (Nat))) := [(2, fun k => ⟨s_impl_ten_2, fun x => impl_ten_L2 k x.1.1 x.1.2.1⟩)]
noncomputable def impl_ten_F (k : Nat) (a0 : Int) : Option (Nat) :=
  impl_ten_L2 k a0 4607182418800017408
noncomputable def impl_ten (a0 : Int) : Option (Nat) := evF fun k => impl_ten_F k a0
noncomputable def g_impl_ten : Sg := ⟨i_impl_ten, o_impl_ten, Nat, fun y => ((y, ()), ()), fun x => impl_ten x.1.1⟩
noncomputable def C_impl_ten : Ctx := ⟨11, tiOf Tryd.prog, gl, sgOf [], []⟩
noncomputable def r_impl_ten : AExit → Env → Option (Nat) := retK C_impl_ten 0 o_impl_ten (fun y => y.1.1) Tryd.f68.results.toList
theorem e_impl_ten : Sound Tryd.prog gl 68 g_impl_ten :=
  sound_cuts (C := C_impl_ten) ⟨fun _ _ h => h, by kernel_rfl⟩ (sgOf_all' trivial) 68 Tryd.f68 g_impl_ten (fun y => y.1.1) j_impl_ten 1 (by kernel_rfl) (by kernel_rfl) (by kernel_rfl) (by kernel_rfl) (by kernel_rfl) (by kernel_rfl) (fun _ => rfl) (by kernel_rfl) (by kernel_rfl)
    ⟨trivial, s_impl_ten_2, fun k x => impl_ten_L2 k x.1.1 x.1.2.1, ⟨fun k => by kernel_rfl, fun k y => by kernel_rfl, fun y => by kernel_rfl⟩⟩
    (fun k x => impl_ten_F k x.1.1) (fun x => rfl) (fun k x => by kernel_rfl)
end Go.Proofs.YtgkejafaggaocaaDoor.NR
