/-
  Part of a proof by the engine: texts that a program of ours printed, or plain lemmas on them. No condition but what each theorem says.
-/
import Derived.Test.YtondfjckadlabaaDoorEng5
import Derived.Test.YtondfjckadlabaaDoorProg
import Derived.KernelRfl
import Derived.Test.YtondfjckadlabaaDoorDoorsG
set_option linter.unusedVariables false
set_option linter.unusedSimpArgs false
set_option maxRecDepth 100000
namespace Go.Proofs.YtondfjckadlabaaDoor.NR
open Go Go.Eng Go.Proofs
open Go.Proofs.YtondfjckadlabaaDoor.EX
noncomputable def gl : Nat → Option (List Cell) := glOf []
-- loop.example/g00051/spec.Known
noncomputable def i_spec_Known : Shape := ⟨[(0, .c (.flt))], []⟩
noncomputable def o_spec_Known : Shape := ⟨[(0, .c (.bool))], []⟩
noncomputable def spec_Known (a0 : Nat) : Option (Bool) :=
  some (feq (fsub a0 a0) 0)
noncomputable def g_spec_Known : Sg := ⟨i_spec_Known, o_spec_Known, Bool, fun y => ((y, ()), ()), fun x => spec_Known x.1.1⟩
noncomputable def C_spec_Known : Ctx := ⟨9, tiOf Tryd.prog, gl, sgOf [], []⟩
noncomputable def r_spec_Known : AExit → Env → Option (Bool) := retK C_spec_Known 0 o_spec_Known (fun y => y.1.1) Tryd.f80.results.toList
theorem e_spec_Known : Sound Tryd.prog gl 80 g_spec_Known :=
  sound_plain (C := C_spec_Known) ⟨fun _ _ h => h, by kernel_rfl⟩ (sgOf_all' trivial) 80 Tryd.f80 g_spec_Known (fun y => y.1.1) (by kernel_rfl) (by kernel_rfl) (by kernel_rfl) (by kernel_rfl) (by kernel_rfl) (by kernel_rfl) (fun _ => rfl) (fun x => by kernel_rfl)
-- loop.example/g00051/spec.l1Whole
noncomputable def i_spec_l1Whole : Shape := ⟨[(0, .c (.flt))], []⟩
noncomputable def o_spec_l1Whole : Shape := ⟨[(0, .c (.bool))], []⟩
noncomputable def spec_l1Whole (a0 : Nat) : Option (Bool) :=
  (spec_Known a0).bind fun val => bif val then bif fgt a0 14054727237768577024 || feq a0 14054727237768577024 then some (flt a0 4831355200913801216 || feq a0 4831355200913801216) else some false else some false
noncomputable def g_spec_l1Whole : Sg := ⟨i_spec_l1Whole, o_spec_l1Whole, Bool, fun y => ((y, ()), ()), fun x => spec_l1Whole x.1.1⟩
noncomputable def C_spec_l1Whole : Ctx := ⟨13, tiOf Tryd.prog, gl, sgOf [(80, g_spec_Known)], []⟩
noncomputable def r_spec_l1Whole : AExit → Env → Option (Bool) := retK C_spec_l1Whole 0 o_spec_l1Whole (fun y => y.1.1) Tryd.f66.results.toList
theorem e_spec_l1Whole : Sound Tryd.prog gl 66 g_spec_l1Whole :=
  sound_plain (C := C_spec_l1Whole) ⟨fun _ _ h => h, by kernel_rfl⟩ (sgOf_all' ⟨.inl ⟨by kernel_rfl, e_spec_Known⟩, trivial⟩) 66 Tryd.f66 g_spec_l1Whole (fun y => y.1.1) (by kernel_rfl) (by kernel_rfl) (by kernel_rfl) (by kernel_rfl) (by kernel_rfl) (by kernel_rfl) (fun _ => rfl) (fun x => by kernel_rfl)
-- loop.example/g00051/spec.Nearest
noncomputable def i_spec_Nearest : Shape := ⟨[(0, .c (.flt))], []⟩
noncomputable def o_spec_Nearest : Shape := ⟨[(0, .tup [(false, [.int .i64]), (false, [.bool])])], []⟩
noncomputable def spec_Nearest (a0 : Nat) : Option (Int × Bool) :=
  (spec_l1Whole a0).bind fun val => bif !val then some (0, false) else (floatToIntVal FloatKind.f64 a0 IntKind.i64).bind fun val => bif fgt (fofi val) a0 then bif fgt (fsub a0 (fofi (IntKind.i64.wrap (val - 1)))) 4602678819172646912 then some (IntKind.i64.wrap (IntKind.i64.wrap (val - 1) + 1), true) else bif feq (fsub a0 (fofi (IntKind.i64.wrap (val - 1)))) 4602678819172646912 then bif (IntKind.i64.wrap (val - 1)).tmod 2 != 0 then some (IntKind.i64.wrap (IntKind.i64.wrap (val - 1) + 1), true) else some (IntKind.i64.wrap (val - 1), true) else some (IntKind.i64.wrap (val - 1), true) else bif fgt (fsub a0 (fofi val)) 4602678819172646912 then some (IntKind.i64.wrap (val + 1), true) else bif feq (fsub a0 (fofi val)) 4602678819172646912 then bif val.tmod 2 != 0 then some (IntKind.i64.wrap (val + 1), true) else some (val, true) else some (val, true)
noncomputable def g_spec_Nearest : Sg := ⟨i_spec_Nearest, o_spec_Nearest, Int × Bool, fun y => ((((y.1, ()), (y.2, ()), ()), ()), ()), fun x => spec_Nearest x.1.1⟩
noncomputable def C_spec_Nearest : Ctx := ⟨35, tiOf Tryd.prog, gl, sgOf [(66, g_spec_l1Whole)], []⟩
noncomputable def r_spec_Nearest : AExit → Env → Option (Int × Bool) := retK C_spec_Nearest 0 o_spec_Nearest (fun y => (y.1.1.1.1, y.1.1.2.1.1)) Tryd.f52.results.toList
theorem e_spec_Nearest : Sound Tryd.prog gl 52 g_spec_Nearest :=
  sound_plain (C := C_spec_Nearest) ⟨fun _ _ h => h, by kernel_rfl⟩ (sgOf_all' ⟨.inl ⟨by kernel_rfl, e_spec_l1Whole⟩, trivial⟩) 52 Tryd.f52 g_spec_Nearest (fun y => (y.1.1.1.1, y.1.1.2.1.1)) (by kernel_rfl) (by kernel_rfl) (by kernel_rfl) (by kernel_rfl) (by kernel_rfl) (by kernel_rfl) (fun _ => rfl) (fun x => by kernel_rfl)
-- loop.example/g00051/spec.l1Minus
noncomputable def i_spec_l1Minus : Shape := ⟨[(0, .c (.flt))], []⟩
noncomputable def o_spec_l1Minus : Shape := ⟨[(0, .c (.bool))], []⟩
noncomputable def spec_l1Minus (a0 : Nat) : Option (Bool) :=
  bif flt a0 0 then some true else bif feq a0 0 then some (flt (fdiv 4607182418800017408 a0) 0) else some false
noncomputable def g_spec_l1Minus : Sg := ⟨i_spec_l1Minus, o_spec_l1Minus, Bool, fun y => ((y, ()), ()), fun x => spec_l1Minus x.1.1⟩
noncomputable def C_spec_l1Minus : Ctx := ⟨16, tiOf Tryd.prog, gl, sgOf [], []⟩
noncomputable def r_spec_l1Minus : AExit → Env → Option (Bool) := retK C_spec_l1Minus 0 o_spec_l1Minus (fun y => y.1.1) Tryd.f67.results.toList
theorem e_spec_l1Minus : Sound Tryd.prog gl 67 g_spec_l1Minus :=
  sound_plain (C := C_spec_l1Minus) ⟨fun _ _ h => h, by kernel_rfl⟩ (sgOf_all' trivial) 67 Tryd.f67 g_spec_l1Minus (fun y => y.1.1) (by kernel_rfl) (by kernel_rfl) (by kernel_rfl) (by kernel_rfl) (by kernel_rfl) (by kernel_rfl) (fun _ => rfl) (fun x => by kernel_rfl)
-- loop.example/g00051/spec.Same
noncomputable def i_spec_Same : Shape := ⟨[(0, .c (.flt)), (1, .c (.flt))], []⟩
noncomputable def o_spec_Same : Shape := ⟨[(0, .c (.bool))], []⟩
noncomputable def spec_Same (a0 : Nat) (a1 : Nat) : Option (Bool) :=
  bif !feq a0 a0 then bif !feq a0 a0 then some !feq a1 a1 else some false else bif !feq a1 a1 then bif !feq a0 a0 then some !feq a1 a1 else some false else bif feq a0 a1 then (spec_l1Minus a0).bind fun val => (spec_l1Minus a1).bind fun val_1 => some (val == val_1) else some false
noncomputable def g_spec_Same : Sg := ⟨i_spec_Same, o_spec_Same, Bool, fun y => ((y, ()), ()), fun x => spec_Same x.1.1 x.1.2.1⟩
noncomputable def C_spec_Same : Ctx := ⟨31, tiOf Tryd.prog, gl, sgOf [(67, g_spec_l1Minus)], []⟩
noncomputable def r_spec_Same : AExit → Env → Option (Bool) := retK C_spec_Same 0 o_spec_Same (fun y => y.1.1) Tryd.f53.results.toList
theorem e_spec_Same : Sound Tryd.prog gl 53 g_spec_Same :=
  sound_plain (C := C_spec_Same) ⟨fun _ _ h => h, by kernel_rfl⟩ (sgOf_all' ⟨.inl ⟨by kernel_rfl, e_spec_l1Minus⟩, trivial⟩) 53 Tryd.f53 g_spec_Same (fun y => y.1.1) (by kernel_rfl) (by kernel_rfl) (by kernel_rfl) (by kernel_rfl) (by kernel_rfl) (by kernel_rfl) (fun _ => rfl) (fun x => by kernel_rfl)
-- loop.example/g00051/impl.missing
noncomputable def i_impl_missing : Shape := ⟨[(0, .c (.flt))], []⟩
noncomputable def o_impl_missing : Shape := ⟨[(0, .c (.bool))], []⟩
noncomputable def impl_missing (a0 : Nat) : Option (Bool) :=
  some !feq a0 a0
noncomputable def g_impl_missing : Sg := ⟨i_impl_missing, o_impl_missing, Bool, fun y => ((y, ()), ()), fun x => impl_missing x.1.1⟩
noncomputable def C_impl_missing : Ctx := ⟨6, tiOf Tryd.prog, gl, sgOf [], []⟩
noncomputable def r_impl_missing : AExit → Env → Option (Bool) := retK C_impl_missing 0 o_impl_missing (fun y => y.1.1) Tryd.f37.results.toList
theorem e_impl_missing : Sound Tryd.prog gl 37 g_impl_missing :=
  sound_plain (C := C_impl_missing) ⟨fun _ _ h => h, by kernel_rfl⟩ (sgOf_all' trivial) 37 Tryd.f37 g_impl_missing (fun y => y.1.1) (by kernel_rfl) (by kernel_rfl) (by kernel_rfl) (by kernel_rfl) (by kernel_rfl) (by kernel_rfl) (fun _ => rfl) (fun x => by kernel_rfl)
-- loop.example/g00051/impl.Same
noncomputable def i_impl_Same : Shape := ⟨[(0, .c (.flt)), (1, .c (.flt))], []⟩
noncomputable def o_impl_Same : Shape := ⟨[(0, .c (.bool))], []⟩
noncomputable def impl_Same (a0 : Nat) (a1 : Nat) : Option (Bool) :=
  (impl_missing a0).bind fun val => bif val then (impl_missing a1).bind fun val => bif val then some true else (dFb a0).bind fun val => (dFb a1).bind fun val_1 => some (val == val_1) else (dFb a0).bind fun val => (dFb a1).bind fun val_1 => some (val == val_1)
noncomputable def g_impl_Same : Sg := ⟨i_impl_Same, o_impl_Same, Bool, fun y => ((y, ()), ()), fun x => impl_Same x.1.1 x.1.2.1⟩
noncomputable def C_impl_Same : Ctx := ⟨18, tiOf Tryd.prog, gl, sgOf [(37, g_impl_missing), (73, gFb)], []⟩
noncomputable def r_impl_Same : AExit → Env → Option (Bool) := retK C_impl_Same 0 o_impl_Same (fun y => y.1.1) Tryd.f59.results.toList
theorem e_impl_Same : Sound Tryd.prog gl 59 g_impl_Same :=
  sound_plain (C := C_impl_Same) ⟨fun _ _ h => h, by kernel_rfl⟩ (sgOf_all' ⟨.inl ⟨by kernel_rfl, e_impl_missing⟩, .inr xFb, trivial⟩) 59 Tryd.f59 g_impl_Same (fun y => y.1.1) (by kernel_rfl) (by kernel_rfl) (by kernel_rfl) (by kernel_rfl) (by kernel_rfl) (by kernel_rfl) (fun _ => rfl) (fun x => by kernel_rfl)
-- math.Abs
noncomputable def i_math_Abs : Shape := ⟨[(0, .c (.flt))], []⟩
noncomputable def o_math_Abs : Shape := ⟨[(0, .c (.flt))], []⟩
noncomputable def math_Abs (a0 : Nat) : Option (Nat) :=
  (dFb a0).bind fun val => (dFf (IntKind.u64.wrap (↑(BitVec.ofInt IntKind.u64.bits val &&& ~~~BitVec.ofInt IntKind.u64.bits 9223372036854775808).toNat : Int))).bind fun val => some val
noncomputable def g_math_Abs : Sg := ⟨i_math_Abs, o_math_Abs, Nat, fun y => ((y, ()), ()), fun x => math_Abs x.1.1⟩
noncomputable def C_math_Abs : Ctx := ⟨7, tiOf Tryd.prog, gl, sgOf [(73, gFb), (72, gFf)], []⟩
noncomputable def r_math_Abs : AExit → Env → Option (Nat) := retK C_math_Abs 0 o_math_Abs (fun y => y.1.1) Tryd.f57.results.toList
theorem e_math_Abs : Sound Tryd.prog gl 57 g_math_Abs :=
  sound_plain (C := C_math_Abs) ⟨fun _ _ h => h, by kernel_rfl⟩ (sgOf_all' ⟨.inr xFb, .inr xFf, trivial⟩) 57 Tryd.f57 g_math_Abs (fun y => y.1.1) (by kernel_rfl) (by kernel_rfl) (by kernel_rfl) (by kernel_rfl) (by kernel_rfl) (by kernel_rfl) (fun _ => rfl) (fun x => by kernel_rfl)
-- math.IsInf
noncomputable def i_math_IsInf : Shape := ⟨[(0, .c (.flt)), (1, .c (.int .i64))], []⟩
noncomputable def o_math_IsInf : Shape := ⟨[(0, .c (.bool))], []⟩
noncomputable def math_IsInf (a0 : Nat) (a1 : Int) : Option (Bool) :=
  bif a1 == 0 then (math_Abs a0).bind fun val => some (fgt val 9218868437227405311) else bif decide (a1 < 0) then some (fgt (fneg a0) 9218868437227405311) else some (fgt a0 9218868437227405311)
noncomputable def g_math_IsInf : Sg := ⟨i_math_IsInf, o_math_IsInf, Bool, fun y => ((y, ()), ()), fun x => math_IsInf x.1.1 x.1.2.1⟩
noncomputable def C_math_IsInf : Ctx := ⟨15, tiOf Tryd.prog, gl, sgOf [(57, g_math_Abs)], []⟩
noncomputable def r_math_IsInf : AExit → Env → Option (Bool) := retK C_math_IsInf 0 o_math_IsInf (fun y => y.1.1) Tryd.f71.results.toList
theorem e_math_IsInf : Sound Tryd.prog gl 71 g_math_IsInf :=
  sound_plain (C := C_math_IsInf) ⟨fun _ _ h => h, by kernel_rfl⟩ (sgOf_all' ⟨.inl ⟨by kernel_rfl, e_math_Abs⟩, trivial⟩) 71 Tryd.f71 g_math_IsInf (fun y => y.1.1) (by kernel_rfl) (by kernel_rfl) (by kernel_rfl) (by kernel_rfl) (by kernel_rfl) (by kernel_rfl) (fun _ => rfl) (fun x => by kernel_rfl)
-- loop.example/g00051/impl.Known
noncomputable def i_impl_Known : Shape := ⟨[(0, .c (.flt))], []⟩
noncomputable def o_impl_Known : Shape := ⟨[(0, .c (.bool))], []⟩
noncomputable def impl_Known (a0 : Nat) : Option (Bool) :=
  (impl_missing a0).bind fun val => bif !val then (math_IsInf a0 0).bind fun val => some !val else some false
noncomputable def g_impl_Known : Sg := ⟨i_impl_Known, o_impl_Known, Bool, fun y => ((y, ()), ()), fun x => impl_Known x.1.1⟩
noncomputable def C_impl_Known : Ctx := ⟨11, tiOf Tryd.prog, gl, sgOf [(37, g_impl_missing), (71, g_math_IsInf)], []⟩
noncomputable def r_impl_Known : AExit → Env → Option (Bool) := retK C_impl_Known 0 o_impl_Known (fun y => y.1.1) Tryd.f56.results.toList
theorem e_impl_Known : Sound Tryd.prog gl 56 g_impl_Known :=
  sound_plain (C := C_impl_Known) ⟨fun _ _ h => h, by kernel_rfl⟩ (sgOf_all' ⟨.inl ⟨by kernel_rfl, e_impl_missing⟩, .inl ⟨by kernel_rfl, e_math_IsInf⟩, trivial⟩) 56 Tryd.f56 g_impl_Known (fun y => y.1.1) (by kernel_rfl) (by kernel_rfl) (by kernel_rfl) (by kernel_rfl) (by kernel_rfl) (by kernel_rfl) (fun _ => rfl) (fun x => by kernel_rfl)
-- math.Round
noncomputable def i_math_Round : Shape := ⟨[(0, .c (.flt))], []⟩
noncomputable def o_math_Round : Shape := ⟨[(0, .c (.flt))], []⟩
noncomputable def math_Round (a0 : Nat) : Option (Nat) :=
  (dFb a0).bind fun val =>
   bif decide (IntKind.u64.wrap (↑(BitVec.ofInt IntKind.u64.bits (Int.fdiv val (2 ^ min (Int.toNat 52) IntKind.u64.bits)) &&& BitVec.ofInt IntKind.u64.bits 2047).toNat : Int) < 1023) then bif IntKind.u64.wrap (↑(BitVec.ofInt IntKind.u64.bits (Int.fdiv val (2 ^ min (Int.toNat 52) IntKind.u64.bits)) &&& BitVec.ofInt IntKind.u64.bits 2047).toNat : Int) == 1022 then (dFf (IntKind.u64.wrap (↑(BitVec.ofInt IntKind.u64.bits (IntKind.u64.wrap (↑(BitVec.ofInt IntKind.u64.bits val &&& BitVec.ofInt IntKind.u64.bits 9223372036854775808).toNat : Int)) ||| BitVec.ofInt IntKind.u64.bits 4607182418800017408).toNat : Int))).bind fun val => some val else (dFf (IntKind.u64.wrap (↑(BitVec.ofInt IntKind.u64.bits val &&& BitVec.ofInt IntKind.u64.bits 9223372036854775808).toNat : Int))).bind fun val => some val
   else bif decide (IntKind.u64.wrap (↑(BitVec.ofInt IntKind.u64.bits (Int.fdiv val (2 ^ min (Int.toNat 52) IntKind.u64.bits)) &&& BitVec.ofInt IntKind.u64.bits 2047).toNat : Int) < 1075) then bif decide (0 ≤ IntKind.u64.wrap (IntKind.u64.wrap (↑(BitVec.ofInt IntKind.u64.bits (Int.fdiv val (2 ^ min (Int.toNat 52) IntKind.u64.bits)) &&& BitVec.ofInt IntKind.u64.bits 2047).toNat : Int) - 1023)) then bif decide (0 ≤ IntKind.u64.wrap (IntKind.u64.wrap (↑(BitVec.ofInt IntKind.u64.bits (Int.fdiv val (2 ^ min (Int.toNat 52) IntKind.u64.bits)) &&& BitVec.ofInt IntKind.u64.bits 2047).toNat : Int) - 1023)) then (dFf (IntKind.u64.wrap (↑(BitVec.ofInt IntKind.u64.bits (IntKind.u64.wrap (val + Int.fdiv 2251799813685248 (2 ^ min (IntKind.u64.wrap (IntKind.u64.wrap (↑(BitVec.ofInt IntKind.u64.bits (Int.fdiv val (2 ^ min (Int.toNat 52) IntKind.u64.bits)) &&& BitVec.ofInt IntKind.u64.bits 2047).toNat : Int) - 1023)).toNat IntKind.u64.bits))) &&& ~~~BitVec.ofInt IntKind.u64.bits (Int.fdiv 4503599627370495 (2 ^ min (IntKind.u64.wrap (IntKind.u64.wrap (↑(BitVec.ofInt IntKind.u64.bits (Int.fdiv val (2 ^ min (Int.toNat 52) IntKind.u64.bits)) &&& BitVec.ofInt IntKind.u64.bits 2047).toNat : Int) - 1023)).toNat IntKind.u64.bits))).toNat : Int))).bind fun val => some val else none else none else (dFf val).bind fun val => some val
noncomputable def g_math_Round : Sg := ⟨i_math_Round, o_math_Round, Nat, fun y => ((y, ()), ()), fun x => math_Round x.1.1⟩
noncomputable def C_math_Round : Ctx := ⟨32, tiOf Tryd.prog, gl, sgOf [(73, gFb), (72, gFf)], []⟩
noncomputable def r_math_Round : AExit → Env → Option (Nat) := retK C_math_Round 0 o_math_Round (fun y => y.1.1) Tryd.f58.results.toList
theorem e_math_Round : Sound Tryd.prog gl 58 g_math_Round :=
  sound_plain (C := C_math_Round) ⟨fun _ _ h => h, by kernel_rfl⟩ (sgOf_all' ⟨.inr xFb, .inr xFf, trivial⟩) 58 Tryd.f58 g_math_Round (fun y => y.1.1) (by kernel_rfl) (by kernel_rfl) (by kernel_rfl) (by kernel_rfl) (by kernel_rfl) (by kernel_rfl) (fun _ => rfl) (fun x => by kernel_rfl)
end Go.Proofs.YtondfjckadlabaaDoor.NR
