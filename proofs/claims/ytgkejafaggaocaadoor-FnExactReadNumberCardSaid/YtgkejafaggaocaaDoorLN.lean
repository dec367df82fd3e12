/-
  Part of a proof by the engine: texts that a program of ours printed, or plain lemmas on them. No condition but what each theorem says.
-/
import Derived.Test.YtgkejafaggaocaaDoorDT
import Derived.Test.YtgkejafaggaocaaDoorNR
import Derived.Test.YtgkejafaggaocaaDoorTD
import Derived.Test.YtgkejafaggaocaaDoorSR
import Derived.Test.YtgkejafaggaocaaDoorRU
import Derived.Test.YtgkejafaggaocaaDoorEng5
import Derived.Test.YtgkejafaggaocaaDoorProg
import Derived.KernelRfl
import Derived.Test.YtgkejafaggaocaaDoorDoors1
import Derived.Test.YtgkejafaggaocaaDoorDoors5
import Derived.Test.YtgkejafaggaocaaDoorDoors7
import Derived.Test.YtgkejafaggaocaaDoorDoors8
import Derived.Test.YtgkejafaggaocaaDoorDoorsF
set_option linter.unusedVariables false
set_option linter.unusedSimpArgs false
set_option maxRecDepth 100000
namespace Go.Proofs.YtgkejafaggaocaaDoor.LN
open Go Go.Eng Go.Proofs
open Go.Proofs.YtgkejafaggaocaaDoor.EX
open Go.Proofs.YtgkejafaggaocaaDoor.DT hiding gl
open Go.Proofs.YtgkejafaggaocaaDoor.NR hiding gl
open Go.Proofs.YtgkejafaggaocaaDoor.TD hiding gl
open Go.Proofs.YtgkejafaggaocaaDoor.SR hiding gl
open Go.Proofs.YtgkejafaggaocaaDoor.RU hiding gl
noncomputable def gl : Nat → Option (List Cell) := glOf [(3, [.opq (.iface 0 (.pointer none))]), (4, L_strconv_uint64pow10.map (Cell.int .u64))]
theorem gl_DT : ∀ g cs, Go.Proofs.YtgkejafaggaocaaDoor.DT.gl g = some cs → gl g = some cs := glOf_mono (by intro p hp; simp only [List.mem_cons, List.not_mem_nil, or_false] at hp; subst hp <;> rfl)
theorem gl_NR : ∀ g cs, Go.Proofs.YtgkejafaggaocaaDoor.NR.gl g = some cs → gl g = some cs := glOf_mono (by intro p hp; cases hp)
theorem gl_TD : ∀ g cs, Go.Proofs.YtgkejafaggaocaaDoor.TD.gl g = some cs → gl g = some cs := glOf_mono (by intro p hp; simp only [List.mem_cons, List.not_mem_nil, or_false] at hp; subst hp <;> rfl)
theorem gl_SR : ∀ g cs, Go.Proofs.YtgkejafaggaocaaDoor.SR.gl g = some cs → gl g = some cs := glOf_mono (by intro p hp; simp only [List.mem_cons, List.not_mem_nil, or_false] at hp; subst hp <;> rfl)
theorem gl_RU : ∀ g cs, Go.Proofs.YtgkejafaggaocaaDoor.RU.gl g = some cs → gl g = some cs := glOf_mono (by intro p hp; simp only [List.mem_cons, List.not_mem_nil, or_false] at hp; rcases hp with rfl | rfl <;> rfl)
-- math.NaN
noncomputable def i_math_NaN : Shape := ⟨[], []⟩
noncomputable def o_math_NaN : Shape := ⟨[(0, .c (.flt))], []⟩
noncomputable def math_NaN : Option (Nat) :=
  (dFf 9221120237041090561).bind fun val => some val
noncomputable def g_math_NaN : Sg := ⟨i_math_NaN, o_math_NaN, Nat, fun y => ((y, ()), ()), fun x => math_NaN ⟩
noncomputable def C_math_NaN : Ctx := ⟨2, tiOf Tryd.prog, gl, sgOf [(95, gFf)], []⟩
noncomputable def r_math_NaN : AExit → Env → Option (Nat) := retK C_math_NaN 0 o_math_NaN (fun y => y.1.1) Tryd.f94.results.toList
theorem e_math_NaN : Sound Tryd.prog gl 94 g_math_NaN :=
  sound_plain (C := C_math_NaN) ⟨fun _ _ h => h, by kernel_rfl⟩ (sgOf_all' ⟨.inr xFf, trivial⟩) 94 Tryd.f94 g_math_NaN (fun y => y.1.1) (by kernel_rfl) (by kernel_rfl) (by kernel_rfl) (by kernel_rfl) (by kernel_rfl) (by kernel_rfl) (fun _ => rfl) (fun x => by kernel_rfl)
-- loop.example/g00051/impl.nan
noncomputable def i_impl_nan : Shape := ⟨[], []⟩
noncomputable def o_impl_nan : Shape := ⟨[(0, .c (.flt))], []⟩
noncomputable def impl_nan : Option (Nat) :=
  math_NaN.bind fun val => some val
noncomputable def g_impl_nan : Sg := ⟨i_impl_nan, o_impl_nan, Nat, fun y => ((y, ()), ()), fun x => impl_nan ⟩
noncomputable def C_impl_nan : Ctx := ⟨2, tiOf Tryd.prog, gl, sgOf [(94, g_math_NaN)], []⟩
noncomputable def r_impl_nan : AExit → Env → Option (Nat) := retK C_impl_nan 0 o_impl_nan (fun y => y.1.1) Tryd.f62.results.toList
theorem e_impl_nan : Sound Tryd.prog gl 62 g_impl_nan :=
  sound_plain (C := C_impl_nan) ⟨fun _ _ h => h, by kernel_rfl⟩ (sgOf_all' ⟨.inl ⟨by kernel_rfl, e_math_NaN⟩, trivial⟩) 62 Tryd.f62 g_impl_nan (fun y => y.1.1) (by kernel_rfl) (by kernel_rfl) (by kernel_rfl) (by kernel_rfl) (by kernel_rfl) (by kernel_rfl) (fun _ => rfl) (fun x => by kernel_rfl)
-- math.Inf
noncomputable def i_math_Inf : Shape := ⟨[(0, .c (.int .i64))], []⟩
noncomputable def o_math_Inf : Shape := ⟨[(0, .c (.flt))], []⟩
noncomputable def math_Inf (a0 : Int) : Option (Nat) :=
  bif decide (a0 ≥ 0) then (dFf 9218868437227405312).bind fun val => some val else (dFf 18442240474082181120).bind fun val => some val
noncomputable def g_math_Inf : Sg := ⟨i_math_Inf, o_math_Inf, Nat, fun y => ((y, ()), ()), fun x => math_Inf x.1.1⟩
noncomputable def C_math_Inf : Ctx := ⟨8, tiOf Tryd.prog, gl, sgOf [(95, gFf)], []⟩
noncomputable def r_math_Inf : AExit → Env → Option (Nat) := retK C_math_Inf 0 o_math_Inf (fun y => y.1.1) Tryd.f63.results.toList
theorem e_math_Inf : Sound Tryd.prog gl 63 g_math_Inf :=
  sound_plain (C := C_math_Inf) ⟨fun _ _ h => h, by kernel_rfl⟩ (sgOf_all' ⟨.inr xFf, trivial⟩) 63 Tryd.f63 g_math_Inf (fun y => y.1.1) (by kernel_rfl) (by kernel_rfl) (by kernel_rfl) (by kernel_rfl) (by kernel_rfl) (by kernel_rfl) (fun _ => rfl) (fun x => by kernel_rfl)
-- internal/stringslite.Cut
noncomputable def i_internal_stringslite_Cut : Shape := ⟨[(0, .c (.str)), (1, .c (.str))], []⟩
noncomputable def o_internal_stringslite_Cut : Shape := ⟨[(0, .tup [(false, [.str]), (false, [.str]), (false, [.bool])])], []⟩
noncomputable def internal_stringslite_Cut (a0 : ByteArray) (a1 : ByteArray) : Option (ByteArray × ByteArray × Bool) :=
  (dIdx a0 a1).bind fun val => bif decide (val ≥ 0) then bif decide (0 ≤ val) && decide (val ≤ (↑a0.size : Int)) then bif decide (0 ≤ IntKind.i64.wrap (val + (↑a1.size : Int))) && decide (IntKind.i64.wrap (val + (↑a1.size : Int)) ≤ (↑a0.size : Int)) then some (a0.extract (Int.toNat 0) (Int.toNat val), a0.extract (IntKind.i64.wrap (val + (↑a1.size : Int))).toNat (↑a0.size : Int).toNat, true) else none else none else some (a0, bs [], false)
noncomputable def g_internal_stringslite_Cut : Sg := ⟨i_internal_stringslite_Cut, o_internal_stringslite_Cut, ByteArray × ByteArray × Bool, fun y => ((((y.1, ()), (y.2.1, ()), (y.2.2, ()), ()), ()), ()), fun x => internal_stringslite_Cut x.1.1 x.1.2.1⟩
noncomputable def C_internal_stringslite_Cut : Ctx := ⟨23, tiOf Tryd.prog, gl, sgOf [(118, gIdx)], []⟩
noncomputable def r_internal_stringslite_Cut : AExit → Env → Option (ByteArray × ByteArray × Bool) := retK C_internal_stringslite_Cut 0 o_internal_stringslite_Cut (fun y => (y.1.1.1.1, y.1.1.2.1.1, y.1.1.2.2.1.1)) Tryd.f97.results.toList
theorem e_internal_stringslite_Cut : Sound Tryd.prog gl 97 g_internal_stringslite_Cut :=
  sound_plain (C := C_internal_stringslite_Cut) ⟨fun _ _ h => h, by kernel_rfl⟩ (sgOf_all' ⟨.inl ⟨by kernel_rfl, eIdx⟩, trivial⟩) 97 Tryd.f97 g_internal_stringslite_Cut (fun y => (y.1.1.1.1, y.1.1.2.1.1, y.1.1.2.2.1.1)) (by kernel_rfl) (by kernel_rfl) (by kernel_rfl) (by kernel_rfl) (by kernel_rfl) (by kernel_rfl) (fun _ => rfl) (fun x => by kernel_rfl)
-- strings.Cut
noncomputable def i_strings_Cut : Shape := ⟨[(0, .c (.str)), (1, .c (.str))], []⟩
noncomputable def o_strings_Cut : Shape := ⟨[(0, .tup [(false, [.str]), (false, [.str]), (false, [.bool])])], []⟩
noncomputable def strings_Cut (a0 : ByteArray) (a1 : ByteArray) : Option (ByteArray × ByteArray × Bool) :=
  (internal_stringslite_Cut a0 a1).bind fun val => some (val.fst, val.snd.fst, val.snd.snd)
noncomputable def g_strings_Cut : Sg := ⟨i_strings_Cut, o_strings_Cut, ByteArray × ByteArray × Bool, fun y => ((((y.1, ()), (y.2.1, ()), (y.2.2, ()), ()), ()), ()), fun x => strings_Cut x.1.1 x.1.2.1⟩
noncomputable def C_strings_Cut : Ctx := ⟨13, tiOf Tryd.prog, gl, sgOf [(97, g_internal_stringslite_Cut)], []⟩
noncomputable def r_strings_Cut : AExit → Env → Option (ByteArray × ByteArray × Bool) := retK C_strings_Cut 0 o_strings_Cut (fun y => (y.1.1.1.1, y.1.1.2.1.1, y.1.1.2.2.1.1)) Tryd.f65.results.toList
theorem e_strings_Cut : Sound Tryd.prog gl 65 g_strings_Cut :=
  sound_plain (C := C_strings_Cut) ⟨fun _ _ h => h, by kernel_rfl⟩ (sgOf_all' ⟨.inl ⟨by kernel_rfl, e_internal_stringslite_Cut⟩, trivial⟩) 65 Tryd.f65 g_strings_Cut (fun y => (y.1.1.1.1, y.1.1.2.1.1, y.1.1.2.2.1.1)) (by kernel_rfl) (by kernel_rfl) (by kernel_rfl) (by kernel_rfl) (by kernel_rfl) (by kernel_rfl) (fun _ => rfl) (fun x => by kernel_rfl)
-- loop.example/g00051/laws.sameFloat
noncomputable def i_laws_sameFloat : Shape := ⟨[(0, .c (.flt)), (1, .c (.flt))], []⟩
noncomputable def o_laws_sameFloat : Shape := ⟨[(0, .c (.bool))], []⟩
noncomputable def laws_sameFloat (a0 : Nat) (a1 : Nat) : Option (Bool) :=
  bif !feq a0 a0 then bif !feq a0 a0 then some !feq a1 a1 else some false else bif !feq a1 a1 then bif !feq a0 a0 then some !feq a1 a1 else some false else bif feq a0 0 then bif feq a1 0 then some (fgt (fdiv 4607182418800017408 a0) 0 == fgt (fdiv 4607182418800017408 a1) 0) else some (feq a0 a1) else some (feq a0 a1)
noncomputable def g_laws_sameFloat : Sg := ⟨i_laws_sameFloat, o_laws_sameFloat, Bool, fun y => ((y, ()), ()), fun x => laws_sameFloat x.1.1 x.1.2.1⟩
noncomputable def C_laws_sameFloat : Ctx := ⟨37, tiOf Tryd.prog, gl, sgOf [], []⟩
noncomputable def r_laws_sameFloat : AExit → Env → Option (Bool) := retK C_laws_sameFloat 0 o_laws_sameFloat (fun y => y.1.1) Tryd.f23.results.toList
theorem e_laws_sameFloat : Sound Tryd.prog gl 23 g_laws_sameFloat :=
  sound_plain (C := C_laws_sameFloat) ⟨fun _ _ h => h, by kernel_rfl⟩ (sgOf_all' trivial) 23 Tryd.f23 g_laws_sameFloat (fun y => y.1.1) (by kernel_rfl) (by kernel_rfl) (by kernel_rfl) (by kernel_rfl) (by kernel_rfl) (by kernel_rfl) (fun _ => rfl) (fun x => by kernel_rfl)
-- loop.example/g00051/laws.FnExactReadNumber
noncomputable def i_laws_FnExactReadNumber : Shape := ⟨[(0, .c (.str))], []⟩
noncomputable def o_laws_FnExactReadNumber : Shape := ⟨[(0, .c (.bool))], []⟩
noncomputable def laws_FnExactReadNumber (a0 : ByteArray) : Option (Bool) :=
  bif decide ((↑a0.size : Int) > 1048576) then some true else (spec_ReadNumber a0).bind fun val => (impl_ReadNumber a0).bind fun val_1 => (laws_sameFloat val_1.fst val.fst).bind fun val_2 => bif !val_2 then some false else bif !val_1.snd == val.snd then some false else some true
noncomputable def g_laws_FnExactReadNumber : Sg := ⟨i_laws_FnExactReadNumber, o_laws_FnExactReadNumber, Bool, fun y => ((y, ()), ()), fun x => laws_FnExactReadNumber x.1.1⟩
noncomputable def C_laws_FnExactReadNumber : Ctx := ⟨29, tiOf Tryd.prog, gl, sgOf [(21, g_spec_ReadNumber), (22, g_impl_ReadNumber), (23, g_laws_sameFloat)], []⟩
noncomputable def r_laws_FnExactReadNumber : AExit → Env → Option (Bool) := retK C_laws_FnExactReadNumber 0 o_laws_FnExactReadNumber (fun y => y.1.1) Tryd.f6.results.toList
theorem e_laws_FnExactReadNumber : Sound Tryd.prog gl 6 g_laws_FnExactReadNumber :=
  sound_plain (C := C_laws_FnExactReadNumber) ⟨fun _ _ h => h, by kernel_rfl⟩ (sgOf_all' ⟨.inl ⟨by kernel_rfl, (Sound.mono gl_SR (by rfl) e_spec_ReadNumber)⟩, .inl ⟨by kernel_rfl, (Sound.mono gl_RU (by rfl) e_impl_ReadNumber)⟩, .inl ⟨by kernel_rfl, e_laws_sameFloat⟩, trivial⟩) 6 Tryd.f6 g_laws_FnExactReadNumber (fun y => y.1.1) (by kernel_rfl) (by kernel_rfl) (by kernel_rfl) (by kernel_rfl) (by kernel_rfl) (by kernel_rfl) (fun _ => rfl) (fun x => by kernel_rfl)
end Go.Proofs.YtgkejafaggaocaaDoor.LN
