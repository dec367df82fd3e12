/-
  Part of a proof by the engine: texts that a program of ours printed, or plain lemmas on them. No condition but what each theorem says.
-/
import Derived.Test.YtgkejafaggaocaaDoorDT
import Derived.Test.YtgkejafaggaocaaDoorNR
import Derived.Test.YtgkejafaggaocaaDoorEng5
import Derived.Test.YtgkejafaggaocaaDoorProg
import Derived.KernelRfl
import Derived.Test.YtgkejafaggaocaaDoorDoors1
import Derived.Test.YtgkejafaggaocaaDoorDoors5
import Derived.Test.YtgkejafaggaocaaDoorDoors7
import Derived.Test.YtgkejafaggaocaaDoorDoorsF
set_option linter.unusedVariables false
set_option linter.unusedSimpArgs false
set_option maxRecDepth 100000
namespace Go.Proofs.YtgkejafaggaocaaDoor.RN
open Go Go.Eng Go.Proofs
open Go.Proofs.YtgkejafaggaocaaDoor.EX
open Go.Proofs.YtgkejafaggaocaaDoor.DT hiding gl
open Go.Proofs.YtgkejafaggaocaaDoor.NR hiding gl
noncomputable def gl : Nat → Option (List Cell) := glOf [(4, L_strconv_uint64pow10.map (Cell.int .u64))]
theorem gl_DT : ∀ g cs, Go.Proofs.YtgkejafaggaocaaDoor.DT.gl g = some cs → gl g = some cs := glOf_mono (by intro p hp; simp only [List.mem_cons, List.not_mem_nil, or_false] at hp; subst hp <;> rfl)
theorem gl_NR : ∀ g cs, Go.Proofs.YtgkejafaggaocaaDoor.NR.gl g = some cs → gl g = some cs := glOf_mono (by intro p hp; cases hp)
-- math.NaN
noncomputable def i_math_NaN : Shape := ⟨[], []⟩
noncomputable def o_math_NaN : Shape := ⟨[(0, .c (.flt))], []⟩
noncomputable def math_NaN : Option (Nat) :=
  (dFf 9221120237041090561).bind fun val => some val
noncomputable def g_math_NaN : Sg := ⟨i_math_NaN, o_math_NaN, Nat, fun y => ((y, ()), ()), fun x => math_NaN ⟩
noncomputable def C_math_NaN : Ctx := ⟨2, tiOf Tryd.prog, gl, sgOf [(95, gFf)], []⟩
noncomputable def r_math_NaN : AExit → Env → Option (Nat) := retK C_math_NaN 0 o_math_NaN (fun y => y.1.1) Tryd.f94.results.toList
theorem e_math_NaN : Sound Tryd.prog gl 94 g_math_NaN :=
  sound_plain (C := C_math_NaN) ⟨fun _ _ h => h, by kernel_rfl⟩ (sgOf_all' ⟨.inr xFf, trivial⟩) 94 Tryd.f94 g_math_NaN (fun y => y.1.1) (by kernel_rfl) (by kernel_rfl) (by kernel_rfl) (by kernel_rfl) (by kernel_rfl) (by kernel_rfl) (fun _ => rfl) (fun x => by kernel_rfl)
-- loop.example/g00051/impl.nan
noncomputable def i_impl_nan : Shape := ⟨[], []⟩
noncomputable def o_impl_nan : Shape := ⟨[(0, .c (.flt))], []⟩
noncomputable def impl_nan : Option (Nat) :=
  math_NaN.bind fun val => some val
noncomputable def g_impl_nan : Sg := ⟨i_impl_nan, o_impl_nan, Nat, fun y => ((y, ()), ()), fun x => impl_nan ⟩
noncomputable def C_impl_nan : Ctx := ⟨2, tiOf Tryd.prog, gl, sgOf [(94, g_math_NaN)], []⟩
noncomputable def r_impl_nan : AExit → Env → Option (Nat) := retK C_impl_nan 0 o_impl_nan (fun y => y.1.1) Tryd.f62.results.toList
theorem e_impl_nan : Sound Tryd.prog gl 62 g_impl_nan :=
  sound_plain (C := C_impl_nan) ⟨fun _ _ h => h, by kernel_rfl⟩ (sgOf_all' ⟨.inl ⟨by kernel_rfl, e_math_NaN⟩, trivial⟩) 62 Tryd.f62 g_impl_nan (fun y => y.1.1) (by kernel_rfl) (by kernel_rfl) (by kernel_rfl) (by kernel_rfl) (by kernel_rfl) (by kernel_rfl) (fun _ => rfl) (fun x => by kernel_rfl)
-- math.Inf
noncomputable def i_math_Inf : Shape := ⟨[(0, .c (.int .i64))], []⟩
noncomputable def o_math_Inf : Shape := ⟨[(0, .c (.flt))], []⟩
noncomputable def math_Inf (a0 : Int) : Option (Nat) :=
  bif decide (a0 ≥ 0) then (dFf 9218868437227405312).bind fun val => some val else (dFf 18442240474082181120).bind fun val => some val
noncomputable def g_math_Inf : Sg := ⟨i_math_Inf, o_math_Inf, Nat, fun y => ((y, ()), ()), fun x => math_Inf x.1.1⟩
noncomputable def C_math_Inf : Ctx := ⟨8, tiOf Tryd.prog, gl, sgOf [(95, gFf)], []⟩
noncomputable def r_math_Inf : AExit → Env → Option (Nat) := retK C_math_Inf 0 o_math_Inf (fun y => y.1.1) Tryd.f63.results.toList
theorem e_math_Inf : Sound Tryd.prog gl 63 g_math_Inf :=
  sound_plain (C := C_math_Inf) ⟨fun _ _ h => h, by kernel_rfl⟩ (sgOf_all' ⟨.inr xFf, trivial⟩) 63 Tryd.f63 g_math_Inf (fun y => y.1.1) (by kernel_rfl) (by kernel_rfl) (by kernel_rfl) (by kernel_rfl) (by kernel_rfl) (by kernel_rfl) (fun _ => rfl) (fun x => by kernel_rfl)
-- internal/stringslite.Cut
noncomputable def i_internal_stringslite_Cut : Shape := ⟨[(0, .c (.str)), (1, .c (.str))], []⟩
noncomputable def o_internal_stringslite_Cut : Shape := ⟨[(0, .tup [(false, [.str]), (false, [.str]), (false, [.bool])])], []⟩
noncomputable def internal_stringslite_Cut (a0 : ByteArray) (a1 : ByteArray) : Option (ByteArray × ByteArray × Bool) :=
  (dIdx a0 a1).bind fun val => bif decide (val ≥ 0) then bif decide (0 ≤ val) && decide (val ≤ (↑a0.size : Int)) then bif decide (0 ≤ IntKind.i64.wrap (val + (↑a1.size : Int))) && decide (IntKind.i64.wrap (val + (↑a1.size : Int)) ≤ (↑a0.size : Int)) then some (a0.extract (Int.toNat 0) (Int.toNat val), a0.extract (IntKind.i64.wrap (val + (↑a1.size : Int))).toNat (↑a0.size : Int).toNat, true) else none else none else some (a0, bs [], false)
noncomputable def g_internal_stringslite_Cut : Sg := ⟨i_internal_stringslite_Cut, o_internal_stringslite_Cut, ByteArray × ByteArray × Bool, fun y => ((((y.1, ()), (y.2.1, ()), (y.2.2, ()), ()), ()), ()), fun x => internal_stringslite_Cut x.1.1 x.1.2.1⟩
noncomputable def C_internal_stringslite_Cut : Ctx := ⟨23, tiOf Tryd.prog, gl, sgOf [(118, gIdx)], []⟩
noncomputable def r_internal_stringslite_Cut : AExit → Env → Option (ByteArray × ByteArray × Bool) := retK C_internal_stringslite_Cut 0 o_internal_stringslite_Cut (fun y => (y.1.1.1.1, y.1.1.2.1.1, y.1.1.2.2.1.1)) Tryd.f97.results.toList
theorem e_internal_stringslite_Cut : Sound Tryd.prog gl 97 g_internal_stringslite_Cut :=
  sound_plain (C := C_internal_stringslite_Cut) ⟨fun _ _ h => h, by kernel_rfl⟩ (sgOf_all' ⟨.inl ⟨by kernel_rfl, eIdx⟩, trivial⟩) 97 Tryd.f97 g_internal_stringslite_Cut (fun y => (y.1.1.1.1, y.1.1.2.1.1, y.1.1.2.2.1.1)) (by kernel_rfl) (by kernel_rfl) (by kernel_rfl) (by kernel_rfl) (by kernel_rfl) (by kernel_rfl) (fun _ => rfl) (fun x => by kernel_rfl)
-- strings.Cut
noncomputable def i_strings_Cut : Shape := ⟨[(0, .c (.str)), (1, .c (.str))], []⟩
noncomputable def o_strings_Cut : Shape := ⟨[(0, .tup [(false, [.str]), (false, [.str]), (false, [.bool])])], []⟩
noncomputable def strings_Cut (a0 : ByteArray) (a1 : ByteArray) : Option (ByteArray × ByteArray × Bool) :=
  (internal_stringslite_Cut a0 a1).bind fun val => some (val.fst, val.snd.fst, val.snd.snd)
noncomputable def g_strings_Cut : Sg := ⟨i_strings_Cut, o_strings_Cut, ByteArray × ByteArray × Bool, fun y => ((((y.1, ()), (y.2.1, ()), (y.2.2, ()), ()), ()), ()), fun x => strings_Cut x.1.1 x.1.2.1⟩
noncomputable def C_strings_Cut : Ctx := ⟨13, tiOf Tryd.prog, gl, sgOf [(97, g_internal_stringslite_Cut)], []⟩
noncomputable def r_strings_Cut : AExit → Env → Option (ByteArray × ByteArray × Bool) := retK C_strings_Cut 0 o_strings_Cut (fun y => (y.1.1.1.1, y.1.1.2.1.1, y.1.1.2.2.1.1)) Tryd.f65.results.toList
theorem e_strings_Cut : Sound Tryd.prog gl 65 g_strings_Cut :=
  sound_plain (C := C_strings_Cut) ⟨fun _ _ h => h, by kernel_rfl⟩ (sgOf_all' ⟨.inl ⟨by kernel_rfl, e_internal_stringslite_Cut⟩, trivial⟩) 65 Tryd.f65 g_strings_Cut (fun y => (y.1.1.1.1, y.1.1.2.1.1, y.1.1.2.2.1.1)) (by kernel_rfl) (by kernel_rfl) (by kernel_rfl) (by kernel_rfl) (by kernel_rfl) (by kernel_rfl) (fun _ => rfl) (fun x => by kernel_rfl)
-- loop.example/g00051/impl.ReadNumber
noncomputable def i_impl_ReadNumber : Shape := ⟨[(0, .c (.str))], []⟩
noncomputable def o_impl_ReadNumber : Shape := ⟨[(0, .tup [(false, [.flt]), (false, [.bool])])], []⟩
noncomputable def impl_ReadNumber (a0 : ByteArray) : Option (Nat × Bool) :=
  bif a0.toList == (bs [47]).toList then impl_nan.bind fun val => some (val, true)
  else
   bif a0.toList == (bs [104, 105, 103, 104]).toList then (math_Inf 1).bind fun val => some (val, true)
   else
    bif a0.toList == (bs [108, 111, 119]).toList then (math_Inf (-1)).bind fun val => some (val, true)
    else
     (dTrim a0 (bs [45])).bind fun val =>
      (strings_Cut val (bs [46])).bind fun val_1 =>
       (impl_digits val_1.fst).bind fun val_2 =>
        bif !val_2 then some (0, false)
        else
         bif val_1.snd.snd then
          (impl_digits val_1.snd.fst).bind fun val_3 =>
           bif !val_3 then some (0, false)
           else
            bif decide ((↑val_1.snd.fst.size : Int) > 6) then some (0, false)
            else
             bif decide ((↑val_1.fst.size : Int) > 1) then bif decide (0 < (↑val_1.fst.size : Int)) then bif bt val_1.fst 0 == 48 then some (0, false) else bif decide ((↑val_1.fst.size : Int) > 17) then some (0, false) else bif decide (val_1.fst.size + val_1.snd.fst.size ≤ 9223372036854775807) then (dPar (val_1.fst ++ val_1.snd.fst) 10 64).bind fun val_4 => bif decide (val_4 > 1000000000000000) then some (0, false) else bif val_4 == 0 then bif !ByteArray.toList val == a0.toList then some (0, false) else bif !ByteArray.toList val == a0.toList then (impl_ten (↑val_1.snd.fst.size : Int)).bind fun val => some (fdiv (fofi (IntKind.i64.wrap (0 - val_4))) val, true) else (impl_ten (↑val_1.snd.fst.size : Int)).bind fun val => some (fdiv (fofi val_4) val, true) else bif !ByteArray.toList val == a0.toList then (impl_ten (↑val_1.snd.fst.size : Int)).bind fun val => some (fdiv (fofi (IntKind.i64.wrap (0 - val_4))) val, true) else (impl_ten (↑val_1.snd.fst.size : Int)).bind fun val => some (fdiv (fofi val_4) val, true) else none else none
             else bif decide ((↑val_1.fst.size : Int) > 17) then some (0, false) else bif decide (val_1.fst.size + val_1.snd.fst.size ≤ 9223372036854775807) then (dPar (val_1.fst ++ val_1.snd.fst) 10 64).bind fun val_4 => bif decide (val_4 > 1000000000000000) then some (0, false) else bif val_4 == 0 then bif !ByteArray.toList val == a0.toList then some (0, false) else bif !ByteArray.toList val == a0.toList then (impl_ten (↑val_1.snd.fst.size : Int)).bind fun val => some (fdiv (fofi (IntKind.i64.wrap (0 - val_4))) val, true) else (impl_ten (↑val_1.snd.fst.size : Int)).bind fun val => some (fdiv (fofi val_4) val, true) else bif !ByteArray.toList val == a0.toList then (impl_ten (↑val_1.snd.fst.size : Int)).bind fun val => some (fdiv (fofi (IntKind.i64.wrap (0 - val_4))) val, true) else (impl_ten (↑val_1.snd.fst.size : Int)).bind fun val => some (fdiv (fofi val_4) val, true) else none
         else
          bif decide ((↑val_1.fst.size : Int) > 1) then bif decide (0 < (↑val_1.fst.size : Int)) then bif bt val_1.fst 0 == 48 then some (0, false) else bif decide ((↑val_1.fst.size : Int) > 17) then some (0, false) else bif decide (val_1.fst.size + val_1.snd.fst.size ≤ 9223372036854775807) then (dPar (val_1.fst ++ val_1.snd.fst) 10 64).bind fun val_3 => bif decide (val_3 > 1000000000000000) then some (0, false) else bif val_3 == 0 then bif !ByteArray.toList val == a0.toList then some (0, false) else bif !ByteArray.toList val == a0.toList then (impl_ten (↑val_1.snd.fst.size : Int)).bind fun val => some (fdiv (fofi (IntKind.i64.wrap (0 - val_3))) val, true) else (impl_ten (↑val_1.snd.fst.size : Int)).bind fun val => some (fdiv (fofi val_3) val, true) else bif !ByteArray.toList val == a0.toList then (impl_ten (↑val_1.snd.fst.size : Int)).bind fun val => some (fdiv (fofi (IntKind.i64.wrap (0 - val_3))) val, true) else (impl_ten (↑val_1.snd.fst.size : Int)).bind fun val => some (fdiv (fofi val_3) val, true) else none else none
          else bif decide ((↑val_1.fst.size : Int) > 17) then some (0, false) else bif decide (val_1.fst.size + val_1.snd.fst.size ≤ 9223372036854775807) then (dPar (val_1.fst ++ val_1.snd.fst) 10 64).bind fun val_3 => bif decide (val_3 > 1000000000000000) then some (0, false) else bif val_3 == 0 then bif !ByteArray.toList val == a0.toList then some (0, false) else bif !ByteArray.toList val == a0.toList then (impl_ten (↑val_1.snd.fst.size : Int)).bind fun val => some (fdiv (fofi (IntKind.i64.wrap (0 - val_3))) val, true) else (impl_ten (↑val_1.snd.fst.size : Int)).bind fun val => some (fdiv (fofi val_3) val, true) else bif !ByteArray.toList val == a0.toList then (impl_ten (↑val_1.snd.fst.size : Int)).bind fun val => some (fdiv (fofi (IntKind.i64.wrap (0 - val_3))) val, true) else (impl_ten (↑val_1.snd.fst.size : Int)).bind fun val => some (fdiv (fofi val_3) val, true) else none
noncomputable def g_impl_ReadNumber : Sg := ⟨i_impl_ReadNumber, o_impl_ReadNumber, Nat × Bool, fun y => ((((y.1, ()), (y.2, ()), ()), ()), ()), fun x => impl_ReadNumber x.1.1⟩
noncomputable def C_impl_ReadNumber : Ctx := ⟨92, tiOf Tryd.prog, gl, sgOf [(62, g_impl_nan), (63, g_math_Inf), (64, gTrim), (65, g_strings_Cut), (66, g_impl_digits), (67, gPar), (68, g_impl_ten)], []⟩
noncomputable def r_impl_ReadNumber : AExit → Env → Option (Nat × Bool) := retK C_impl_ReadNumber 0 o_impl_ReadNumber (fun y => (y.1.1.1.1, y.1.1.2.1.1)) Tryd.f22.results.toList
theorem e_impl_ReadNumber : Sound Tryd.prog gl 22 g_impl_ReadNumber :=
  sound_plain (C := C_impl_ReadNumber) ⟨fun _ _ h => h, by kernel_rfl⟩ (sgOf_all' ⟨.inl ⟨by kernel_rfl, e_impl_nan⟩, .inl ⟨by kernel_rfl, e_math_Inf⟩, .inl ⟨by kernel_rfl, eTrim⟩, .inl ⟨by kernel_rfl, e_strings_Cut⟩, .inl ⟨by kernel_rfl, (Sound.mono gl_DT (by rfl) e_impl_digits)⟩, .inl ⟨by kernel_rfl, ePar⟩, .inl ⟨by kernel_rfl, (Sound.mono gl_NR (by rfl) e_impl_ten)⟩, trivial⟩) 22 Tryd.f22 g_impl_ReadNumber (fun y => (y.1.1.1.1, y.1.1.2.1.1)) (by kernel_rfl) (by kernel_rfl) (by kernel_rfl) (by kernel_rfl) (by kernel_rfl) (by kernel_rfl) (fun _ => rfl) (fun x => by kernel_rfl)
end Go.Proofs.YtgkejafaggaocaaDoor.RN
