/-
  Part of a proof by the engine: texts that a program of ours printed, or plain lemmas on them. No condition but what each theorem says.
-/
import Derived.Test.YtmcmkdiefpepnaaDoorDT
import Derived.Test.YtmcmkdiefpepnaaDoorNR
import Derived.Test.YtmcmkdiefpepnaaDoorEng5
import Derived.Test.YtmcmkdiefpepnaaDoorProg
import Derived.KernelRfl
import Derived.Test.YtmcmkdiefpepnaaDoorDoors2
import Derived.Test.YtmcmkdiefpepnaaDoorDoorsF
set_option linter.unusedVariables false
set_option linter.unusedSimpArgs false
set_option maxRecDepth 100000
namespace Go.Proofs.YtmcmkdiefpepnaaDoor.TD
open Go Go.Eng Go.Proofs
open Go.Proofs.YtmcmkdiefpepnaaDoor.EX
open Go.Proofs.YtmcmkdiefpepnaaDoor.DT hiding gl
open Go.Proofs.YtmcmkdiefpepnaaDoor.NR hiding gl
noncomputable def gl : Nat → Option (List Cell) := glOf [(6, L_strconv_uint64pow10.map (Cell.int .u64))]
theorem gl_DT : ∀ g cs, Go.Proofs.YtmcmkdiefpepnaaDoor.DT.gl g = some cs → gl g = some cs := glOf_mono (by intro p hp; simp only [List.mem_cons, List.not_mem_nil, or_false] at hp; subst hp <;> rfl)
theorem gl_NR : ∀ g cs, Go.Proofs.YtmcmkdiefpepnaaDoor.NR.gl g = some cs → gl g = some cs := glOf_mono (by intro p hp; cases hp)
-- loop.example/g00051/spec.l1Point
noncomputable def i_spec_l1Point : Shape := ⟨[(0, .c (.int .i64)), (1, .c (.int .i64))], []⟩
noncomputable def o_spec_l1Point : Shape := ⟨[(0, .c (.str))], []⟩
noncomputable def s_spec_l1Point_8 : Shape := ⟨[(1, .c (.int .i64)), (5, .c (.str)), (6, .c (.str))], []⟩
noncomputable def spec_l1Point_L8 : Nat → Int → ByteArray → ByteArray → Option (ByteArray)
  | 0, _, _, _ => none
  | k + 1, a0, a1, a2 =>
  bif decide ((↑a1.size : Int) ≤ a0) then bif decide ((bs [48]).size + a1.size ≤ 9223372036854775807) then spec_l1Point_L8 k a0 (bs [48] ++ a1) a2 else none else bif decide (0 ≤ IntKind.i64.wrap ((↑a1.size : Int) - a0)) && decide (IntKind.i64.wrap ((↑a1.size : Int) - a0) ≤ (↑a1.size : Int)) then bif decide (a2.size + (a1.extract (Int.toNat 0) (IntKind.i64.wrap ((↑a1.size : Int) - a0)).toNat).size ≤ 9223372036854775807) then bif decide ((a2 ++ a1.extract (Int.toNat 0) (IntKind.i64.wrap ((↑a1.size : Int) - a0)).toNat).size + (bs [46]).size ≤ 9223372036854775807) then bif decide (0 ≤ IntKind.i64.wrap ((↑a1.size : Int) - a0)) && decide (IntKind.i64.wrap ((↑a1.size : Int) - a0) ≤ (↑a1.size : Int)) then bif decide ((a2 ++ a1.extract (Int.toNat 0) (IntKind.i64.wrap ((↑a1.size : Int) - a0)).toNat ++ bs [46]).size + (a1.extract (IntKind.i64.wrap ((↑a1.size : Int) - a0)).toNat (↑a1.size : Int).toNat).size ≤ 9223372036854775807) then some (a2 ++ a1.extract (Int.toNat 0) (IntKind.i64.wrap ((↑a1.size : Int) - a0)).toNat ++ bs [46] ++ a1.extract (IntKind.i64.wrap ((↑a1.size : Int) - a0)).toNat (↑a1.size : Int).toNat) else none else none else none else none else none
noncomputable def j_spec_l1Point : List (Nat × (Nat → Cut (ByteArray))) := [(8, fun k => ⟨s_spec_l1Point_8, fun x => spec_l1Point_L8 k x.1.1 x.1.2.1 x.1.2.2.1⟩)]
noncomputable def spec_l1Point_F (k : Nat) (a0 : Int) (a1 : Int) : Option (ByteArray) :=
  (spec_l1Dec a0).bind fun val => bif a1 == 0 then some val else bif decide (a0 < 0) then bif decide (0 ≤ 1) && decide (1 ≤ (↑(ByteArray.size val) : Int)) then spec_l1Point_L8 k a1 (ByteArray.extract val (Int.toNat 1) (↑(ByteArray.size val) : Int).toNat) (bs [45]) else none else spec_l1Point_L8 k a1 val (bs [])
noncomputable def spec_l1Point (a0 : Int) (a1 : Int) : Option (ByteArray) := evF fun k => spec_l1Point_F k a0 a1
noncomputable def g_spec_l1Point : Sg := ⟨i_spec_l1Point, o_spec_l1Point, ByteArray, fun y => ((y, ()), ()), fun x => spec_l1Point x.1.1 x.1.2.1⟩
noncomputable def C_spec_l1Point : Ctx := ⟨37, tiOf Tryd.prog, gl, sgOf [(129, g_spec_l1Dec)]⟩
noncomputable def r_spec_l1Point : AExit → Env → Option (ByteArray) := retK C_spec_l1Point 0 o_spec_l1Point (fun y => y.1.1) Tryd.f72.results.toList
theorem e_spec_l1Point : Sound Tryd.prog gl 72 g_spec_l1Point :=
  sound_cuts (C := C_spec_l1Point) ⟨fun _ _ h => h, by kernel_rfl⟩ (sgOf_all' ⟨.inl ⟨by kernel_rfl, (Sound.mono gl_DT (by rfl) e_spec_l1Dec)⟩, trivial⟩) 72 Tryd.f72 g_spec_l1Point (fun y => y.1.1) j_spec_l1Point 1 (by kernel_rfl) (by kernel_rfl) (by kernel_rfl) (by kernel_rfl) (by kernel_rfl) (by kernel_rfl) (fun _ => rfl) (by kernel_rfl) (by kernel_rfl)
    ⟨trivial, s_spec_l1Point_8, fun k x => spec_l1Point_L8 k x.1.1 x.1.2.1 x.1.2.2.1, ⟨fun k => by kernel_rfl, fun k y => by kernel_rfl, fun y => by kernel_rfl⟩⟩
    (fun k x => spec_l1Point_F k x.1.1 x.1.2.1) (fun x => rfl) (fun k x => by kernel_rfl)
-- loop.example/g00051/spec.Told
noncomputable def i_spec_Told : Shape := ⟨[(0, .c (.flt)), (1, .c (.int .i64))], []⟩
noncomputable def o_spec_Told : Shape := ⟨[(0, .c (.str))], []⟩
noncomputable def spec_Told (a0 : Nat) (a1 : Int) : Option (ByteArray) :=
  bif decide (a1 < 0) then some (bs []) else bif decide (a1 > 6) then some (bs []) else bif !feq a0 a0 then some (bs [47]) else (spec_Known a0).bind fun val => bif !val then bif fgt a0 0 then some (bs [104, 105, 103, 104]) else (spec_Known a0).bind fun val => bif !val then some (bs [108, 111, 119]) else (spec_l1Ten a1).bind fun val => (spec_Nearest (fmul a0 (fofi val))).bind fun val => bif !val.snd then some (bs [102, 97, 114]) else (spec_l1Point val.fst a1).bind fun val => some val else (spec_Known a0).bind fun val => bif !val then some (bs [108, 111, 119]) else (spec_l1Ten a1).bind fun val => (spec_Nearest (fmul a0 (fofi val))).bind fun val => bif !val.snd then some (bs [102, 97, 114]) else (spec_l1Point val.fst a1).bind fun val => some val
noncomputable def g_spec_Told : Sg := ⟨i_spec_Told, o_spec_Told, ByteArray, fun y => ((y, ()), ()), fun x => spec_Told x.1.1 x.1.2.1⟩
noncomputable def C_spec_Told : Ctx := ⟨40, tiOf Tryd.prog, gl, sgOf [(69, g_spec_Known), (71, g_spec_l1Ten), (70, g_spec_Nearest), (72, g_spec_l1Point)]⟩
noncomputable def r_spec_Told : AExit → Env → Option (ByteArray) := retK C_spec_Told 0 o_spec_Told (fun y => y.1.1) Tryd.f24.results.toList
theorem e_spec_Told : Sound Tryd.prog gl 24 g_spec_Told :=
  sound_plain (C := C_spec_Told) ⟨fun _ _ h => h, by kernel_rfl⟩ (sgOf_all' ⟨.inl ⟨by kernel_rfl, (Sound.mono gl_NR (by rfl) e_spec_Known)⟩, .inl ⟨by kernel_rfl, (Sound.mono gl_NR (by rfl) e_spec_l1Ten)⟩, .inl ⟨by kernel_rfl, (Sound.mono gl_NR (by rfl) e_spec_Nearest)⟩, .inl ⟨by kernel_rfl, e_spec_l1Point⟩, trivial⟩) 24 Tryd.f24 g_spec_Told (fun y => y.1.1) (by kernel_rfl) (by kernel_rfl) (by kernel_rfl) (by kernel_rfl) (by kernel_rfl) (by kernel_rfl) (fun _ => rfl) (fun x => by kernel_rfl)
-- loop.example/g00051/impl.Told
noncomputable def i_impl_Told : Shape := ⟨[(0, .c (.flt)), (1, .c (.int .i64))], []⟩
noncomputable def o_impl_Told : Shape := ⟨[(0, .c (.str))], []⟩
noncomputable def impl_Told (a0 : Nat) (a1 : Int) : Option (ByteArray) :=
  (impl_in a1 0 6).bind fun val =>
   bif !val then some (bs [])
   else
    (impl_missing a0).bind fun val =>
     bif val then some (bs [47])
     else
      (math_IsInf a0 1).bind fun val =>
       bif val then some (bs [104, 105, 103, 104])
       else
        (math_IsInf a0 (-1)).bind fun val =>
         bif val then some (bs [108, 111, 119])
         else
          (impl_ten a1).bind fun val =>
           (impl_Nearest (fmul a0 val)).bind fun val =>
            bif !val.snd then some (bs [102, 97, 114])
            else
             bif decide (val.fst < 0) then
              bif a1 == 0 then (impl_dec (IntKind.i64.wrap (0 - val.fst))).bind fun val => bif decide ((bs [45]).size + ByteArray.size val ≤ 9223372036854775807) then some (bs [45] ++ val) else none
              else (impl_fill (IntKind.i64.wrap (0 - val.fst)) (IntKind.i64.wrap (a1 + 1))).bind fun val => bif decide (0 ≤ IntKind.i64.wrap ((↑(ByteArray.size val) : Int) - a1)) && decide (IntKind.i64.wrap ((↑(ByteArray.size val) : Int) - a1) ≤ (↑(ByteArray.size val) : Int)) then bif decide ((bs [45]).size + (ByteArray.extract val (Int.toNat 0) (IntKind.i64.wrap ((↑(ByteArray.size val) : Int) - a1)).toNat).size ≤ 9223372036854775807) then bif decide ((bs [45] ++ ByteArray.extract val (Int.toNat 0) (IntKind.i64.wrap ((↑(ByteArray.size val) : Int) - a1)).toNat).size + (bs [46]).size ≤ 9223372036854775807) then bif decide (0 ≤ IntKind.i64.wrap ((↑(ByteArray.size val) : Int) - a1)) && decide (IntKind.i64.wrap ((↑(ByteArray.size val) : Int) - a1) ≤ (↑(ByteArray.size val) : Int)) then bif decide ((bs [45] ++ ByteArray.extract val (Int.toNat 0) (IntKind.i64.wrap ((↑(ByteArray.size val) : Int) - a1)).toNat ++ bs [46]).size + (ByteArray.extract val (IntKind.i64.wrap ((↑(ByteArray.size val) : Int) - a1)).toNat (↑(ByteArray.size val) : Int).toNat).size ≤ 9223372036854775807) then some (bs [45] ++ ByteArray.extract val (Int.toNat 0) (IntKind.i64.wrap ((↑(ByteArray.size val) : Int) - a1)).toNat ++ bs [46] ++ ByteArray.extract val (IntKind.i64.wrap ((↑(ByteArray.size val) : Int) - a1)).toNat (↑(ByteArray.size val) : Int).toNat) else none else none else none else none else none
             else
              bif a1 == 0 then (impl_dec val.fst).bind fun val => bif decide ((bs []).size + ByteArray.size val ≤ 9223372036854775807) then some (bs [] ++ val) else none
              else (impl_fill val.fst (IntKind.i64.wrap (a1 + 1))).bind fun val => bif decide (0 ≤ IntKind.i64.wrap ((↑(ByteArray.size val) : Int) - a1)) && decide (IntKind.i64.wrap ((↑(ByteArray.size val) : Int) - a1) ≤ (↑(ByteArray.size val) : Int)) then bif decide ((bs []).size + (ByteArray.extract val (Int.toNat 0) (IntKind.i64.wrap ((↑(ByteArray.size val) : Int) - a1)).toNat).size ≤ 9223372036854775807) then bif decide ((bs [] ++ ByteArray.extract val (Int.toNat 0) (IntKind.i64.wrap ((↑(ByteArray.size val) : Int) - a1)).toNat).size + (bs [46]).size ≤ 9223372036854775807) then bif decide (0 ≤ IntKind.i64.wrap ((↑(ByteArray.size val) : Int) - a1)) && decide (IntKind.i64.wrap ((↑(ByteArray.size val) : Int) - a1) ≤ (↑(ByteArray.size val) : Int)) then bif decide ((bs [] ++ ByteArray.extract val (Int.toNat 0) (IntKind.i64.wrap ((↑(ByteArray.size val) : Int) - a1)).toNat ++ bs [46]).size + (ByteArray.extract val (IntKind.i64.wrap ((↑(ByteArray.size val) : Int) - a1)).toNat (↑(ByteArray.size val) : Int).toNat).size ≤ 9223372036854775807) then some (bs [] ++ ByteArray.extract val (Int.toNat 0) (IntKind.i64.wrap ((↑(ByteArray.size val) : Int) - a1)).toNat ++ bs [46] ++ ByteArray.extract val (IntKind.i64.wrap ((↑(ByteArray.size val) : Int) - a1)).toNat (↑(ByteArray.size val) : Int).toNat) else none else none else none else none else none
noncomputable def g_impl_Told : Sg := ⟨i_impl_Told, o_impl_Told, ByteArray, fun y => ((y, ()), ()), fun x => impl_Told x.1.1 x.1.2.1⟩
noncomputable def C_impl_Told : Ctx := ⟨60, tiOf Tryd.prog, gl, sgOf [(73, g_impl_in), (74, g_impl_missing), (75, g_math_IsInf), (77, g_impl_ten), (76, g_impl_Nearest), (78, g_impl_dec), (79, g_impl_fill)]⟩
noncomputable def r_impl_Told : AExit → Env → Option (ByteArray) := retK C_impl_Told 0 o_impl_Told (fun y => y.1.1) Tryd.f25.results.toList
theorem e_impl_Told : Sound Tryd.prog gl 25 g_impl_Told :=
  sound_plain (C := C_impl_Told) ⟨fun _ _ h => h, by kernel_rfl⟩ (sgOf_all' ⟨.inl ⟨by kernel_rfl, (Sound.mono gl_DT (by rfl) e_impl_in)⟩, .inl ⟨by kernel_rfl, (Sound.mono gl_NR (by rfl) e_impl_missing)⟩, .inl ⟨by kernel_rfl, (Sound.mono gl_NR (by rfl) e_math_IsInf)⟩, .inl ⟨by kernel_rfl, (Sound.mono gl_NR (by rfl) e_impl_ten)⟩, .inl ⟨by kernel_rfl, (Sound.mono gl_NR (by rfl) e_impl_Nearest)⟩, .inl ⟨by kernel_rfl, (Sound.mono gl_DT (by rfl) e_impl_dec)⟩, .inl ⟨by kernel_rfl, (Sound.mono gl_DT (by rfl) e_impl_fill)⟩, trivial⟩) 25 Tryd.f25 g_impl_Told (fun y => y.1.1) (by kernel_rfl) (by kernel_rfl) (by kernel_rfl) (by kernel_rfl) (by kernel_rfl) (by kernel_rfl) (fun _ => rfl) (fun x => by kernel_rfl)
-- loop.example/g00051/laws.FnExactTold
noncomputable def i_laws_FnExactTold : Shape := ⟨[(0, .c (.flt)), (1, .c (.int .i64))], []⟩
noncomputable def o_laws_FnExactTold : Shape := ⟨[(0, .c (.bool))], []⟩
noncomputable def laws_FnExactTold (a0 : Nat) (a1 : Int) : Option (Bool) :=
  (spec_Told a0 a1).bind fun val => (impl_Told a0 a1).bind fun val_1 => bif !ByteArray.toList val_1 == ByteArray.toList val then some false else some true
noncomputable def g_laws_FnExactTold : Sg := ⟨i_laws_FnExactTold, o_laws_FnExactTold, Bool, fun y => ((y, ()), ()), fun x => laws_FnExactTold x.1.1 x.1.2.1⟩
noncomputable def C_laws_FnExactTold : Ctx := ⟨16, tiOf Tryd.prog, gl, sgOf [(24, g_spec_Told), (25, g_impl_Told)]⟩
noncomputable def r_laws_FnExactTold : AExit → Env → Option (Bool) := retK C_laws_FnExactTold 0 o_laws_FnExactTold (fun y => y.1.1) Tryd.f4.results.toList
theorem e_laws_FnExactTold : Sound Tryd.prog gl 4 g_laws_FnExactTold :=
  sound_plain (C := C_laws_FnExactTold) ⟨fun _ _ h => h, by kernel_rfl⟩ (sgOf_all' ⟨.inl ⟨by kernel_rfl, e_spec_Told⟩, .inl ⟨by kernel_rfl, e_impl_Told⟩, trivial⟩) 4 Tryd.f4 g_laws_FnExactTold (fun y => y.1.1) (by kernel_rfl) (by kernel_rfl) (by kernel_rfl) (by kernel_rfl) (by kernel_rfl) (by kernel_rfl) (fun _ => rfl) (fun x => by kernel_rfl)
end Go.Proofs.YtmcmkdiefpepnaaDoor.TD
