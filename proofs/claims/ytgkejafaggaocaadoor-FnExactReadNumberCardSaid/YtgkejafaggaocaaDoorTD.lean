/-
  Part of a proof by the engine: texts that a program of ours printed, or plain lemmas on them. No condition but what each theorem says.
-/
import Derived.Test.YtgkejafaggaocaaDoorDT
import Derived.Test.YtgkejafaggaocaaDoorNR
import Derived.Test.YtgkejafaggaocaaDoorEng5
import Derived.Test.YtgkejafaggaocaaDoorProg
import Derived.KernelRfl
import Derived.Test.YtgkejafaggaocaaDoorDoors1
import Derived.Test.YtgkejafaggaocaaDoorDoorsF
set_option linter.unusedVariables false
set_option linter.unusedSimpArgs false
set_option maxRecDepth 100000
namespace Go.Proofs.YtgkejafaggaocaaDoor.TD
open Go Go.Eng Go.Proofs
open Go.Proofs.YtgkejafaggaocaaDoor.EX
open Go.Proofs.YtgkejafaggaocaaDoor.DT hiding gl
open Go.Proofs.YtgkejafaggaocaaDoor.NR hiding gl
noncomputable def gl : Nat → Option (List Cell) := glOf [(4, L_strconv_uint64pow10.map (Cell.int .u64))]
theorem gl_DT : ∀ g cs, Go.Proofs.YtgkejafaggaocaaDoor.DT.gl g = some cs → gl g = some cs := glOf_mono (by intro p hp; simp only [List.mem_cons, List.not_mem_nil, or_false] at hp; subst hp <;> rfl)
theorem gl_NR : ∀ g cs, Go.Proofs.YtgkejafaggaocaaDoor.NR.gl g = some cs → gl g = some cs := glOf_mono (by intro p hp; cases hp)
-- loop.example/g00051/impl.Told
noncomputable def i_impl_Told : Shape := ⟨[(0, .c (.flt)), (1, .c (.int .i64))], []⟩
noncomputable def o_impl_Told : Shape := ⟨[(0, .c (.str))], []⟩
noncomputable def impl_Told (a0 : Nat) (a1 : Int) : Option (ByteArray) :=
  (impl_in a1 0 6).bind fun val =>
   bif !val then some (bs [])
   else
    (impl_missing a0).bind fun val =>
     bif val then some (bs [47])
     else
      (math_IsInf a0 1).bind fun val =>
       bif val then some (bs [104, 105, 103, 104])
       else
        (math_IsInf a0 (-1)).bind fun val =>
         bif val then some (bs [108, 111, 119])
         else
          (impl_ten a1).bind fun val =>
           (impl_Nearest (fmul a0 val)).bind fun val =>
            bif !val.snd then some (bs [102, 97, 114])
            else
             bif decide (val.fst < 0) then
              bif a1 == 0 then (impl_dec (IntKind.i64.wrap (0 - val.fst))).bind fun val => bif decide ((bs [45]).size + ByteArray.size val ≤ 9223372036854775807) then some (bs [45] ++ val) else none
              else (impl_fill (IntKind.i64.wrap (0 - val.fst)) (IntKind.i64.wrap (a1 + 1))).bind fun val => bif decide (0 ≤ IntKind.i64.wrap ((↑(ByteArray.size val) : Int) - a1)) && decide (IntKind.i64.wrap ((↑(ByteArray.size val) : Int) - a1) ≤ (↑(ByteArray.size val) : Int)) then bif decide ((bs [45]).size + (ByteArray.extract val (Int.toNat 0) (IntKind.i64.wrap ((↑(ByteArray.size val) : Int) - a1)).toNat).size ≤ 9223372036854775807) then bif decide ((bs [45] ++ ByteArray.extract val (Int.toNat 0) (IntKind.i64.wrap ((↑(ByteArray.size val) : Int) - a1)).toNat).size + (bs [46]).size ≤ 9223372036854775807) then bif decide (0 ≤ IntKind.i64.wrap ((↑(ByteArray.size val) : Int) - a1)) && decide (IntKind.i64.wrap ((↑(ByteArray.size val) : Int) - a1) ≤ (↑(ByteArray.size val) : Int)) then bif decide ((bs [45] ++ ByteArray.extract val (Int.toNat 0) (IntKind.i64.wrap ((↑(ByteArray.size val) : Int) - a1)).toNat ++ bs [46]).size + (ByteArray.extract val (IntKind.i64.wrap ((↑(ByteArray.size val) : Int) - a1)).toNat (↑(ByteArray.size val) : Int).toNat).size ≤ 9223372036854775807) then some (bs [45] ++ ByteArray.extract val (Int.toNat 0) (IntKind.i64.wrap ((↑(ByteArray.size val) : Int) - a1)).toNat ++ bs [46] ++ ByteArray.extract val (IntKind.i64.wrap ((↑(ByteArray.size val) : Int) - a1)).toNat (↑(ByteArray.size val) : Int).toNat) else none else none else none else none else none
             else
              bif a1 == 0 then (impl_dec val.fst).bind fun val => bif decide ((bs []).size + ByteArray.size val ≤ 9223372036854775807) then some (bs [] ++ val) else none
              else (impl_fill val.fst (IntKind.i64.wrap (a1 + 1))).bind fun val => bif decide (0 ≤ IntKind.i64.wrap ((↑(ByteArray.size val) : Int) - a1)) && decide (IntKind.i64.wrap ((↑(ByteArray.size val) : Int) - a1) ≤ (↑(ByteArray.size val) : Int)) then bif decide ((bs []).size + (ByteArray.extract val (Int.toNat 0) (IntKind.i64.wrap ((↑(ByteArray.size val) : Int) - a1)).toNat).size ≤ 9223372036854775807) then bif decide ((bs [] ++ ByteArray.extract val (Int.toNat 0) (IntKind.i64.wrap ((↑(ByteArray.size val) : Int) - a1)).toNat).size + (bs [46]).size ≤ 9223372036854775807) then bif decide (0 ≤ IntKind.i64.wrap ((↑(ByteArray.size val) : Int) - a1)) && decide (IntKind.i64.wrap ((↑(ByteArray.size val) : Int) - a1) ≤ (↑(ByteArray.size val) : Int)) then bif decide ((bs [] ++ ByteArray.extract val (Int.toNat 0) (IntKind.i64.wrap ((↑(ByteArray.size val) : Int) - a1)).toNat ++ bs [46]).size + (ByteArray.extract val (IntKind.i64.wrap ((↑(ByteArray.size val) : Int) - a1)).toNat (↑(ByteArray.size val) : Int).toNat).size ≤ 9223372036854775807) then some (bs [] ++ ByteArray.extract val (Int.toNat 0) (IntKind.i64.wrap ((↑(ByteArray.size val) : Int) - a1)).toNat ++ bs [46] ++ ByteArray.extract val (IntKind.i64.wrap ((↑(ByteArray.size val) : Int) - a1)).toNat (↑(ByteArray.size val) : Int).toNat) else none else none else none else none else none
noncomputable def g_impl_Told : Sg := ⟨i_impl_Told, o_impl_Told, ByteArray, fun y => ((y, ()), ()), fun x => impl_Told x.1.1 x.1.2.1⟩
noncomputable def C_impl_Told : Ctx := ⟨60, tiOf Tryd.prog, gl, sgOf [(38, g_impl_in), (74, g_impl_missing), (75, g_math_IsInf), (68, g_impl_ten), (76, g_impl_Nearest), (40, g_impl_dec), (77, g_impl_fill)], []⟩
noncomputable def r_impl_Told : AExit → Env → Option (ByteArray) := retK C_impl_Told 0 o_impl_Told (fun y => y.1.1) Tryd.f26.results.toList
theorem e_impl_Told : Sound Tryd.prog gl 26 g_impl_Told :=
  sound_plain (C := C_impl_Told) ⟨fun _ _ h => h, by kernel_rfl⟩ (sgOf_all' ⟨.inl ⟨by kernel_rfl, (Sound.mono gl_DT (by rfl) e_impl_in)⟩, .inl ⟨by kernel_rfl, (Sound.mono gl_NR (by rfl) e_impl_missing)⟩, .inl ⟨by kernel_rfl, (Sound.mono gl_NR (by rfl) e_math_IsInf)⟩, .inl ⟨by kernel_rfl, (Sound.mono gl_NR (by rfl) e_impl_ten)⟩, .inl ⟨by kernel_rfl, (Sound.mono gl_NR (by rfl) e_impl_Nearest)⟩, .inl ⟨by kernel_rfl, (Sound.mono gl_DT (by rfl) e_impl_dec)⟩, .inl ⟨by kernel_rfl, (Sound.mono gl_DT (by rfl) e_impl_fill)⟩, trivial⟩) 26 Tryd.f26 g_impl_Told (fun y => y.1.1) (by kernel_rfl) (by kernel_rfl) (by kernel_rfl) (by kernel_rfl) (by kernel_rfl) (by kernel_rfl) (fun _ => rfl) (fun x => by kernel_rfl)
-- loop.example/g00051/spec.l1Point
noncomputable def i_spec_l1Point : Shape := ⟨[(0, .c (.int .i64)), (1, .c (.int .i64))], []⟩
noncomputable def o_spec_l1Point : Shape := ⟨[(0, .c (.str))], []⟩
noncomputable def s_spec_l1Point_8 : Shape := ⟨[(1, .c (.int .i64)), (5, .c (.str)), (6, .c (.str))], []⟩
noncomputable def spec_l1Point_L8 : Nat → Int → ByteArray → ByteArray → Option (ByteArray)
  | 0, _, _, _ => none
  | k + 1, a0, a1, a2 =>
  bif decide ((↑a1.size : Int) ≤ a0) then bif decide ((bs [48]).size + a1.size ≤ 9223372036854775807) then spec_l1Point_L8 k a0 (bs [48] ++ a1) a2 else none else bif decide (0 ≤ IntKind.i64.wrap ((↑a1.size : Int) - a0)) && decide (IntKind.i64.wrap ((↑a1.size : Int) - a0) ≤ (↑a1.size : Int)) then bif decide (a2.size + (a1.extract (Int.toNat 0) (IntKind.i64.wrap ((↑a1.size : Int) - a0)).toNat).size ≤ 9223372036854775807) then bif decide ((a2 ++ a1.extract (Int.toNat 0) (IntKind.i64.wrap ((↑a1.size : Int) - a0)).toNat).size + (bs [46]).size ≤ 9223372036854775807) then bif decide (0 ≤ IntKind.i64.wrap ((↑a1.size : Int) - a0)) && decide (IntKind.i64.wrap ((↑a1.size : Int) - a0) ≤ (↑a1.size : Int)) then bif decide ((a2 ++ a1.extract (Int.toNat 0) (IntKind.i64.wrap ((↑a1.size : Int) - a0)).toNat ++ bs [46]).size + (a1.extract (IntKind.i64.wrap ((↑a1.size : Int) - a0)).toNat (↑a1.size : Int).toNat).size ≤ 9223372036854775807) then some (a2 ++ a1.extract (Int.toNat 0) (IntKind.i64.wrap ((↑a1.size : Int) - a0)).toNat ++ bs [46] ++ a1.extract (IntKind.i64.wrap ((↑a1.size : Int) - a0)).toNat (↑a1.size : Int).toNat) else none else none else none else none else none
noncomputable def j_spec_l1Point : List (Nat × (Nat → Cut (ByteArray))) := [(8, fun k => ⟨s_spec_l1Point_8, fun x => spec_l1Point_L8 k x.1.1 x.1.2.1 x.1.2.2.1⟩)]
noncomputable def spec_l1Point_F (k : Nat) (a0 : Int) (a1 : Int) : Option (ByteArray) :=
  (spec_l1Dec a0).bind fun val => bif a1 == 0 then some val else bif decide (a0 < 0) then bif decide (0 ≤ 1) && decide (1 ≤ (↑(ByteArray.size val) : Int)) then spec_l1Point_L8 k a1 (ByteArray.extract val (Int.toNat 1) (↑(ByteArray.size val) : Int).toNat) (bs [45]) else none else spec_l1Point_L8 k a1 val (bs [])
noncomputable def spec_l1Point (a0 : Int) (a1 : Int) : Option (ByteArray) := evF fun k => spec_l1Point_F k a0 a1
noncomputable def g_spec_l1Point : Sg := ⟨i_spec_l1Point, o_spec_l1Point, ByteArray, fun y => ((y, ()), ()), fun x => spec_l1Point x.1.1 x.1.2.1⟩
noncomputable def C_spec_l1Point : Ctx := ⟨37, tiOf Tryd.prog, gl, sgOf [(78, g_spec_l1Dec)], []⟩
noncomputable def r_spec_l1Point : AExit → Env → Option (ByteArray) := retK C_spec_l1Point 0 o_spec_l1Point (fun y => y.1.1) Tryd.f60.results.toList
theorem e_spec_l1Point : Sound Tryd.prog gl 60 g_spec_l1Point :=
  sound_cuts (C := C_spec_l1Point) ⟨fun _ _ h => h, by kernel_rfl⟩ (sgOf_all' ⟨.inl ⟨by kernel_rfl, (Sound.mono gl_DT (by rfl) e_spec_l1Dec)⟩, trivial⟩) 60 Tryd.f60 g_spec_l1Point (fun y => y.1.1) j_spec_l1Point 1 (by kernel_rfl) (by kernel_rfl) (by kernel_rfl) (by kernel_rfl) (by kernel_rfl) (by kernel_rfl) (fun _ => rfl) (by kernel_rfl) (by kernel_rfl)
    ⟨trivial, s_spec_l1Point_8, fun k x => spec_l1Point_L8 k x.1.1 x.1.2.1 x.1.2.2.1, ⟨fun k => by kernel_rfl, fun k y => by kernel_rfl, fun y => by kernel_rfl⟩⟩
    (fun k x => spec_l1Point_F k x.1.1 x.1.2.1) (fun x => rfl) (fun k x => by kernel_rfl)
-- loop.example/g00051/spec.Told
noncomputable def i_spec_Told : Shape := ⟨[(0, .c (.flt)), (1, .c (.int .i64))], []⟩
noncomputable def o_spec_Told : Shape := ⟨[(0, .c (.str))], []⟩
noncomputable def spec_Told (a0 : Nat) (a1 : Int) : Option (ByteArray) :=
  bif decide (a1 < 0) then some (bs []) else bif decide (a1 > 6) then some (bs []) else bif !feq a0 a0 then some (bs [47]) else (spec_Known a0).bind fun val => bif !val then bif fgt a0 0 then some (bs [104, 105, 103, 104]) else (spec_Known a0).bind fun val => bif !val then some (bs [108, 111, 119]) else (spec_l1Ten a1).bind fun val => (spec_Nearest (fmul a0 (fofi val))).bind fun val => bif !val.snd then some (bs [102, 97, 114]) else (spec_l1Point val.fst a1).bind fun val => some val else (spec_Known a0).bind fun val => bif !val then some (bs [108, 111, 119]) else (spec_l1Ten a1).bind fun val => (spec_Nearest (fmul a0 (fofi val))).bind fun val => bif !val.snd then some (bs [102, 97, 114]) else (spec_l1Point val.fst a1).bind fun val => some val
noncomputable def g_spec_Told : Sg := ⟨i_spec_Told, o_spec_Told, ByteArray, fun y => ((y, ()), ()), fun x => spec_Told x.1.1 x.1.2.1⟩
noncomputable def C_spec_Told : Ctx := ⟨40, tiOf Tryd.prog, gl, sgOf [(72, g_spec_Known), (61, g_spec_l1Ten), (73, g_spec_Nearest), (60, g_spec_l1Point)], []⟩
noncomputable def r_spec_Told : AExit → Env → Option (ByteArray) := retK C_spec_Told 0 o_spec_Told (fun y => y.1.1) Tryd.f25.results.toList
theorem e_spec_Told : Sound Tryd.prog gl 25 g_spec_Told :=
  sound_plain (C := C_spec_Told) ⟨fun _ _ h => h, by kernel_rfl⟩ (sgOf_all' ⟨.inl ⟨by kernel_rfl, (Sound.mono gl_NR (by rfl) e_spec_Known)⟩, .inl ⟨by kernel_rfl, (Sound.mono gl_NR (by rfl) e_spec_l1Ten)⟩, .inl ⟨by kernel_rfl, (Sound.mono gl_NR (by rfl) e_spec_Nearest)⟩, .inl ⟨by kernel_rfl, e_spec_l1Point⟩, trivial⟩) 25 Tryd.f25 g_spec_Told (fun y => y.1.1) (by kernel_rfl) (by kernel_rfl) (by kernel_rfl) (by kernel_rfl) (by kernel_rfl) (by kernel_rfl) (fun _ => rfl) (fun x => by kernel_rfl)
end Go.Proofs.YtgkejafaggaocaaDoor.TD
