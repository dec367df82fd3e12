/-
  Part of a proof by the engine: texts that a program of ours printed, or plain lemmas on them. No condition but what each theorem says.
-/
import Derived.Test.YtgkejafaggaocaaDoorDT
import Derived.Test.YtgkejafaggaocaaDoorEng5
import Derived.Test.YtgkejafaggaocaaDoorProg
import Derived.KernelRfl
import Derived.Test.YtgkejafaggaocaaDoorDoors1
import Derived.Test.YtgkejafaggaocaaDoorDoors2
set_option linter.unusedVariables false
set_option linter.unusedSimpArgs false
set_option maxRecDepth 100000
namespace Go.Proofs.YtgkejafaggaocaaDoor.Q3
open Go Go.Eng Go.Proofs
open Go.Proofs.YtgkejafaggaocaaDoor.EX
open Go.Proofs.YtgkejafaggaocaaDoor.DT hiding gl
noncomputable def gl : Nat → Option (List Cell) := glOf [(4, L_strconv_uint64pow10.map (Cell.int .u64))]
theorem gl_DT : ∀ g cs, Go.Proofs.YtgkejafaggaocaaDoor.DT.gl g = some cs → gl g = some cs := glOf_mono (by intro p hp; simp only [List.mem_cons, List.not_mem_nil, or_false] at hp; subst hp <;> rfl)
-- loop.example/g00051/impl.RequestText$4
noncomputable def i_impl_RequestText_4 : Shape := ⟨[(0, .c (.int .i64)), (1, .c (.ptr 0 0))], [.box 40 [.sl .str, .sl (.int .i64), .sl (.int .i64), .sl (.int .i64)]]⟩
noncomputable def o_impl_RequestText_4 : Shape := ⟨[(0, .c (.str))], [.box 40 [.sl .str, .sl (.int .i64), .sl (.int .i64), .sl (.int .i64)]]⟩
noncomputable def impl_RequestText_4 (a0 : Int) (a1 : List ByteArray) (a2 : List Int) (a3 : List Int) (a4 : List Int) : Option (ByteArray × (List ByteArray) × (List Int) × (List Int) × (List Int)) :=
  bif decide (0 ≤ a0) then bif decide (a0 < (↑a3.length : Int)) then (impl_dec (rd (Kind.int IntKind.i64) a3 a0)).bind fun val => some (val, a1, a2, a3, a4) else none else none
noncomputable def g_impl_RequestText_4 : Sg := ⟨i_impl_RequestText_4, o_impl_RequestText_4, ByteArray × (List ByteArray) × (List Int) × (List Int) × (List Int), fun y => ((y.1, ()), ((y.2.1, y.2.2.1, y.2.2.2.1, y.2.2.2.2, ()), ())), fun x => impl_RequestText_4 x.1.1 x.2.1.1 x.2.1.2.1 x.2.1.2.2.1 x.2.1.2.2.2.1⟩
noncomputable def C_impl_RequestText_4 : Ctx := ⟨10, tiOf Tryd.prog, gl, sgOf [(40, g_impl_dec)], []⟩
noncomputable def r_impl_RequestText_4 : AExit → Env → Option (ByteArray × (List ByteArray) × (List Int) × (List Int) × (List Int)) := retK C_impl_RequestText_4 1 o_impl_RequestText_4 (fun y => (y.1.1, y.2.1.1, y.2.1.2.1, y.2.1.2.2.1, y.2.1.2.2.2.1)) Tryd.f54.results.toList
theorem e_impl_RequestText_4 : Sound Tryd.prog gl 54 g_impl_RequestText_4 :=
  sound_plain (C := C_impl_RequestText_4) ⟨fun _ _ h => h, by kernel_rfl⟩ (sgOf_all' ⟨.inl ⟨by kernel_rfl, (Sound.mono gl_DT (by rfl) e_impl_dec)⟩, trivial⟩) 54 Tryd.f54 g_impl_RequestText_4 (fun y => (y.1.1, y.2.1.1, y.2.1.2.1, y.2.1.2.2.1, y.2.1.2.2.2.1)) (by kernel_rfl) (by kernel_rfl) (by kernel_rfl) (by kernel_rfl) (by kernel_rfl) (by kernel_rfl) (fun _ => rfl) (fun x => by kernel_rfl)
-- loop.example/g00051/impl.RequestText$1
noncomputable def i_impl_RequestText_1 : Shape := ⟨[(0, .c (.str)), (1, .c (.int .i64)), (2, .c (.fn 54 [0])), (3, .c (.ptr 1 0))], [.box 40 [.sl .str, .sl (.int .i64), .sl (.int .i64), .sl (.int .i64)], .box 34 [.ref 2], .lst 9 .str]⟩
noncomputable def o_impl_RequestText_1 : Shape := ⟨[(0, .tup [])], [.box 40 [.sl .str, .sl (.int .i64), .sl (.int .i64), .sl (.int .i64)], .box 34 [.ref 3], .dead, .lst 9 .str]⟩
noncomputable def s_impl_RequestText_1_2 : Shape := ⟨[(0, .c (.str)), (1, .c (.int .i64)), (2, .c (.fn 54 [0])), (3, .c (.ptr 1 0)), (7, .c (.ref 3)), (8, .c (.int .i64))], [.box 40 [.sl .str, .sl (.int .i64), .sl (.int .i64), .sl (.int .i64)], .box 34 [.ref 2], .lst 9 .str, .lst 9 .str]⟩
noncomputable def impl_RequestText_1_L2 : Nat → ByteArray → Int → Int → (List ByteArray) → (List Int) → (List Int) → (List Int) → (List ByteArray) → (List ByteArray) → Option ((List ByteArray) × (List Int) × (List Int) × (List Int) × (List ByteArray))
  | 0, _, _, _, _, _, _, _, _, _ => none
  | k + 1, a0, a1, a2, a3, a4, a5, a6, a7, a8 =>
  bif decide (a2 < a1) then (impl_RequestText_4 a2 a3 a4 a5 a6).bind fun val => bif decide (a8.length + [val.fst].length ≤ maxBytes / 16) then impl_RequestText_1_L2 k a0 a1 (IntKind.i64.wrap (a2 + 1)) val.snd.fst val.snd.snd.fst val.snd.snd.snd.fst val.snd.snd.snd.snd a7 (a8 ++ [val.fst]) else none else bif decide (a1 > 0) then bif decide (a0.size + (bs [61]).size ≤ 9223372036854775807) then (dJoin a8 (bs [47])).bind fun val => bif decide ((a0 ++ bs [61]).size + ByteArray.size val ≤ 9223372036854775807) then bif decide (a7.length + [a0 ++ bs [61] ++ val].length ≤ maxBytes / 16) then some (a3, a4, a5, a6, a7 ++ [a0 ++ bs [61] ++ val]) else none else none else none else some (a3, a4, a5, a6, a7)
noncomputable def j_impl_RequestText_1 : List (Nat × (Nat → Cut ((List ByteArray) × (List Int) × (List Int) × (List Int) × (List ByteArray)))) := [(2, fun k => ⟨s_impl_RequestText_1_2, fun x => impl_RequestText_1_L2 k x.1.1 x.1.2.1 x.1.2.2.2.2.2.1 x.2.1.1 x.2.1.2.1 x.2.1.2.2.1 x.2.1.2.2.2.1 x.2.2.2.1 x.2.2.2.2.1⟩)]
noncomputable def impl_RequestText_1_F (k : Nat) (a0 : ByteArray) (a1 : Int) (a2 : List ByteArray) (a3 : List Int) (a4 : List Int) (a5 : List Int) (a6 : List ByteArray) : Option ((List ByteArray) × (List Int) × (List Int) × (List Int) × (List ByteArray)) :=
  impl_RequestText_1_L2 k a0 a1 0 a2 a3 a4 a5 a6 []
noncomputable def impl_RequestText_1 (a0 : ByteArray) (a1 : Int) (a2 : List ByteArray) (a3 : List Int) (a4 : List Int) (a5 : List Int) (a6 : List ByteArray) : Option ((List ByteArray) × (List Int) × (List Int) × (List Int) × (List ByteArray)) := evF fun k => impl_RequestText_1_F k a0 a1 a2 a3 a4 a5 a6
noncomputable def g_impl_RequestText_1 : Sg := ⟨i_impl_RequestText_1, o_impl_RequestText_1, (List ByteArray) × (List Int) × (List Int) × (List Int) × (List ByteArray), fun y => (((), ()), ((y.1, y.2.1, y.2.2.1, y.2.2.2.1, ()), ((), ()), (), y.2.2.2.2, ())), fun x => impl_RequestText_1 x.1.1 x.1.2.1 x.2.1.1 x.2.1.2.1 x.2.1.2.2.1 x.2.1.2.2.2.1 x.2.2.2.1⟩
noncomputable def C_impl_RequestText_1 : Ctx := ⟨31, tiOf Tryd.prog, gl, sgOf [(39, gJoin), (54, g_impl_RequestText_4)], []⟩
noncomputable def r_impl_RequestText_1 : AExit → Env → Option ((List ByteArray) × (List Int) × (List Int) × (List Int) × (List ByteArray)) := retK C_impl_RequestText_1 3 o_impl_RequestText_1 (fun y => (y.2.1.1, y.2.1.2.1, y.2.1.2.2.1, y.2.1.2.2.2.1, y.2.2.2.2.1)) Tryd.f50.results.toList
theorem e_impl_RequestText_1 : Sound Tryd.prog gl 50 g_impl_RequestText_1 :=
  sound_cuts (C := C_impl_RequestText_1) ⟨fun _ _ h => h, by kernel_rfl⟩ (sgOf_all' ⟨.inl ⟨by kernel_rfl, eJoin⟩, .inl ⟨by kernel_rfl, e_impl_RequestText_4⟩, trivial⟩) 50 Tryd.f50 g_impl_RequestText_1 (fun y => (y.2.1.1, y.2.1.2.1, y.2.1.2.2.1, y.2.1.2.2.2.1, y.2.2.2.2.1)) j_impl_RequestText_1 1 (by kernel_rfl) (by kernel_rfl) (by kernel_rfl) (by kernel_rfl) (by kernel_rfl) (by kernel_rfl) (fun _ => rfl) (by kernel_rfl) (by kernel_rfl)
    ⟨trivial, s_impl_RequestText_1_2, fun k x => impl_RequestText_1_L2 k x.1.1 x.1.2.1 x.1.2.2.2.2.2.1 x.2.1.1 x.2.1.2.1 x.2.1.2.2.1 x.2.1.2.2.2.1 x.2.2.2.1 x.2.2.2.2.1, ⟨fun k => by kernel_rfl, fun k y => by kernel_rfl, fun y => by kernel_rfl⟩⟩
    (fun k x => impl_RequestText_1_F k x.1.1 x.1.2.1 x.2.1.1 x.2.1.2.1 x.2.1.2.2.1 x.2.1.2.2.2.1 x.2.2.2.1) (fun x => rfl) (fun k x => by kernel_rfl)
end Go.Proofs.YtgkejafaggaocaaDoor.Q3
