/-
  Part of a proof by the engine: texts that a program of ours printed, or plain lemmas on them. No condition but what each theorem says.
-/
import Derived.Test.YtgkejafaggaocaaDoorDT
import Derived.Test.YtgkejafaggaocaaDoorST
import Derived.Test.YtgkejafaggaocaaDoorQV
import Derived.Test.YtgkejafaggaocaaDoorEng5
import Derived.Test.YtgkejafaggaocaaDoorProg
import Derived.KernelRfl
import Derived.Test.YtgkejafaggaocaaDoorDoors1
import Derived.Test.YtgkejafaggaocaaDoorDoors2
set_option linter.unusedVariables false
set_option linter.unusedSimpArgs false
set_option maxRecDepth 100000
namespace Go.Proofs.YtgkejafaggaocaaDoor.RQ
open Go Go.Eng Go.Proofs
open Go.Proofs.YtgkejafaggaocaaDoor.EX
open Go.Proofs.YtgkejafaggaocaaDoor.QV
open Go.Proofs.YtgkejafaggaocaaDoor.DT hiding gl
open Go.Proofs.YtgkejafaggaocaaDoor.ST hiding gl
open Go.Proofs.YtgkejafaggaocaaDoor.QV hiding gl
noncomputable def gl : Nat → Option (List Cell) := glOf [(4, L_strconv_uint64pow10.map (Cell.int .u64))]
theorem gl_DT : ∀ g cs, Go.Proofs.YtgkejafaggaocaaDoor.DT.gl g = some cs → gl g = some cs := glOf_mono (by intro p hp; simp only [List.mem_cons, List.not_mem_nil, or_false] at hp; subst hp <;> rfl)
theorem gl_ST : ∀ g cs, Go.Proofs.YtgkejafaggaocaaDoor.ST.gl g = some cs → gl g = some cs := glOf_mono (by intro p hp; simp only [List.mem_cons, List.not_mem_nil, or_false] at hp; subst hp <;> rfl)
theorem gl_QV : ∀ g cs, Go.Proofs.YtgkejafaggaocaaDoor.QV.gl g = some cs → gl g = some cs := glOf_mono (by intro p hp; simp only [List.mem_cons, List.not_mem_nil, or_false] at hp; subst hp <;> rfl)
-- loop.example/g00051/laws.szStringS
noncomputable def i_laws_szStringS : Shape := ⟨[(0, .c (.sl .str)), (1, .c (.int .i64))], []⟩
noncomputable def o_laws_szStringS : Shape := ⟨[(0, .c (.int .i64))], []⟩
noncomputable def s_laws_szStringS_5 : Shape := ⟨[(0, .c (.sl .str)), (1, .c (.int .i64)), (5, .c (.int .i64))], []⟩
noncomputable def laws_szStringS_L5 : Nat → (List ByteArray) → Int → Int → Option (Int)
  | 0, _, _, _ => none
  | k + 1, a0, a1, a2 =>
  bif decide (a2 < (↑a0.length : Int)) then bif decide (0 ≤ a2) then bif decide (a2 < (↑a0.length : Int)) then bif decide (IntKind.i64.wrap (a1 - (↑(ByteArray.size (rd Kind.str a0 a2)) : Int)) < 0) then some (-1) else laws_szStringS_L5 k a0 (IntKind.i64.wrap (a1 - (↑(ByteArray.size (rd Kind.str a0 a2)) : Int))) (IntKind.i64.wrap (a2 + 1)) else none else none else some a1
noncomputable def j_laws_szStringS : List (Nat × (Nat → Cut (Int))) := [(5, fun k => ⟨s_laws_szStringS_5, fun x => laws_szStringS_L5 k x.1.1 x.1.2.1 x.1.2.2.1⟩)]
noncomputable def laws_szStringS_F (k : Nat) (a0 : List ByteArray) (a1 : Int) : Option (Int) :=
  bif decide (IntKind.i64.wrap (a1 - (↑a0.length : Int)) < 0) then some (-1) else laws_szStringS_L5 k a0 (IntKind.i64.wrap (a1 - (↑a0.length : Int))) 0
noncomputable def laws_szStringS (a0 : List ByteArray) (a1 : Int) : Option (Int) := evF fun k => laws_szStringS_F k a0 a1
noncomputable def g_laws_szStringS : Sg := ⟨i_laws_szStringS, o_laws_szStringS, Int, fun y => ((y, ()), ()), fun x => laws_szStringS x.1.1 x.1.2.1⟩
noncomputable def C_laws_szStringS : Ctx := ⟨28, tiOf Tryd.prog, gl, sgOf [], []⟩
noncomputable def r_laws_szStringS : AExit → Env → Option (Int) := retK C_laws_szStringS 0 o_laws_szStringS (fun y => y.1.1) Tryd.f41.results.toList
theorem e_laws_szStringS : Sound Tryd.prog gl 41 g_laws_szStringS :=
  sound_cuts (C := C_laws_szStringS) ⟨fun _ _ h => h, by kernel_rfl⟩ (sgOf_all' trivial) 41 Tryd.f41 g_laws_szStringS (fun y => y.1.1) j_laws_szStringS 1 (by kernel_rfl) (by kernel_rfl) (by kernel_rfl) (by kernel_rfl) (by kernel_rfl) (by kernel_rfl) (fun _ => rfl) (by kernel_rfl) (by kernel_rfl)
    ⟨trivial, s_laws_szStringS_5, fun k x => laws_szStringS_L5 k x.1.1 x.1.2.1 x.1.2.2.1, ⟨fun k => by kernel_rfl, fun k y => by kernel_rfl, fun y => by kernel_rfl⟩⟩
    (fun k x => laws_szStringS_F k x.1.1 x.1.2.1) (fun x => rfl) (fun k x => by kernel_rfl)
-- loop.example/g00051/laws.szInt64S
noncomputable def i_laws_szInt64S : Shape := ⟨[(0, .c (.sl (.int .i64))), (1, .c (.int .i64))], []⟩
noncomputable def o_laws_szInt64S : Shape := ⟨[(0, .c (.int .i64))], []⟩
noncomputable def laws_szInt64S (a0 : List Int) (a1 : Int) : Option (Int) :=
  bif decide (IntKind.i64.wrap (a1 - (↑a0.length : Int)) < 0) then some (-1) else some (IntKind.i64.wrap (a1 - (↑a0.length : Int)))
noncomputable def g_laws_szInt64S : Sg := ⟨i_laws_szInt64S, o_laws_szInt64S, Int, fun y => ((y, ()), ()), fun x => laws_szInt64S x.1.1 x.1.2.1⟩
noncomputable def C_laws_szInt64S : Ctx := ⟨12, tiOf Tryd.prog, gl, sgOf [], []⟩
noncomputable def r_laws_szInt64S : AExit → Env → Option (Int) := retK C_laws_szInt64S 0 o_laws_szInt64S (fun y => y.1.1) Tryd.f42.results.toList
theorem e_laws_szInt64S : Sound Tryd.prog gl 42 g_laws_szInt64S :=
  sound_plain (C := C_laws_szInt64S) ⟨fun _ _ h => h, by kernel_rfl⟩ (sgOf_all' trivial) 42 Tryd.f42 g_laws_szInt64S (fun y => y.1.1) (by kernel_rfl) (by kernel_rfl) (by kernel_rfl) (by kernel_rfl) (by kernel_rfl) (by kernel_rfl) (fun _ => rfl) (fun x => by kernel_rfl)
-- loop.example/g00051/laws.szRequest
noncomputable def i_laws_szRequest : Shape := ⟨[(0, .agg [.sl .str, .sl (.int .i64), .sl (.int .i64), .sl (.int .i64)]), (1, .c (.int .i64))], []⟩
noncomputable def o_laws_szRequest : Shape := ⟨[(0, .c (.int .i64))], []⟩
noncomputable def laws_szRequest (a0 : List ByteArray) (a1 : List Int) (a2 : List Int) (a3 : List Int) (a4 : Int) : Option (Int) :=
  (laws_szStringS a0 a4).bind fun val => bif decide (val < 0) then some (-1) else (laws_szInt64S a1 val).bind fun val => bif decide (val < 0) then some (-1) else (laws_szInt64S a2 val).bind fun val => bif decide (val < 0) then some (-1) else (laws_szInt64S a3 val).bind fun val => bif decide (val < 0) then some (-1) else some val
noncomputable def g_laws_szRequest : Sg := ⟨i_laws_szRequest, o_laws_szRequest, Int, fun y => ((y, ()), ()), fun x => laws_szRequest x.1.1.1 x.1.1.2.1 x.1.1.2.2.1 x.1.1.2.2.2.1 x.1.2.1⟩
noncomputable def C_laws_szRequest : Ctx := ⟨30, tiOf Tryd.prog, gl, sgOf [(41, g_laws_szStringS), (42, g_laws_szInt64S)], []⟩
noncomputable def r_laws_szRequest : AExit → Env → Option (Int) := retK C_laws_szRequest 0 o_laws_szRequest (fun y => y.1.1) Tryd.f16.results.toList
theorem e_laws_szRequest : Sound Tryd.prog gl 16 g_laws_szRequest :=
  sound_plain (C := C_laws_szRequest) ⟨fun _ _ h => h, by kernel_rfl⟩ (sgOf_all' ⟨.inl ⟨by kernel_rfl, e_laws_szStringS⟩, .inl ⟨by kernel_rfl, e_laws_szInt64S⟩, trivial⟩) 16 Tryd.f16 g_laws_szRequest (fun y => y.1.1) (by kernel_rfl) (by kernel_rfl) (by kernel_rfl) (by kernel_rfl) (by kernel_rfl) (by kernel_rfl) (fun _ => rfl) (fun x => by kernel_rfl)
-- loop.example/g00051/laws.toStringS
noncomputable def i_laws_toStringS : Shape := ⟨[(0, .c (.sl .str))], []⟩
noncomputable def o_laws_toStringS : Shape := ⟨[(0, .c (.ref 0))], [.lst 9 .str]⟩
noncomputable def s_laws_toStringS_3 : Shape := ⟨[(0, .c (.sl .str)), (3, .c (.ref 0)), (4, .c (.int .i64))], [.lst 9 .str]⟩
noncomputable def laws_toStringS_L3 : Nat → (List ByteArray) → Int → (List ByteArray) → Option ((List ByteArray))
  | 0, _, _, _ => none
  | k + 1, a0, a1, a2 =>
  bif decide (a1 < (↑a0.length : Int)) then bif decide (0 ≤ a1) then bif decide (a1 < (↑a0.length : Int)) then bif decide (0 ≤ a1) then bif decide (a1 < (↑a2.length : Int)) then (setW a2 a1 (rd Kind.str a0 a1)).bind fun val => laws_toStringS_L3 k a0 (IntKind.i64.wrap (a1 + 1)) val else none else none else none else none else some a2
noncomputable def j_laws_toStringS : List (Nat × (Nat → Cut ((List ByteArray)))) := [(3, fun k => ⟨s_laws_toStringS_3, fun x => laws_toStringS_L3 k x.1.1 x.1.2.2.1 x.2.1⟩)]
noncomputable def laws_toStringS_F (k : Nat) (a0 : List ByteArray) : Option ((List ByteArray)) :=
  bif decide ((↑a0.length : Int) ≤ (↑a0.length : Int)) then bif decide ((↑a0.length : Int).toNat ≤ maxBytes / 16) then laws_toStringS_L3 k a0 0 (List.replicate (↑a0.length : Int).toNat (bs [])) else none else none
noncomputable def laws_toStringS (a0 : List ByteArray) : Option ((List ByteArray)) := evF fun k => laws_toStringS_F k a0
noncomputable def g_laws_toStringS : Sg := ⟨i_laws_toStringS, o_laws_toStringS, (List ByteArray), fun y => (((), ()), (y, ())), fun x => laws_toStringS x.1.1⟩
noncomputable def C_laws_toStringS : Ctx := ⟨22, tiOf Tryd.prog, gl, sgOf [], []⟩
noncomputable def r_laws_toStringS : AExit → Env → Option ((List ByteArray)) := retK C_laws_toStringS 0 o_laws_toStringS (fun y => y.2.1) Tryd.f47.results.toList
theorem e_laws_toStringS : Sound Tryd.prog gl 47 g_laws_toStringS :=
  sound_cuts (C := C_laws_toStringS) ⟨fun _ _ h => h, by kernel_rfl⟩ (sgOf_all' trivial) 47 Tryd.f47 g_laws_toStringS (fun y => y.2.1) j_laws_toStringS 1 (by kernel_rfl) (by kernel_rfl) (by kernel_rfl) (by kernel_rfl) (by kernel_rfl) (by kernel_rfl) (fun _ => rfl) (by kernel_rfl) (by kernel_rfl)
    ⟨trivial, s_laws_toStringS_3, fun k x => laws_toStringS_L3 k x.1.1 x.1.2.2.1 x.2.1, ⟨fun k => by kernel_rfl, fun k y => by kernel_rfl, fun y => by kernel_rfl⟩⟩
    (fun k x => laws_toStringS_F k x.1.1) (fun x => rfl) (fun k x => by kernel_rfl)
-- loop.example/g00051/laws.toInt64S
noncomputable def i_laws_toInt64S : Shape := ⟨[(0, .c (.sl (.int .i64)))], []⟩
noncomputable def o_laws_toInt64S : Shape := ⟨[(0, .c (.ref 0))], [.lst 2 (.int .i64)]⟩
noncomputable def s_laws_toInt64S_3 : Shape := ⟨[(0, .c (.sl (.int .i64))), (3, .c (.ref 0)), (4, .c (.int .i64))], [.lst 2 (.int .i64)]⟩
noncomputable def laws_toInt64S_L3 : Nat → (List Int) → Int → (List Int) → Option ((List Int))
  | 0, _, _, _ => none
  | k + 1, a0, a1, a2 =>
  bif decide (a1 < (↑a0.length : Int)) then bif decide (0 ≤ a1) then bif decide (a1 < (↑a0.length : Int)) then bif decide (0 ≤ a1) then bif decide (a1 < (↑a2.length : Int)) then (setW a2 a1 (rd (Kind.int IntKind.i64) a0 a1)).bind fun val => laws_toInt64S_L3 k a0 (IntKind.i64.wrap (a1 + 1)) val else none else none else none else none else some a2
noncomputable def j_laws_toInt64S : List (Nat × (Nat → Cut ((List Int)))) := [(3, fun k => ⟨s_laws_toInt64S_3, fun x => laws_toInt64S_L3 k x.1.1 x.1.2.2.1 x.2.1⟩)]
noncomputable def laws_toInt64S_F (k : Nat) (a0 : List Int) : Option ((List Int)) :=
  bif decide ((↑a0.length : Int) ≤ (↑a0.length : Int)) then bif decide ((↑a0.length : Int).toNat ≤ maxBytes / 8) then laws_toInt64S_L3 k a0 0 (List.replicate (↑a0.length : Int).toNat 0) else none else none
noncomputable def laws_toInt64S (a0 : List Int) : Option ((List Int)) := evF fun k => laws_toInt64S_F k a0
noncomputable def g_laws_toInt64S : Sg := ⟨i_laws_toInt64S, o_laws_toInt64S, (List Int), fun y => (((), ()), (y, ())), fun x => laws_toInt64S x.1.1⟩
noncomputable def C_laws_toInt64S : Ctx := ⟨22, tiOf Tryd.prog, gl, sgOf [], []⟩
noncomputable def r_laws_toInt64S : AExit → Env → Option ((List Int)) := retK C_laws_toInt64S 0 o_laws_toInt64S (fun y => y.2.1) Tryd.f48.results.toList
theorem e_laws_toInt64S : Sound Tryd.prog gl 48 g_laws_toInt64S :=
  sound_cuts (C := C_laws_toInt64S) ⟨fun _ _ h => h, by kernel_rfl⟩ (sgOf_all' trivial) 48 Tryd.f48 g_laws_toInt64S (fun y => y.2.1) j_laws_toInt64S 1 (by kernel_rfl) (by kernel_rfl) (by kernel_rfl) (by kernel_rfl) (by kernel_rfl) (by kernel_rfl) (fun _ => rfl) (by kernel_rfl) (by kernel_rfl)
    ⟨trivial, s_laws_toInt64S_3, fun k x => laws_toInt64S_L3 k x.1.1 x.1.2.2.1 x.2.1, ⟨fun k => by kernel_rfl, fun k y => by kernel_rfl, fun y => by kernel_rfl⟩⟩
    (fun k x => laws_toInt64S_F k x.1.1) (fun x => rfl) (fun k x => by kernel_rfl)
-- loop.example/g00051/laws.toRequest
noncomputable def i_laws_toRequest : Shape := ⟨[(0, .agg [.sl .str, .sl (.int .i64), .sl (.int .i64), .sl (.int .i64)])], []⟩
noncomputable def o_laws_toRequest : Shape := ⟨[(0, .agg [.ref 0, .ref 1, .ref 2, .ref 3])], [.lst 9 .str, .lst 2 (.int .i64), .lst 2 (.int .i64), .lst 2 (.int .i64)]⟩
noncomputable def laws_toRequest (a0 : List ByteArray) (a1 : List Int) (a2 : List Int) (a3 : List Int) : Option ((List ByteArray) × (List Int) × (List Int) × (List Int)) :=
  (laws_toStringS a0).bind fun val => (laws_toInt64S a1).bind fun val_1 => (laws_toInt64S a2).bind fun val_2 => (laws_toInt64S a3).bind fun val_3 => some (val, val_1, val_2, val_3)
noncomputable def g_laws_toRequest : Sg := ⟨i_laws_toRequest, o_laws_toRequest, (List ByteArray) × (List Int) × (List Int) × (List Int), fun y => ((((), (), (), (), ()), ()), (y.1, y.2.1, y.2.2.1, y.2.2.2, ())), fun x => laws_toRequest x.1.1.1 x.1.1.2.1 x.1.1.2.2.1 x.1.1.2.2.2.1⟩
noncomputable def C_laws_toRequest : Ctx := ⟨21, tiOf Tryd.prog, gl, sgOf [(47, g_laws_toStringS), (48, g_laws_toInt64S)], []⟩
noncomputable def r_laws_toRequest : AExit → Env → Option ((List ByteArray) × (List Int) × (List Int) × (List Int)) := retK C_laws_toRequest 0 o_laws_toRequest (fun y => (y.2.1, y.2.2.1, y.2.2.2.1, y.2.2.2.2.1)) Tryd.f18.results.toList
theorem e_laws_toRequest : Sound Tryd.prog gl 18 g_laws_toRequest :=
  sound_plain (C := C_laws_toRequest) ⟨fun _ _ h => h, by kernel_rfl⟩ (sgOf_all' ⟨.inl ⟨by kernel_rfl, e_laws_toStringS⟩, .inl ⟨by kernel_rfl, e_laws_toInt64S⟩, trivial⟩) 18 Tryd.f18 g_laws_toRequest (fun y => (y.2.1, y.2.2.1, y.2.2.2.1, y.2.2.2.2.1)) (by kernel_rfl) (by kernel_rfl) (by kernel_rfl) (by kernel_rfl) (by kernel_rfl) (by kernel_rfl) (fun _ => rfl) (fun x => by kernel_rfl)
-- loop.example/g00051/spec.l25ParamOk
noncomputable def i_spec_l25ParamOk : Shape := ⟨[(0, .c (.str))], []⟩
noncomputable def o_spec_l25ParamOk : Shape := ⟨[(0, .c (.bool))], []⟩
noncomputable def s_spec_l25ParamOk_2 : Shape := ⟨[(0, .c (.str)), (3, .c (.int .i64))], []⟩
noncomputable def spec_l25ParamOk_L2 : Nat → ByteArray → Int → Option (Bool)
  | 0, _, _ => none
  | k + 1, a0, a1 =>
  bif decide (a1 < (↑a0.size : Int)) then bif decide (0 ≤ a1) then bif decide (a1 < (↑a0.size : Int)) then bif decide (bt a0 a1 < 97) then some false else bif decide (0 ≤ a1) then bif decide (a1 < (↑a0.size : Int)) then bif decide (bt a0 a1 > 122) then some false else spec_l25ParamOk_L2 k a0 (IntKind.i64.wrap (a1 + 1)) else none else none else none else none else bif decide ((↑a0.size : Int) ≥ 1) then some (decide ((↑a0.size : Int) ≤ 4)) else some false
noncomputable def j_spec_l25ParamOk : List (Nat × (Nat → Cut (Bool))) := [(2, fun k => ⟨s_spec_l25ParamOk_2, fun x => spec_l25ParamOk_L2 k x.1.1 x.1.2.1⟩)]
noncomputable def spec_l25ParamOk_F (k : Nat) (a0 : ByteArray) : Option (Bool) :=
  spec_l25ParamOk_L2 k a0 0
noncomputable def spec_l25ParamOk (a0 : ByteArray) : Option (Bool) := evF fun k => spec_l25ParamOk_F k a0
noncomputable def g_spec_l25ParamOk : Sg := ⟨i_spec_l25ParamOk, o_spec_l25ParamOk, Bool, fun y => ((y, ()), ()), fun x => spec_l25ParamOk x.1.1⟩
noncomputable def C_spec_l25ParamOk : Ctx := ⟨28, tiOf Tryd.prog, gl, sgOf [], []⟩
noncomputable def r_spec_l25ParamOk : AExit → Env → Option (Bool) := retK C_spec_l25ParamOk 0 o_spec_l25ParamOk (fun y => y.1.1) Tryd.f87.results.toList
theorem e_spec_l25ParamOk : Sound Tryd.prog gl 87 g_spec_l25ParamOk :=
  sound_cuts (C := C_spec_l25ParamOk) ⟨fun _ _ h => h, by kernel_rfl⟩ (sgOf_all' trivial) 87 Tryd.f87 g_spec_l25ParamOk (fun y => y.1.1) j_spec_l25ParamOk 1 (by kernel_rfl) (by kernel_rfl) (by kernel_rfl) (by kernel_rfl) (by kernel_rfl) (by kernel_rfl) (fun _ => rfl) (by kernel_rfl) (by kernel_rfl)
    ⟨trivial, s_spec_l25ParamOk_2, fun k x => spec_l25ParamOk_L2 k x.1.1 x.1.2.1, ⟨fun k => by kernel_rfl, fun k y => by kernel_rfl, fun y => by kernel_rfl⟩⟩
    (fun k x => spec_l25ParamOk_F k x.1.1) (fun x => rfl) (fun k x => by kernel_rfl)
-- loop.example/g00051/spec.l25Rises
noncomputable def i_spec_l25Rises : Shape := ⟨[(0, .c (.sl (.int .i64))), (1, .c (.int .i64)), (2, .c (.int .i64))], []⟩
noncomputable def o_spec_l25Rises : Shape := ⟨[(0, .c (.bool))], []⟩
noncomputable def s_spec_l25Rises_4 : Shape := ⟨[(0, .c (.sl (.int .i64))), (1, .c (.int .i64)), (2, .c (.int .i64)), (7, .c (.int .i64))], []⟩
noncomputable def spec_l25Rises_L4 : Nat → (List Int) → Int → Int → Int → Option (Bool)
  | 0, _, _, _, _ => none
  | k + 1, a0, a1, a2, a3 =>
  bif decide (a3 < (↑a0.length : Int)) then bif decide (0 ≤ a3) then bif decide (a3 < (↑a0.length : Int)) then (spec_l2In (rd (Kind.int IntKind.i64) a0 a3) a1 a2).bind fun val => bif !val then some false else bif decide (a3 > 0) then bif decide (0 ≤ a3) then bif decide (a3 < (↑a0.length : Int)) then bif decide (0 ≤ IntKind.i64.wrap (a3 - 1)) then bif decide (IntKind.i64.wrap (a3 - 1) < (↑a0.length : Int)) then bif decide (rd (Kind.int IntKind.i64) a0 a3 ≤ rd (Kind.int IntKind.i64) a0 (IntKind.i64.wrap (a3 - 1))) then some false else spec_l25Rises_L4 k a0 a1 a2 (IntKind.i64.wrap (a3 + 1)) else none else none else none else none else spec_l25Rises_L4 k a0 a1 a2 (IntKind.i64.wrap (a3 + 1)) else none else none else some true
noncomputable def j_spec_l25Rises : List (Nat × (Nat → Cut (Bool))) := [(4, fun k => ⟨s_spec_l25Rises_4, fun x => spec_l25Rises_L4 k x.1.1 x.1.2.1 x.1.2.2.1 x.1.2.2.2.1⟩)]
noncomputable def spec_l25Rises_F (k : Nat) (a0 : List Int) (a1 : Int) (a2 : Int) : Option (Bool) :=
  bif decide ((↑a0.length : Int) > 40) then some false else spec_l25Rises_L4 k a0 a1 a2 0
noncomputable def spec_l25Rises (a0 : List Int) (a1 : Int) (a2 : Int) : Option (Bool) := evF fun k => spec_l25Rises_F k a0 a1 a2
noncomputable def g_spec_l25Rises : Sg := ⟨i_spec_l25Rises, o_spec_l25Rises, Bool, fun y => ((y, ()), ()), fun x => spec_l25Rises x.1.1 x.1.2.1 x.1.2.2.1⟩
noncomputable def C_spec_l25Rises : Ctx := ⟨41, tiOf Tryd.prog, gl, sgOf [(37, g_spec_l2In)], []⟩
noncomputable def r_spec_l25Rises : AExit → Env → Option (Bool) := retK C_spec_l25Rises 0 o_spec_l25Rises (fun y => y.1.1) Tryd.f88.results.toList
theorem e_spec_l25Rises : Sound Tryd.prog gl 88 g_spec_l25Rises :=
  sound_cuts (C := C_spec_l25Rises) ⟨fun _ _ h => h, by kernel_rfl⟩ (sgOf_all' ⟨.inl ⟨by kernel_rfl, (Sound.mono gl_DT (by rfl) e_spec_l2In)⟩, trivial⟩) 88 Tryd.f88 g_spec_l25Rises (fun y => y.1.1) j_spec_l25Rises 1 (by kernel_rfl) (by kernel_rfl) (by kernel_rfl) (by kernel_rfl) (by kernel_rfl) (by kernel_rfl) (fun _ => rfl) (by kernel_rfl) (by kernel_rfl)
    ⟨trivial, s_spec_l25Rises_4, fun k x => spec_l25Rises_L4 k x.1.1 x.1.2.1 x.1.2.2.1 x.1.2.2.2.1, ⟨fun k => by kernel_rfl, fun k y => by kernel_rfl, fun y => by kernel_rfl⟩⟩
    (fun k x => spec_l25Rises_F k x.1.1 x.1.2.1 x.1.2.2.1) (fun x => rfl) (fun k x => by kernel_rfl)
-- loop.example/g00051/spec.l25RequestOk
noncomputable def i_spec_l25RequestOk : Shape := ⟨[(0, .agg [.sl .str, .sl (.int .i64), .sl (.int .i64), .sl (.int .i64)])], []⟩
noncomputable def o_spec_l25RequestOk : Shape := ⟨[(0, .c (.bool))], []⟩
noncomputable def s_spec_l25RequestOk_4 : Shape := ⟨[(1, .c (.ptr 0 0)), (3, .c (.int .i64))], [.box 40 [.sl .str, .sl (.int .i64), .sl (.int .i64), .sl (.int .i64)]]⟩
noncomputable def spec_l25RequestOk_L4 : Nat → Int → (List ByteArray) → (List Int) → (List Int) → (List Int) → Option (Bool)
  | 0, _, _, _, _, _ => none
  | k + 1, a0, a1, a2, a3, a4 =>
  bif decide (a0 < (↑a1.length : Int)) then bif decide (0 ≤ a0) then bif decide (a0 < (↑a1.length : Int)) then (spec_l25ParamOk (rd Kind.str a1 a0)).bind fun val => bif !val then some false else bif decide (a0 > 0) then bif decide (0 ≤ a0) then bif decide (a0 < (↑a1.length : Int)) then bif decide (0 ≤ IntKind.i64.wrap (a0 - 1)) then bif decide (IntKind.i64.wrap (a0 - 1) < (↑a1.length : Int)) then bif Op.bytesLess (ByteArray.toList (rd Kind.str a1 a0)) (ByteArray.toList (rd Kind.str a1 (IntKind.i64.wrap (a0 - 1)))) || ByteArray.toList (rd Kind.str a1 a0) == ByteArray.toList (rd Kind.str a1 (IntKind.i64.wrap (a0 - 1))) then some false else spec_l25RequestOk_L4 k (IntKind.i64.wrap (a0 + 1)) a1 a2 a3 a4 else none else none else none else none else spec_l25RequestOk_L4 k (IntKind.i64.wrap (a0 + 1)) a1 a2 a3 a4 else none else none else (spec_l25Rises a2 0 52596000).bind fun val => bif val then (spec_l25Rises a3 0 360).bind fun val => bif val then (spec_l25Rises a4 0 1100).bind fun val => some val else some false else some false
noncomputable def j_spec_l25RequestOk : List (Nat × (Nat → Cut (Bool))) := [(4, fun k => ⟨s_spec_l25RequestOk_4, fun x => spec_l25RequestOk_L4 k x.1.2.1 x.2.1.1 x.2.1.2.1 x.2.1.2.2.1 x.2.1.2.2.2.1⟩)]
noncomputable def spec_l25RequestOk_F (k : Nat) (a0 : List ByteArray) (a1 : List Int) (a2 : List Int) (a3 : List Int) : Option (Bool) :=
  bif decide ((↑a0.length : Int) > 40) then some false else spec_l25RequestOk_L4 k 0 a0 a1 a2 a3
noncomputable def spec_l25RequestOk (a0 : List ByteArray) (a1 : List Int) (a2 : List Int) (a3 : List Int) : Option (Bool) := evF fun k => spec_l25RequestOk_F k a0 a1 a2 a3
noncomputable def g_spec_l25RequestOk : Sg := ⟨i_spec_l25RequestOk, o_spec_l25RequestOk, Bool, fun y => ((y, ()), ()), fun x => spec_l25RequestOk x.1.1.1 x.1.1.2.1 x.1.1.2.2.1 x.1.1.2.2.2.1⟩
noncomputable def C_spec_l25RequestOk : Ctx := ⟨53, tiOf Tryd.prog, gl, sgOf [(87, g_spec_l25ParamOk), (88, g_spec_l25Rises)], []⟩
noncomputable def r_spec_l25RequestOk : AExit → Env → Option (Bool) := retK C_spec_l25RequestOk 0 o_spec_l25RequestOk (fun y => y.1.1) Tryd.f43.results.toList
theorem e_spec_l25RequestOk : Sound Tryd.prog gl 43 g_spec_l25RequestOk :=
  sound_cuts (C := C_spec_l25RequestOk) ⟨fun _ _ h => h, by kernel_rfl⟩ (sgOf_all' ⟨.inl ⟨by kernel_rfl, e_spec_l25ParamOk⟩, .inl ⟨by kernel_rfl, e_spec_l25Rises⟩, trivial⟩) 43 Tryd.f43 g_spec_l25RequestOk (fun y => y.1.1) j_spec_l25RequestOk 1 (by kernel_rfl) (by kernel_rfl) (by kernel_rfl) (by kernel_rfl) (by kernel_rfl) (by kernel_rfl) (fun _ => rfl) (by kernel_rfl) (by kernel_rfl)
    ⟨trivial, s_spec_l25RequestOk_4, fun k x => spec_l25RequestOk_L4 k x.1.2.1 x.2.1.1 x.2.1.2.1 x.2.1.2.2.1 x.2.1.2.2.2.1, ⟨fun k => by kernel_rfl, fun k y => by kernel_rfl, fun y => by kernel_rfl⟩⟩
    (fun k x => spec_l25RequestOk_F k x.1.1.1 x.1.1.2.1 x.1.1.2.2.1 x.1.1.2.2.2.1) (fun x => rfl) (fun k x => by kernel_rfl)
-- loop.example/g00051/spec.l25Part
noncomputable def i_spec_l25Part : Shape := ⟨[(0, .c (.str)), (1, .c (.sl .str))], []⟩
noncomputable def o_spec_l25Part : Shape := ⟨[(0, .c (.str))], []⟩
noncomputable def s_spec_l25Part_5 : Shape := ⟨[(1, .c (.sl .str)), (5, .c (.str)), (6, .c (.int .i64))], []⟩
noncomputable def spec_l25Part_L5 : Nat → (List ByteArray) → ByteArray → Int → Option (ByteArray)
  | 0, _, _, _ => none
  | k + 1, a0, a1, a2 =>
  bif decide (a2 < (↑a0.length : Int)) then bif decide (a2 > 0) then bif decide (a1.size + (bs [47]).size ≤ 9223372036854775807) then bif decide (0 ≤ a2) then bif decide (a2 < (↑a0.length : Int)) then bif decide ((a1 ++ bs [47]).size + ByteArray.size (rd Kind.str a0 a2) ≤ 9223372036854775807) then spec_l25Part_L5 k a0 (a1 ++ bs [47] ++ rd Kind.str a0 a2) (IntKind.i64.wrap (a2 + 1)) else none else none else none else none else bif decide (0 ≤ a2) then bif decide (a2 < (↑a0.length : Int)) then bif decide (a1.size + ByteArray.size (rd Kind.str a0 a2) ≤ 9223372036854775807) then spec_l25Part_L5 k a0 (a1 ++ rd Kind.str a0 a2) (IntKind.i64.wrap (a2 + 1)) else none else none else none else some a1
noncomputable def j_spec_l25Part : List (Nat × (Nat → Cut (ByteArray))) := [(5, fun k => ⟨s_spec_l25Part_5, fun x => spec_l25Part_L5 k x.1.1 x.1.2.1 x.1.2.2.1⟩)]
noncomputable def spec_l25Part_F (k : Nat) (a0 : ByteArray) (a1 : List ByteArray) : Option (ByteArray) :=
  bif (↑a1.length : Int) == 0 then some (bs []) else bif decide (a0.size + (bs [61]).size ≤ 9223372036854775807) then spec_l25Part_L5 k a1 (a0 ++ bs [61]) 0 else none
noncomputable def spec_l25Part (a0 : ByteArray) (a1 : List ByteArray) : Option (ByteArray) := evF fun k => spec_l25Part_F k a0 a1
noncomputable def g_spec_l25Part : Sg := ⟨i_spec_l25Part, o_spec_l25Part, ByteArray, fun y => ((y, ()), ()), fun x => spec_l25Part x.1.1 x.1.2.1⟩
noncomputable def C_spec_l25Part : Ctx := ⟨29, tiOf Tryd.prog, gl, sgOf [], []⟩
noncomputable def r_spec_l25Part : AExit → Env → Option (ByteArray) := retK C_spec_l25Part 0 o_spec_l25Part (fun y => y.1.1) Tryd.f45.results.toList
theorem e_spec_l25Part : Sound Tryd.prog gl 45 g_spec_l25Part :=
  sound_cuts (C := C_spec_l25Part) ⟨fun _ _ h => h, by kernel_rfl⟩ (sgOf_all' trivial) 45 Tryd.f45 g_spec_l25Part (fun y => y.1.1) j_spec_l25Part 1 (by kernel_rfl) (by kernel_rfl) (by kernel_rfl) (by kernel_rfl) (by kernel_rfl) (by kernel_rfl) (fun _ => rfl) (by kernel_rfl) (by kernel_rfl)
    ⟨trivial, s_spec_l25Part_5, fun k x => spec_l25Part_L5 k x.1.1 x.1.2.1 x.1.2.2.1, ⟨fun k => by kernel_rfl, fun k y => by kernel_rfl, fun y => by kernel_rfl⟩⟩
    (fun k x => spec_l25Part_F k x.1.1 x.1.2.1) (fun x => rfl) (fun k x => by kernel_rfl)
-- loop.example/g00051/spec.l25Decs
noncomputable def i_spec_l25Decs : Shape := ⟨[(0, .c (.sl (.int .i64)))], []⟩
noncomputable def o_spec_l25Decs : Shape := ⟨[(0, .c (.ref 0))], [.lst 9 .str]⟩
noncomputable def s_spec_l25Decs_3 : Shape := ⟨[(0, .c (.sl (.int .i64))), (3, .c (.ref 0)), (4, .c (.int .i64))], [.lst 9 .str]⟩
noncomputable def spec_l25Decs_L3 : Nat → (List Int) → Int → (List ByteArray) → Option ((List ByteArray))
  | 0, _, _, _ => none
  | k + 1, a0, a1, a2 =>
  bif decide (a1 < (↑a0.length : Int)) then bif decide (0 ≤ a1) then bif decide (a1 < (↑a0.length : Int)) then (spec_l1Dec (rd (Kind.int IntKind.i64) a0 a1)).bind fun val => bif decide (a2.length + [val].length ≤ maxBytes / 16) then spec_l25Decs_L3 k a0 (IntKind.i64.wrap (a1 + 1)) (a2 ++ [val]) else none else none else none else some a2
noncomputable def j_spec_l25Decs : List (Nat × (Nat → Cut ((List ByteArray)))) := [(3, fun k => ⟨s_spec_l25Decs_3, fun x => spec_l25Decs_L3 k x.1.1 x.1.2.2.1 x.2.1⟩)]
noncomputable def spec_l25Decs_F (k : Nat) (a0 : List Int) : Option ((List ByteArray)) :=
  spec_l25Decs_L3 k a0 0 []
noncomputable def spec_l25Decs (a0 : List Int) : Option ((List ByteArray)) := evF fun k => spec_l25Decs_F k a0
noncomputable def g_spec_l25Decs : Sg := ⟨i_spec_l25Decs, o_spec_l25Decs, (List ByteArray), fun y => (((), ()), (y, ())), fun x => spec_l25Decs x.1.1⟩
noncomputable def C_spec_l25Decs : Ctx := ⟨21, tiOf Tryd.prog, gl, sgOf [(78, g_spec_l1Dec)], []⟩
noncomputable def r_spec_l25Decs : AExit → Env → Option ((List ByteArray)) := retK C_spec_l25Decs 0 o_spec_l25Decs (fun y => y.2.1) Tryd.f46.results.toList
theorem e_spec_l25Decs : Sound Tryd.prog gl 46 g_spec_l25Decs :=
  sound_cuts (C := C_spec_l25Decs) ⟨fun _ _ h => h, by kernel_rfl⟩ (sgOf_all' ⟨.inl ⟨by kernel_rfl, (Sound.mono gl_DT (by rfl) e_spec_l1Dec)⟩, trivial⟩) 46 Tryd.f46 g_spec_l25Decs (fun y => y.2.1) j_spec_l25Decs 1 (by kernel_rfl) (by kernel_rfl) (by kernel_rfl) (by kernel_rfl) (by kernel_rfl) (by kernel_rfl) (fun _ => rfl) (by kernel_rfl) (by kernel_rfl)
    ⟨trivial, s_spec_l25Decs_3, fun k x => spec_l25Decs_L3 k x.1.1 x.1.2.2.1 x.2.1, ⟨fun k => by kernel_rfl, fun k y => by kernel_rfl, fun y => by kernel_rfl⟩⟩
    (fun k x => spec_l25Decs_F k x.1.1) (fun x => rfl) (fun k x => by kernel_rfl)
-- loop.example/g00051/spec.RequestText
noncomputable def i_spec_RequestText : Shape := ⟨[(0, .agg [.sl .str, .sl (.int .i64), .sl (.int .i64), .sl (.int .i64)])], []⟩
noncomputable def o_spec_RequestText : Shape := ⟨[(0, .c (.str))], []⟩
noncomputable def s_spec_RequestText_5 : Shape := ⟨[(1, .c (.ptr 0 0)), (3, .c (.ref 1)), (4, .c (.int .i64))], [.box 40 [.sl .str, .sl (.int .i64), .sl (.int .i64), .sl (.int .i64)], .lst 9 .str]⟩
noncomputable def s_spec_RequestText_11 : Shape := ⟨[(5, .c (.ref 0)), (6, .c (.str)), (7, .c (.int .i64))], [.lst 9 .str]⟩
mutual
noncomputable def spec_RequestText_L5 : Nat → Int → (List ByteArray) → (List Int) → (List Int) → (List Int) → (List ByteArray) → Option (ByteArray)
  | 0, _, _, _, _, _, _ => none
  | k + 1, a0, a1, a2, a3, a4, a5 =>
  bif decide (a0 < (↑a2.length : Int)) then bif decide (0 ≤ a0) then bif decide (a0 < (↑a2.length : Int)) then (spec_Stamp (rd (Kind.int IntKind.i64) a2 a0)).bind fun val => bif decide (a5.length + [val].length ≤ maxBytes / 16) then spec_RequestText_L5 k (IntKind.i64.wrap (a0 + 1)) a1 a2 a3 a4 (a5 ++ [val]) else none else none else none else (spec_l25Part (bs [112, 97, 114, 97, 109]) a1).bind fun val => (spec_l25Part (bs [116, 105, 109, 101]) a5).bind fun val_1 => (spec_l25Decs a3).bind fun val_2 => (spec_l25Part (bs [115, 116, 101, 112]) val_2).bind fun val_3 => (spec_l25Decs a4).bind fun val_4 => (spec_l25Part (bs [108, 101, 118, 101, 108]) val_4).bind fun val_5 => spec_RequestText_L11 k (bs []) 0 [val, val_1, val_3, val_5]
noncomputable def spec_RequestText_L11 : Nat → ByteArray → Int → (List ByteArray) → Option (ByteArray)
  | 0, _, _, _ => none
  | k + 1, a0, a1, a2 =>
  bif decide (a1 < (↑a2.length : Int)) then bif decide (0 ≤ a1) then bif decide (a1 < (↑a2.length : Int)) then bif decide (a1 < (↑a2.length : Int)) then bif !ByteArray.toList (rd Kind.str a2 a1) == (bs []).toList then bif !a0.toList == (bs []).toList then bif decide (a0.size + (bs [44]).size ≤ 9223372036854775807) then bif decide (0 ≤ a1) then bif decide (a1 < (↑a2.length : Int)) then bif decide (a1 < (↑a2.length : Int)) then bif decide ((a0 ++ bs [44]).size + ByteArray.size (rd Kind.str a2 a1) ≤ 9223372036854775807) then spec_RequestText_L11 k (a0 ++ bs [44] ++ rd Kind.str a2 a1) (IntKind.i64.wrap (a1 + 1)) a2 else none else none else none else none else none else bif decide (0 ≤ a1) then bif decide (a1 < (↑a2.length : Int)) then bif decide (a1 < (↑a2.length : Int)) then bif decide (a0.size + ByteArray.size (rd Kind.str a2 a1) ≤ 9223372036854775807) then spec_RequestText_L11 k (a0 ++ rd Kind.str a2 a1) (IntKind.i64.wrap (a1 + 1)) a2 else none else none else none else none else bif decide (0 ≤ a1) then bif decide (a1 < (↑a2.length : Int)) then bif decide (a1 < (↑a2.length : Int)) then bif decide (a0.size + ByteArray.size (rd Kind.str a2 a1) ≤ 9223372036854775807) then spec_RequestText_L11 k (a0 ++ rd Kind.str a2 a1) (IntKind.i64.wrap (a1 + 1)) a2 else none else none else none else none else none else none else none else some a0
end
noncomputable def j_spec_RequestText : List (Nat × (Nat → Cut (ByteArray))) := [(5, fun k => ⟨s_spec_RequestText_5, fun x => spec_RequestText_L5 k x.1.2.2.1 x.2.1.1 x.2.1.2.1 x.2.1.2.2.1 x.2.1.2.2.2.1 x.2.2.1⟩), (11, fun k => ⟨s_spec_RequestText_11, fun x => spec_RequestText_L11 k x.1.2.1 x.1.2.2.1 x.2.1⟩)]
noncomputable def spec_RequestText_F (k : Nat) (a0 : List ByteArray) (a1 : List Int) (a2 : List Int) (a3 : List Int) : Option (ByteArray) :=
  (spec_l25RequestOk a0 a1 a2 a3).bind fun val => bif !val then some (bs []) else spec_RequestText_L5 k 0 a0 a1 a2 a3 []
noncomputable def spec_RequestText (a0 : List ByteArray) (a1 : List Int) (a2 : List Int) (a3 : List Int) : Option (ByteArray) := evF fun k => spec_RequestText_F k a0 a1 a2 a3
noncomputable def g_spec_RequestText : Sg := ⟨i_spec_RequestText, o_spec_RequestText, ByteArray, fun y => ((y, ()), ()), fun x => spec_RequestText x.1.1.1 x.1.1.2.1 x.1.1.2.2.1 x.1.1.2.2.2.1⟩
noncomputable def C_spec_RequestText : Ctx := ⟨66, tiOf Tryd.prog, gl, sgOf [(43, g_spec_l25RequestOk), (44, g_spec_Stamp), (45, g_spec_l25Part), (46, g_spec_l25Decs)], []⟩
noncomputable def r_spec_RequestText : AExit → Env → Option (ByteArray) := retK C_spec_RequestText 0 o_spec_RequestText (fun y => y.1.1) Tryd.f17.results.toList
theorem e_spec_RequestText : Sound Tryd.prog gl 17 g_spec_RequestText :=
  sound_cuts (C := C_spec_RequestText) ⟨fun _ _ h => h, by kernel_rfl⟩ (sgOf_all' ⟨.inl ⟨by kernel_rfl, e_spec_l25RequestOk⟩, .inl ⟨by kernel_rfl, (Sound.mono gl_ST (by rfl) e_spec_Stamp)⟩, .inl ⟨by kernel_rfl, e_spec_l25Part⟩, .inl ⟨by kernel_rfl, e_spec_l25Decs⟩, trivial⟩) 17 Tryd.f17 g_spec_RequestText (fun y => y.1.1) j_spec_RequestText 2 (by kernel_rfl) (by kernel_rfl) (by kernel_rfl) (by kernel_rfl) (by kernel_rfl) (by kernel_rfl) (fun _ => rfl) (by kernel_rfl) (by kernel_rfl)
    ⟨⟨trivial, s_spec_RequestText_5, fun k x => spec_RequestText_L5 k x.1.2.2.1 x.2.1.1 x.2.1.2.1 x.2.1.2.2.1 x.2.1.2.2.2.1 x.2.2.1, ⟨fun k => by kernel_rfl, fun k y => by kernel_rfl, fun y => by kernel_rfl⟩⟩, s_spec_RequestText_11, fun k x => spec_RequestText_L11 k x.1.2.1 x.1.2.2.1 x.2.1, ⟨fun k => by kernel_rfl, fun k y => by kernel_rfl, fun y => by kernel_rfl⟩⟩
    (fun k x => spec_RequestText_F k x.1.1.1 x.1.1.2.1 x.1.1.2.2.1 x.1.1.2.2.2.1) (fun x => rfl) (fun k x => by kernel_rfl)
-- loop.example/g00051/impl.paramOk
noncomputable def i_impl_paramOk : Shape := ⟨[(0, .c (.str))], []⟩
noncomputable def o_impl_paramOk : Shape := ⟨[(0, .c (.bool))], []⟩
noncomputable def s_impl_paramOk_2 : Shape := ⟨[(0, .c (.str)), (3, .c (.int .i64))], []⟩
noncomputable def impl_paramOk_L2 : Nat → ByteArray → Int → Option (Bool)
  | 0, _, _ => none
  | k + 1, a0, a1 =>
  bif decide (a1 < (↑a0.size : Int)) then bif decide (0 ≤ a1) then bif decide (a1 < (↑a0.size : Int)) then bif decide (bt a0 a1 < 97) then some false else bif decide (0 ≤ a1) then bif decide (a1 < (↑a0.size : Int)) then bif decide (bt a0 a1 > 122) then some false else impl_paramOk_L2 k a0 (IntKind.i64.wrap (a1 + 1)) else none else none else none else none else (impl_in (↑a0.size : Int) 1 4).bind fun val => some val
noncomputable def j_impl_paramOk : List (Nat × (Nat → Cut (Bool))) := [(2, fun k => ⟨s_impl_paramOk_2, fun x => impl_paramOk_L2 k x.1.1 x.1.2.1⟩)]
noncomputable def impl_paramOk_F (k : Nat) (a0 : ByteArray) : Option (Bool) :=
  impl_paramOk_L2 k a0 0
noncomputable def impl_paramOk (a0 : ByteArray) : Option (Bool) := evF fun k => impl_paramOk_F k a0
noncomputable def g_impl_paramOk : Sg := ⟨i_impl_paramOk, o_impl_paramOk, Bool, fun y => ((y, ()), ()), fun x => impl_paramOk x.1.1⟩
noncomputable def C_impl_paramOk : Ctx := ⟨23, tiOf Tryd.prog, gl, sgOf [(38, g_impl_in)], []⟩
noncomputable def r_impl_paramOk : AExit → Env → Option (Bool) := retK C_impl_paramOk 0 o_impl_paramOk (fun y => y.1.1) Tryd.f91.results.toList
theorem e_impl_paramOk : Sound Tryd.prog gl 91 g_impl_paramOk :=
  sound_cuts (C := C_impl_paramOk) ⟨fun _ _ h => h, by kernel_rfl⟩ (sgOf_all' ⟨.inl ⟨by kernel_rfl, (Sound.mono gl_DT (by rfl) e_impl_in)⟩, trivial⟩) 91 Tryd.f91 g_impl_paramOk (fun y => y.1.1) j_impl_paramOk 1 (by kernel_rfl) (by kernel_rfl) (by kernel_rfl) (by kernel_rfl) (by kernel_rfl) (by kernel_rfl) (fun _ => rfl) (by kernel_rfl) (by kernel_rfl)
    ⟨trivial, s_impl_paramOk_2, fun k x => impl_paramOk_L2 k x.1.1 x.1.2.1, ⟨fun k => by kernel_rfl, fun k y => by kernel_rfl, fun y => by kernel_rfl⟩⟩
    (fun k x => impl_paramOk_F k x.1.1) (fun x => rfl) (fun k x => by kernel_rfl)
-- loop.example/g00051/impl.each
noncomputable def i_impl_each : Shape := ⟨[(0, .c (.sl (.int .i64))), (1, .c (.int .i64)), (2, .c (.int .i64)), (3, .c (.int .i64))], []⟩
noncomputable def o_impl_each : Shape := ⟨[(0, .c (.bool))], []⟩
noncomputable def s_impl_each_4 : Shape := ⟨[(2, .c (.int .i64)), (3, .c (.int .i64)), (15, .c (.sl (.int .i64))), (16, .c (.int .i64)), (17, .c (.int .i64))], []⟩
noncomputable def impl_each_L4 : Nat → Int → Int → (List Int) → Int → Int → Option (Bool)
  | 0, _, _, _, _, _ => none
  | k + 1, a0, a1, a2, a3, a4 =>
  bif decide (a4 < a3) then bif decide (0 ≤ a4) then bif decide (a4 < (↑a2.length : Int)) then (impl_in (rd (Kind.int IntKind.i64) a2 a4) a0 a1).bind fun val => bif !val then some false else impl_each_L4 k a0 a1 a2 a3 (IntKind.i64.wrap (a4 + 1)) else none else none else some true
noncomputable def j_impl_each : List (Nat × (Nat → Cut (Bool))) := [(4, fun k => ⟨s_impl_each_4, fun x => impl_each_L4 k x.1.1 x.1.2.1 x.1.2.2.1 x.1.2.2.2.1 x.1.2.2.2.2.1⟩)]
noncomputable def impl_each_F (k : Nat) (a0 : List Int) (a1 : Int) (a2 : Int) (a3 : Int) : Option (Bool) :=
  bif (↑a0.length : Int) != a1 then some false else impl_each_L4 k a2 a3 a0 (↑a0.length : Int) 0
noncomputable def impl_each (a0 : List Int) (a1 : Int) (a2 : Int) (a3 : Int) : Option (Bool) := evF fun k => impl_each_F k a0 a1 a2 a3
noncomputable def g_impl_each : Sg := ⟨i_impl_each, o_impl_each, Bool, fun y => ((y, ()), ()), fun x => impl_each x.1.1 x.1.2.1 x.1.2.2.1 x.1.2.2.2.1⟩
noncomputable def C_impl_each : Ctx := ⟨27, tiOf Tryd.prog, gl, sgOf [(38, g_impl_in)], []⟩
noncomputable def r_impl_each : AExit → Env → Option (Bool) := retK C_impl_each 0 o_impl_each (fun y => y.1.1) Tryd.f114.results.toList
theorem e_impl_each : Sound Tryd.prog gl 114 g_impl_each :=
  sound_cuts (C := C_impl_each) ⟨fun _ _ h => h, by kernel_rfl⟩ (sgOf_all' ⟨.inl ⟨by kernel_rfl, (Sound.mono gl_DT (by rfl) e_impl_in)⟩, trivial⟩) 114 Tryd.f114 g_impl_each (fun y => y.1.1) j_impl_each 1 (by kernel_rfl) (by kernel_rfl) (by kernel_rfl) (by kernel_rfl) (by kernel_rfl) (by kernel_rfl) (fun _ => rfl) (by kernel_rfl) (by kernel_rfl)
    ⟨trivial, s_impl_each_4, fun k x => impl_each_L4 k x.1.1 x.1.2.1 x.1.2.2.1 x.1.2.2.2.1 x.1.2.2.2.2.1, ⟨fun k => by kernel_rfl, fun k y => by kernel_rfl, fun y => by kernel_rfl⟩⟩
    (fun k x => impl_each_F k x.1.1 x.1.2.1 x.1.2.2.1 x.1.2.2.2.1) (fun x => rfl) (fun k x => by kernel_rfl)
-- loop.example/g00051/impl.risesIn
noncomputable def i_impl_risesIn : Shape := ⟨[(0, .c (.sl (.int .i64))), (1, .c (.int .i64)), (2, .c (.int .i64))], []⟩
noncomputable def o_impl_risesIn : Shape := ⟨[(0, .c (.bool))], []⟩
noncomputable def s_impl_risesIn_4 : Shape := ⟨[(0, .c (.sl (.int .i64))), (7, .c (.int .i64))], []⟩
noncomputable def impl_risesIn_L4 : Nat → (List Int) → Int → Option (Bool)
  | 0, _, _ => none
  | k + 1, a0, a1 =>
  bif decide (a1 < (↑a0.length : Int)) then bif decide (0 ≤ IntKind.i64.wrap (a1 - 1)) then bif decide (IntKind.i64.wrap (a1 - 1) < (↑a0.length : Int)) then bif decide (0 ≤ a1) then bif decide (a1 < (↑a0.length : Int)) then bif decide (rd (Kind.int IntKind.i64) a0 (IntKind.i64.wrap (a1 - 1)) ≥ rd (Kind.int IntKind.i64) a0 a1) then some false else impl_risesIn_L4 k a0 (IntKind.i64.wrap (a1 + 1)) else none else none else none else none else some true
noncomputable def j_impl_risesIn : List (Nat × (Nat → Cut (Bool))) := [(4, fun k => ⟨s_impl_risesIn_4, fun x => impl_risesIn_L4 k x.1.1 x.1.2.1⟩)]
noncomputable def impl_risesIn_F (k : Nat) (a0 : List Int) (a1 : Int) (a2 : Int) : Option (Bool) :=
  bif decide ((↑a0.length : Int) > 40) then some false else (impl_each a0 (↑a0.length : Int) a1 a2).bind fun val => bif !val then some false else impl_risesIn_L4 k a0 1
noncomputable def impl_risesIn (a0 : List Int) (a1 : Int) (a2 : Int) : Option (Bool) := evF fun k => impl_risesIn_F k a0 a1 a2
noncomputable def g_impl_risesIn : Sg := ⟨i_impl_risesIn, o_impl_risesIn, Bool, fun y => ((y, ()), ()), fun x => impl_risesIn x.1.1 x.1.2.1 x.1.2.2.1⟩
noncomputable def C_impl_risesIn : Ctx := ⟨36, tiOf Tryd.prog, gl, sgOf [(114, g_impl_each)], []⟩
noncomputable def r_impl_risesIn : AExit → Env → Option (Bool) := retK C_impl_risesIn 0 o_impl_risesIn (fun y => y.1.1) Tryd.f92.results.toList
theorem e_impl_risesIn : Sound Tryd.prog gl 92 g_impl_risesIn :=
  sound_cuts (C := C_impl_risesIn) ⟨fun _ _ h => h, by kernel_rfl⟩ (sgOf_all' ⟨.inl ⟨by kernel_rfl, e_impl_each⟩, trivial⟩) 92 Tryd.f92 g_impl_risesIn (fun y => y.1.1) j_impl_risesIn 1 (by kernel_rfl) (by kernel_rfl) (by kernel_rfl) (by kernel_rfl) (by kernel_rfl) (by kernel_rfl) (fun _ => rfl) (by kernel_rfl) (by kernel_rfl)
    ⟨trivial, s_impl_risesIn_4, fun k x => impl_risesIn_L4 k x.1.1 x.1.2.1, ⟨fun k => by kernel_rfl, fun k y => by kernel_rfl, fun y => by kernel_rfl⟩⟩
    (fun k x => impl_risesIn_F k x.1.1 x.1.2.1 x.1.2.2.1) (fun x => rfl) (fun k x => by kernel_rfl)
-- loop.example/g00051/impl.requestOk
noncomputable def i_impl_requestOk : Shape := ⟨[(0, .agg [.sl .str, .sl (.int .i64), .sl (.int .i64), .sl (.int .i64)])], []⟩
noncomputable def o_impl_requestOk : Shape := ⟨[(0, .c (.bool))], []⟩
noncomputable def s_impl_requestOk_4 : Shape := ⟨[(1, .c (.ptr 0 0)), (10, .c (.sl .str)), (11, .c (.int .i64)), (12, .c (.int .i64))], [.box 40 [.sl .str, .sl (.int .i64), .sl (.int .i64), .sl (.int .i64)]]⟩
noncomputable def impl_requestOk_L4 : Nat → (List ByteArray) → Int → Int → (List ByteArray) → (List Int) → (List Int) → (List Int) → Option (Bool)
  | 0, _, _, _, _, _, _, _ => none
  | k + 1, a0, a1, a2, a3, a4, a5, a6 =>
  bif decide (a2 < a1) then bif decide (0 ≤ a2) then bif decide (a2 < (↑a0.length : Int)) then (impl_paramOk (rd Kind.str a0 a2)).bind fun val => bif !val then some false else bif decide (a2 > 0) then bif decide (0 ≤ IntKind.i64.wrap (a2 - 1)) then bif decide (IntKind.i64.wrap (a2 - 1) < (↑a3.length : Int)) then bif !Op.bytesLess (ByteArray.toList (rd Kind.str a3 (IntKind.i64.wrap (a2 - 1)))) (ByteArray.toList (rd Kind.str a0 a2)) then some false else impl_requestOk_L4 k a0 a1 (IntKind.i64.wrap (a2 + 1)) a3 a4 a5 a6 else none else none else impl_requestOk_L4 k a0 a1 (IntKind.i64.wrap (a2 + 1)) a3 a4 a5 a6 else none else none else (impl_risesIn a4 0 52596000).bind fun val => bif val then (impl_risesIn a5 0 360).bind fun val => bif val then (impl_risesIn a6 0 1100).bind fun val => some val else some false else some false
noncomputable def j_impl_requestOk : List (Nat × (Nat → Cut (Bool))) := [(4, fun k => ⟨s_impl_requestOk_4, fun x => impl_requestOk_L4 k x.1.2.1 x.1.2.2.1 x.1.2.2.2.1 x.2.1.1 x.2.1.2.1 x.2.1.2.2.1 x.2.1.2.2.2.1⟩)]
noncomputable def impl_requestOk_F (k : Nat) (a0 : List ByteArray) (a1 : List Int) (a2 : List Int) (a3 : List Int) : Option (Bool) :=
  bif decide ((↑a0.length : Int) > 40) then some false else impl_requestOk_L4 k a0 (↑a0.length : Int) 0 a0 a1 a2 a3
noncomputable def impl_requestOk (a0 : List ByteArray) (a1 : List Int) (a2 : List Int) (a3 : List Int) : Option (Bool) := evF fun k => impl_requestOk_F k a0 a1 a2 a3
noncomputable def g_impl_requestOk : Sg := ⟨i_impl_requestOk, o_impl_requestOk, Bool, fun y => ((y, ()), ()), fun x => impl_requestOk x.1.1.1 x.1.1.2.1 x.1.1.2.2.1 x.1.1.2.2.2.1⟩
noncomputable def C_impl_requestOk : Ctx := ⟨48, tiOf Tryd.prog, gl, sgOf [(91, g_impl_paramOk), (92, g_impl_risesIn)], []⟩
noncomputable def r_impl_requestOk : AExit → Env → Option (Bool) := retK C_impl_requestOk 0 o_impl_requestOk (fun y => y.1.1) Tryd.f49.results.toList
theorem e_impl_requestOk : Sound Tryd.prog gl 49 g_impl_requestOk :=
  sound_cuts (C := C_impl_requestOk) ⟨fun _ _ h => h, by kernel_rfl⟩ (sgOf_all' ⟨.inl ⟨by kernel_rfl, e_impl_paramOk⟩, .inl ⟨by kernel_rfl, e_impl_risesIn⟩, trivial⟩) 49 Tryd.f49 g_impl_requestOk (fun y => y.1.1) j_impl_requestOk 1 (by kernel_rfl) (by kernel_rfl) (by kernel_rfl) (by kernel_rfl) (by kernel_rfl) (by kernel_rfl) (fun _ => rfl) (by kernel_rfl) (by kernel_rfl)
    ⟨trivial, s_impl_requestOk_4, fun k x => impl_requestOk_L4 k x.1.2.1 x.1.2.2.1 x.1.2.2.2.1 x.2.1.1 x.2.1.2.1 x.2.1.2.2.1 x.2.1.2.2.2.1, ⟨fun k => by kernel_rfl, fun k y => by kernel_rfl, fun y => by kernel_rfl⟩⟩
    (fun k x => impl_requestOk_F k x.1.1.1 x.1.1.2.1 x.1.1.2.2.1 x.1.1.2.2.2.1) (fun x => rfl) (fun k x => by kernel_rfl)
-- loop.example/g00051/impl.RequestText$2
noncomputable def i_impl_RequestText_2 : Shape := ⟨[(0, .c (.int .i64)), (1, .c (.ptr 0 0))], [.box 40 [.sl .str, .sl (.int .i64), .sl (.int .i64), .sl (.int .i64)]]⟩
noncomputable def o_impl_RequestText_2 : Shape := ⟨[(0, .c (.str))], [.box 40 [.sl .str, .sl (.int .i64), .sl (.int .i64), .sl (.int .i64)]]⟩
noncomputable def impl_RequestText_2 (a0 : Int) (a1 : List ByteArray) (a2 : List Int) (a3 : List Int) (a4 : List Int) : Option (ByteArray × (List ByteArray) × (List Int) × (List Int) × (List Int)) :=
  bif decide (0 ≤ a0) then bif decide (a0 < (↑a1.length : Int)) then some (rd Kind.str a1 a0, a1, a2, a3, a4) else none else none
noncomputable def g_impl_RequestText_2 : Sg := ⟨i_impl_RequestText_2, o_impl_RequestText_2, ByteArray × (List ByteArray) × (List Int) × (List Int) × (List Int), fun y => ((y.1, ()), ((y.2.1, y.2.2.1, y.2.2.2.1, y.2.2.2.2, ()), ())), fun x => impl_RequestText_2 x.1.1 x.2.1.1 x.2.1.2.1 x.2.1.2.2.1 x.2.1.2.2.2.1⟩
noncomputable def C_impl_RequestText_2 : Ctx := ⟨9, tiOf Tryd.prog, gl, sgOf [], []⟩
noncomputable def r_impl_RequestText_2 : AExit → Env → Option (ByteArray × (List ByteArray) × (List Int) × (List Int) × (List Int)) := retK C_impl_RequestText_2 1 o_impl_RequestText_2 (fun y => (y.1.1, y.2.1.1, y.2.1.2.1, y.2.1.2.2.1, y.2.1.2.2.2.1)) Tryd.f51.results.toList
theorem e_impl_RequestText_2 : Sound Tryd.prog gl 51 g_impl_RequestText_2 :=
  sound_plain (C := C_impl_RequestText_2) ⟨fun _ _ h => h, by kernel_rfl⟩ (sgOf_all' trivial) 51 Tryd.f51 g_impl_RequestText_2 (fun y => (y.1.1, y.2.1.1, y.2.1.2.1, y.2.1.2.2.1, y.2.1.2.2.2.1)) (by kernel_rfl) (by kernel_rfl) (by kernel_rfl) (by kernel_rfl) (by kernel_rfl) (by kernel_rfl) (fun _ => rfl) (fun x => by kernel_rfl)
-- loop.example/g00051/impl.RequestText$3
noncomputable def i_impl_RequestText_3 : Shape := ⟨[(0, .c (.int .i64)), (1, .c (.ptr 0 0))], [.box 40 [.sl .str, .sl (.int .i64), .sl (.int .i64), .sl (.int .i64)]]⟩
noncomputable def o_impl_RequestText_3 : Shape := ⟨[(0, .c (.str))], [.box 40 [.sl .str, .sl (.int .i64), .sl (.int .i64), .sl (.int .i64)]]⟩
noncomputable def impl_RequestText_3 (a0 : Int) (a1 : List ByteArray) (a2 : List Int) (a3 : List Int) (a4 : List Int) : Option (ByteArray × (List ByteArray) × (List Int) × (List Int) × (List Int)) :=
  bif decide (0 ≤ a0) then bif decide (a0 < (↑a2.length : Int)) then (impl_Stamp (rd (Kind.int IntKind.i64) a2 a0)).bind fun val => some (val, a1, a2, a3, a4) else none else none
noncomputable def g_impl_RequestText_3 : Sg := ⟨i_impl_RequestText_3, o_impl_RequestText_3, ByteArray × (List ByteArray) × (List Int) × (List Int) × (List Int), fun y => ((y.1, ()), ((y.2.1, y.2.2.1, y.2.2.2.1, y.2.2.2.2, ()), ())), fun x => impl_RequestText_3 x.1.1 x.2.1.1 x.2.1.2.1 x.2.1.2.2.1 x.2.1.2.2.2.1⟩
noncomputable def C_impl_RequestText_3 : Ctx := ⟨10, tiOf Tryd.prog, gl, sgOf [(53, g_impl_Stamp)], []⟩
noncomputable def r_impl_RequestText_3 : AExit → Env → Option (ByteArray × (List ByteArray) × (List Int) × (List Int) × (List Int)) := retK C_impl_RequestText_3 1 o_impl_RequestText_3 (fun y => (y.1.1, y.2.1.1, y.2.1.2.1, y.2.1.2.2.1, y.2.1.2.2.2.1)) Tryd.f52.results.toList
theorem e_impl_RequestText_3 : Sound Tryd.prog gl 52 g_impl_RequestText_3 :=
  sound_plain (C := C_impl_RequestText_3) ⟨fun _ _ h => h, by kernel_rfl⟩ (sgOf_all' ⟨.inl ⟨by kernel_rfl, (Sound.mono gl_ST (by rfl) e_impl_Stamp)⟩, trivial⟩) 52 Tryd.f52 g_impl_RequestText_3 (fun y => (y.1.1, y.2.1.1, y.2.1.2.1, y.2.1.2.2.1, y.2.1.2.2.2.1)) (by kernel_rfl) (by kernel_rfl) (by kernel_rfl) (by kernel_rfl) (by kernel_rfl) (by kernel_rfl) (fun _ => rfl) (fun x => by kernel_rfl)
-- loop.example/g00051/impl.RequestText$4
noncomputable def i_impl_RequestText_4 : Shape := ⟨[(0, .c (.int .i64)), (1, .c (.ptr 0 0))], [.box 40 [.sl .str, .sl (.int .i64), .sl (.int .i64), .sl (.int .i64)]]⟩
noncomputable def o_impl_RequestText_4 : Shape := ⟨[(0, .c (.str))], [.box 40 [.sl .str, .sl (.int .i64), .sl (.int .i64), .sl (.int .i64)]]⟩
noncomputable def impl_RequestText_4 (a0 : Int) (a1 : List ByteArray) (a2 : List Int) (a3 : List Int) (a4 : List Int) : Option (ByteArray × (List ByteArray) × (List Int) × (List Int) × (List Int)) :=
  bif decide (0 ≤ a0) then bif decide (a0 < (↑a3.length : Int)) then (impl_dec (rd (Kind.int IntKind.i64) a3 a0)).bind fun val => some (val, a1, a2, a3, a4) else none else none
noncomputable def g_impl_RequestText_4 : Sg := ⟨i_impl_RequestText_4, o_impl_RequestText_4, ByteArray × (List ByteArray) × (List Int) × (List Int) × (List Int), fun y => ((y.1, ()), ((y.2.1, y.2.2.1, y.2.2.2.1, y.2.2.2.2, ()), ())), fun x => impl_RequestText_4 x.1.1 x.2.1.1 x.2.1.2.1 x.2.1.2.2.1 x.2.1.2.2.2.1⟩
noncomputable def C_impl_RequestText_4 : Ctx := ⟨10, tiOf Tryd.prog, gl, sgOf [(40, g_impl_dec)], []⟩
noncomputable def r_impl_RequestText_4 : AExit → Env → Option (ByteArray × (List ByteArray) × (List Int) × (List Int) × (List Int)) := retK C_impl_RequestText_4 1 o_impl_RequestText_4 (fun y => (y.1.1, y.2.1.1, y.2.1.2.1, y.2.1.2.2.1, y.2.1.2.2.2.1)) Tryd.f54.results.toList
theorem e_impl_RequestText_4 : Sound Tryd.prog gl 54 g_impl_RequestText_4 :=
  sound_plain (C := C_impl_RequestText_4) ⟨fun _ _ h => h, by kernel_rfl⟩ (sgOf_all' ⟨.inl ⟨by kernel_rfl, (Sound.mono gl_DT (by rfl) e_impl_dec)⟩, trivial⟩) 54 Tryd.f54 g_impl_RequestText_4 (fun y => (y.1.1, y.2.1.1, y.2.1.2.1, y.2.1.2.2.1, y.2.1.2.2.2.1)) (by kernel_rfl) (by kernel_rfl) (by kernel_rfl) (by kernel_rfl) (by kernel_rfl) (by kernel_rfl) (fun _ => rfl) (fun x => by kernel_rfl)
-- loop.example/g00051/impl.RequestText$5
noncomputable def i_impl_RequestText_5 : Shape := ⟨[(0, .c (.int .i64)), (1, .c (.ptr 0 0))], [.box 40 [.sl .str, .sl (.int .i64), .sl (.int .i64), .sl (.int .i64)]]⟩
noncomputable def o_impl_RequestText_5 : Shape := ⟨[(0, .c (.str))], [.box 40 [.sl .str, .sl (.int .i64), .sl (.int .i64), .sl (.int .i64)]]⟩
noncomputable def impl_RequestText_5 (a0 : Int) (a1 : List ByteArray) (a2 : List Int) (a3 : List Int) (a4 : List Int) : Option (ByteArray × (List ByteArray) × (List Int) × (List Int) × (List Int)) :=
  bif decide (0 ≤ a0) then bif decide (a0 < (↑a4.length : Int)) then (impl_dec (rd (Kind.int IntKind.i64) a4 a0)).bind fun val => some (val, a1, a2, a3, a4) else none else none
noncomputable def g_impl_RequestText_5 : Sg := ⟨i_impl_RequestText_5, o_impl_RequestText_5, ByteArray × (List ByteArray) × (List Int) × (List Int) × (List Int), fun y => ((y.1, ()), ((y.2.1, y.2.2.1, y.2.2.2.1, y.2.2.2.2, ()), ())), fun x => impl_RequestText_5 x.1.1 x.2.1.1 x.2.1.2.1 x.2.1.2.2.1 x.2.1.2.2.2.1⟩
noncomputable def C_impl_RequestText_5 : Ctx := ⟨10, tiOf Tryd.prog, gl, sgOf [(40, g_impl_dec)], []⟩
noncomputable def r_impl_RequestText_5 : AExit → Env → Option (ByteArray × (List ByteArray) × (List Int) × (List Int) × (List Int)) := retK C_impl_RequestText_5 1 o_impl_RequestText_5 (fun y => (y.1.1, y.2.1.1, y.2.1.2.1, y.2.1.2.2.1, y.2.1.2.2.2.1)) Tryd.f55.results.toList
theorem e_impl_RequestText_5 : Sound Tryd.prog gl 55 g_impl_RequestText_5 :=
  sound_plain (C := C_impl_RequestText_5) ⟨fun _ _ h => h, by kernel_rfl⟩ (sgOf_all' ⟨.inl ⟨by kernel_rfl, (Sound.mono gl_DT (by rfl) e_impl_dec)⟩, trivial⟩) 55 Tryd.f55 g_impl_RequestText_5 (fun y => (y.1.1, y.2.1.1, y.2.1.2.1, y.2.1.2.2.1, y.2.1.2.2.2.1)) (by kernel_rfl) (by kernel_rfl) (by kernel_rfl) (by kernel_rfl) (by kernel_rfl) (by kernel_rfl) (fun _ => rfl) (fun x => by kernel_rfl)
-- loop.example/g00051/impl.RequestText
noncomputable def i_impl_RequestText : Shape := ⟨[(0, .agg [.sl .str, .sl (.int .i64), .sl (.int .i64), .sl (.int .i64)])], []⟩
noncomputable def o_impl_RequestText : Shape := ⟨[(0, .c (.str))], []⟩
noncomputable def impl_RequestText (a0 : List ByteArray) (a1 : List Int) (a2 : List Int) (a3 : List Int) : Option (ByteArray) :=
  (impl_requestOk a0 a1 a2 a3).bind fun val => bif !val then some (bs []) else (add_51 (bs [112, 97, 114, 97, 109]) (↑a0.length : Int) a0 a1 a2 a3 []).bind fun val => (add_52 (bs [116, 105, 109, 101]) (↑val.snd.fst.length : Int) val.fst val.snd.fst val.snd.snd.fst val.snd.snd.snd.fst val.snd.snd.snd.snd).bind fun val => (add_54 (bs [115, 116, 101, 112]) (↑val.snd.snd.fst.length : Int) val.fst val.snd.fst val.snd.snd.fst val.snd.snd.snd.fst val.snd.snd.snd.snd).bind fun val => (add_55 (bs [108, 101, 118, 101, 108]) (↑val.snd.snd.snd.fst.length : Int) val.fst val.snd.fst val.snd.snd.fst val.snd.snd.snd.fst val.snd.snd.snd.snd).bind fun val => (dJoin val.snd.snd.snd.snd (bs [44])).bind fun val => some val
noncomputable def g_impl_RequestText : Sg := ⟨i_impl_RequestText, o_impl_RequestText, ByteArray, fun y => ((y, ()), ()), fun x => impl_RequestText x.1.1.1 x.1.1.2.1 x.1.1.2.2.1 x.1.1.2.2.2.1⟩
noncomputable def C_impl_RequestText : Ctx := ⟨36, tiOf Tryd.prog, gl, sgOf [(49, g_impl_requestOk), (50, g_add_51), (50, g_add_52), (50, g_add_54), (50, g_add_55), (51, g_impl_RequestText_2), (52, g_impl_RequestText_3), (54, g_impl_RequestText_4), (55, g_impl_RequestText_5), (39, gJoin)], []⟩
noncomputable def r_impl_RequestText : AExit → Env → Option (ByteArray) := retK C_impl_RequestText 0 o_impl_RequestText (fun y => y.1.1) Tryd.f19.results.toList
theorem e_impl_RequestText : Sound Tryd.prog gl 19 g_impl_RequestText :=
  sound_plain (C := C_impl_RequestText) ⟨fun _ _ h => h, by kernel_rfl⟩ (sgOf_all' ⟨.inl ⟨by kernel_rfl, e_impl_requestOk⟩, .inl ⟨by kernel_rfl, (Sound.mono gl_QV (by rfl) e_add_51)⟩, .inl ⟨by kernel_rfl, (Sound.mono gl_QV (by rfl) e_add_52)⟩, .inl ⟨by kernel_rfl, (Sound.mono gl_QV (by rfl) e_add_54)⟩, .inl ⟨by kernel_rfl, (Sound.mono gl_QV (by rfl) e_add_55)⟩, .inl ⟨by kernel_rfl, e_impl_RequestText_2⟩, .inl ⟨by kernel_rfl, e_impl_RequestText_3⟩, .inl ⟨by kernel_rfl, e_impl_RequestText_4⟩, .inl ⟨by kernel_rfl, e_impl_RequestText_5⟩, .inl ⟨by kernel_rfl, eJoin⟩, trivial⟩) 19 Tryd.f19 g_impl_RequestText (fun y => y.1.1) (by kernel_rfl) (by kernel_rfl) (by kernel_rfl) (by kernel_rfl) (by kernel_rfl) (by kernel_rfl) (fun _ => rfl) (fun x => by kernel_rfl)
-- loop.example/g00051/laws.eqStringS
noncomputable def i_laws_eqStringS : Shape := ⟨[(0, .c (.sl .str)), (1, .c (.sl .str))], []⟩
noncomputable def o_laws_eqStringS : Shape := ⟨[(0, .c (.bool))], []⟩
noncomputable def s_laws_eqStringS_4 : Shape := ⟨[(0, .c (.sl .str)), (1, .c (.sl .str)), (5, .c (.int .i64))], []⟩
noncomputable def laws_eqStringS_L4 : Nat → (List ByteArray) → (List ByteArray) → Int → Option (Bool)
  | 0, _, _, _ => none
  | k + 1, a0, a1, a2 =>
  bif decide (a2 < (↑a0.length : Int)) then bif decide (0 ≤ a2) then bif decide (a2 < (↑a0.length : Int)) then bif decide (0 ≤ a2) then bif decide (a2 < (↑a1.length : Int)) then bif !ByteArray.toList (rd Kind.str a0 a2) == ByteArray.toList (rd Kind.str a1 a2) then some false else laws_eqStringS_L4 k a0 a1 (IntKind.i64.wrap (a2 + 1)) else none else none else none else none else some true
noncomputable def j_laws_eqStringS : List (Nat × (Nat → Cut (Bool))) := [(4, fun k => ⟨s_laws_eqStringS_4, fun x => laws_eqStringS_L4 k x.1.1 x.1.2.1 x.1.2.2.1⟩)]
noncomputable def laws_eqStringS_F (k : Nat) (a0 : List ByteArray) (a1 : List ByteArray) : Option (Bool) :=
  bif (↑a0.length : Int) != (↑a1.length : Int) then some false else laws_eqStringS_L4 k a0 a1 0
noncomputable def laws_eqStringS (a0 : List ByteArray) (a1 : List ByteArray) : Option (Bool) := evF fun k => laws_eqStringS_F k a0 a1
noncomputable def g_laws_eqStringS : Sg := ⟨i_laws_eqStringS, o_laws_eqStringS, Bool, fun y => ((y, ()), ()), fun x => laws_eqStringS x.1.1 x.1.2.1⟩
noncomputable def C_laws_eqStringS : Ctx := ⟨26, tiOf Tryd.prog, gl, sgOf [], []⟩
noncomputable def r_laws_eqStringS : AExit → Env → Option (Bool) := retK C_laws_eqStringS 0 o_laws_eqStringS (fun y => y.1.1) Tryd.f56.results.toList
theorem e_laws_eqStringS : Sound Tryd.prog gl 56 g_laws_eqStringS :=
  sound_cuts (C := C_laws_eqStringS) ⟨fun _ _ h => h, by kernel_rfl⟩ (sgOf_all' trivial) 56 Tryd.f56 g_laws_eqStringS (fun y => y.1.1) j_laws_eqStringS 1 (by kernel_rfl) (by kernel_rfl) (by kernel_rfl) (by kernel_rfl) (by kernel_rfl) (by kernel_rfl) (fun _ => rfl) (by kernel_rfl) (by kernel_rfl)
    ⟨trivial, s_laws_eqStringS_4, fun k x => laws_eqStringS_L4 k x.1.1 x.1.2.1 x.1.2.2.1, ⟨fun k => by kernel_rfl, fun k y => by kernel_rfl, fun y => by kernel_rfl⟩⟩
    (fun k x => laws_eqStringS_F k x.1.1 x.1.2.1) (fun x => rfl) (fun k x => by kernel_rfl)
-- loop.example/g00051/laws.eqInt64S
noncomputable def i_laws_eqInt64S : Shape := ⟨[(0, .c (.sl (.int .i64))), (1, .c (.sl (.int .i64)))], []⟩
noncomputable def o_laws_eqInt64S : Shape := ⟨[(0, .c (.bool))], []⟩
noncomputable def s_laws_eqInt64S_4 : Shape := ⟨[(0, .c (.sl (.int .i64))), (1, .c (.sl (.int .i64))), (5, .c (.int .i64))], []⟩
noncomputable def laws_eqInt64S_L4 : Nat → (List Int) → (List Int) → Int → Option (Bool)
  | 0, _, _, _ => none
  | k + 1, a0, a1, a2 =>
  bif decide (a2 < (↑a0.length : Int)) then bif decide (0 ≤ a2) then bif decide (a2 < (↑a0.length : Int)) then bif decide (0 ≤ a2) then bif decide (a2 < (↑a1.length : Int)) then bif rd (Kind.int IntKind.i64) a0 a2 != rd (Kind.int IntKind.i64) a1 a2 then some false else laws_eqInt64S_L4 k a0 a1 (IntKind.i64.wrap (a2 + 1)) else none else none else none else none else some true
noncomputable def j_laws_eqInt64S : List (Nat × (Nat → Cut (Bool))) := [(4, fun k => ⟨s_laws_eqInt64S_4, fun x => laws_eqInt64S_L4 k x.1.1 x.1.2.1 x.1.2.2.1⟩)]
noncomputable def laws_eqInt64S_F (k : Nat) (a0 : List Int) (a1 : List Int) : Option (Bool) :=
  bif (↑a0.length : Int) != (↑a1.length : Int) then some false else laws_eqInt64S_L4 k a0 a1 0
noncomputable def laws_eqInt64S (a0 : List Int) (a1 : List Int) : Option (Bool) := evF fun k => laws_eqInt64S_F k a0 a1
noncomputable def g_laws_eqInt64S : Sg := ⟨i_laws_eqInt64S, o_laws_eqInt64S, Bool, fun y => ((y, ()), ()), fun x => laws_eqInt64S x.1.1 x.1.2.1⟩
noncomputable def C_laws_eqInt64S : Ctx := ⟨26, tiOf Tryd.prog, gl, sgOf [], []⟩
noncomputable def r_laws_eqInt64S : AExit → Env → Option (Bool) := retK C_laws_eqInt64S 0 o_laws_eqInt64S (fun y => y.1.1) Tryd.f57.results.toList
theorem e_laws_eqInt64S : Sound Tryd.prog gl 57 g_laws_eqInt64S :=
  sound_cuts (C := C_laws_eqInt64S) ⟨fun _ _ h => h, by kernel_rfl⟩ (sgOf_all' trivial) 57 Tryd.f57 g_laws_eqInt64S (fun y => y.1.1) j_laws_eqInt64S 1 (by kernel_rfl) (by kernel_rfl) (by kernel_rfl) (by kernel_rfl) (by kernel_rfl) (by kernel_rfl) (fun _ => rfl) (by kernel_rfl) (by kernel_rfl)
    ⟨trivial, s_laws_eqInt64S_4, fun k x => laws_eqInt64S_L4 k x.1.1 x.1.2.1 x.1.2.2.1, ⟨fun k => by kernel_rfl, fun k y => by kernel_rfl, fun y => by kernel_rfl⟩⟩
    (fun k x => laws_eqInt64S_F k x.1.1 x.1.2.1) (fun x => rfl) (fun k x => by kernel_rfl)
-- loop.example/g00051/laws.eqRequest
noncomputable def i_laws_eqRequest : Shape := ⟨[(0, .agg [.sl .str, .sl (.int .i64), .sl (.int .i64), .sl (.int .i64)]), (1, .agg [.sl .str, .sl (.int .i64), .sl (.int .i64), .sl (.int .i64)])], []⟩
noncomputable def o_laws_eqRequest : Shape := ⟨[(0, .c (.bool))], []⟩
noncomputable def laws_eqRequest (a0 : List ByteArray) (a1 : List Int) (a2 : List Int) (a3 : List Int) (a4 : List ByteArray) (a5 : List Int) (a6 : List Int) (a7 : List Int) : Option (Bool) :=
  (laws_eqStringS a0 a4).bind fun val => bif !val then some false else (laws_eqInt64S a1 a5).bind fun val => bif !val then some false else (laws_eqInt64S a2 a6).bind fun val => bif !val then some false else (laws_eqInt64S a3 a7).bind fun val => bif !val then some false else some true
noncomputable def g_laws_eqRequest : Sg := ⟨i_laws_eqRequest, o_laws_eqRequest, Bool, fun y => ((y, ()), ()), fun x => laws_eqRequest x.1.1.1 x.1.1.2.1 x.1.1.2.2.1 x.1.1.2.2.2.1 x.1.2.1.1 x.1.2.1.2.1 x.1.2.1.2.2.1 x.1.2.1.2.2.2.1⟩
noncomputable def C_laws_eqRequest : Ctx := ⟨29, tiOf Tryd.prog, gl, sgOf [(56, g_laws_eqStringS), (57, g_laws_eqInt64S)], []⟩
noncomputable def r_laws_eqRequest : AExit → Env → Option (Bool) := retK C_laws_eqRequest 0 o_laws_eqRequest (fun y => y.1.1) Tryd.f20.results.toList
theorem e_laws_eqRequest : Sound Tryd.prog gl 20 g_laws_eqRequest :=
  sound_plain (C := C_laws_eqRequest) ⟨fun _ _ h => h, by kernel_rfl⟩ (sgOf_all' ⟨.inl ⟨by kernel_rfl, e_laws_eqStringS⟩, .inl ⟨by kernel_rfl, e_laws_eqInt64S⟩, trivial⟩) 20 Tryd.f20 g_laws_eqRequest (fun y => y.1.1) (by kernel_rfl) (by kernel_rfl) (by kernel_rfl) (by kernel_rfl) (by kernel_rfl) (by kernel_rfl) (fun _ => rfl) (fun x => by kernel_rfl)
-- loop.example/g00051/laws.FnExactRequestText
noncomputable def i_laws_FnExactRequestText : Shape := ⟨[(0, .agg [.sl .str, .sl (.int .i64), .sl (.int .i64), .sl (.int .i64)])], []⟩
noncomputable def o_laws_FnExactRequestText : Shape := ⟨[(0, .c (.bool))], []⟩
noncomputable def laws_FnExactRequestText (a0 : List ByteArray) (a1 : List Int) (a2 : List Int) (a3 : List Int) : Option (Bool) :=
  (laws_szRequest a0 a1 a2 a3 1048576).bind fun val => bif decide (val < 0) then some true else (laws_toRequest a0 a1 a2 a3).bind fun val => (spec_RequestText val.fst val.snd.fst val.snd.snd.fst val.snd.snd.snd).bind fun val => (laws_toRequest a0 a1 a2 a3).bind fun val_1 => (impl_RequestText val_1.fst val_1.snd.fst val_1.snd.snd.fst val_1.snd.snd.snd).bind fun val_2 => bif !ByteArray.toList val_2 == ByteArray.toList val then some false else (laws_toRequest a0 a1 a2 a3).bind fun val => (laws_eqRequest val_1.fst val_1.snd.fst val_1.snd.snd.fst val_1.snd.snd.snd val.fst val.snd.fst val.snd.snd.fst val.snd.snd.snd).bind fun val => bif !val then some false else some true
noncomputable def g_laws_FnExactRequestText : Sg := ⟨i_laws_FnExactRequestText, o_laws_FnExactRequestText, Bool, fun y => ((y, ()), ()), fun x => laws_FnExactRequestText x.1.1.1 x.1.1.2.1 x.1.1.2.2.1 x.1.1.2.2.2.1⟩
noncomputable def C_laws_FnExactRequestText : Ctx := ⟨27, tiOf Tryd.prog, gl, sgOf [(16, g_laws_szRequest), (18, g_laws_toRequest), (17, g_spec_RequestText), (19, g_impl_RequestText), (20, g_laws_eqRequest)], []⟩
noncomputable def r_laws_FnExactRequestText : AExit → Env → Option (Bool) := retK C_laws_FnExactRequestText 0 o_laws_FnExactRequestText (fun y => y.1.1) Tryd.f5.results.toList
theorem e_laws_FnExactRequestText : Sound Tryd.prog gl 5 g_laws_FnExactRequestText :=
  sound_plain (C := C_laws_FnExactRequestText) ⟨fun _ _ h => h, by kernel_rfl⟩ (sgOf_all' ⟨.inl ⟨by kernel_rfl, e_laws_szRequest⟩, .inl ⟨by kernel_rfl, e_laws_toRequest⟩, .inl ⟨by kernel_rfl, e_spec_RequestText⟩, .inl ⟨by kernel_rfl, e_impl_RequestText⟩, .inl ⟨by kernel_rfl, e_laws_eqRequest⟩, trivial⟩) 5 Tryd.f5 g_laws_FnExactRequestText (fun y => y.1.1) (by kernel_rfl) (by kernel_rfl) (by kernel_rfl) (by kernel_rfl) (by kernel_rfl) (by kernel_rfl) (fun _ => rfl) (fun x => by kernel_rfl)
end Go.Proofs.YtgkejafaggaocaaDoor.RQ
