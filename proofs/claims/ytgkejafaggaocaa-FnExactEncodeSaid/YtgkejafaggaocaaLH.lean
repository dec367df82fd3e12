/-
  Part of a proof by the engine: texts that a program of ours printed, or plain lemmas on them. No condition but what each theorem says.
-/
import Derived.Test.YtgkejafaggaocaaEng5
import Derived.Test.YtgkejafaggaocaaProg
import Derived.KernelRfl
import Derived.Test.YtgkejafaggaocaaDoorsF
set_option linter.unusedVariables false
set_option linter.unusedSimpArgs false
set_option maxRecDepth 100000
namespace Go.Proofs.Ytgkejafaggaocaa.LH
open Go Go.Eng Go.Proofs
open Go.Proofs.Ytgkejafaggaocaa.EX
noncomputable def gl : Nat → Option (List Cell) := glOf []
abbrev K4_0 : Kind := (.pair (.int .i64) (.pair (.int .i64) (.pair (.int .i64) (.int .i64))))
-- loop.example/g00051/laws.szElemS
noncomputable def i_laws_szElemS : Shape := ⟨[(0, .c (.sl (.pair (.int .i64) (.pair (.int .i64) (.pair (.int .i64) (.int .i64)))))), (1, .c (.int .i64))], []⟩
noncomputable def o_laws_szElemS : Shape := ⟨[(0, .c (.int .i64))], []⟩
noncomputable def laws_szElemS (a0 : List (Int × Int × Int × Int)) (a1 : Int) : Option (Int) :=
  bif decide (IntKind.i64.wrap (a1 - (↑a0.length : Int)) < 0) then some (-1) else some (IntKind.i64.wrap (a1 - (↑a0.length : Int)))
noncomputable def g_laws_szElemS : Sg := ⟨i_laws_szElemS, o_laws_szElemS, Int, fun y => ((y, ()), ()), fun x => laws_szElemS x.1.1 x.1.2.1⟩
noncomputable def C_laws_szElemS : Ctx := ⟨12, tiOf Try.prog, gl, sgOf [], []⟩
noncomputable def r_laws_szElemS : AExit → Env → Option (Int) := retK C_laws_szElemS 0 o_laws_szElemS (fun y => y.1.1) Try.f23.results.toList
theorem e_laws_szElemS : Sound Try.prog gl 23 g_laws_szElemS :=
  sound_plain (C := C_laws_szElemS) ⟨fun _ _ h => h, by kernel_rfl⟩ (sgOf_all' trivial) 23 Try.f23 g_laws_szElemS (fun y => y.1.1) (by kernel_rfl) (by kernel_rfl) (by kernel_rfl) (by kernel_rfl) (by kernel_rfl) (by kernel_rfl) (fun _ => rfl) (fun x => by kernel_rfl)
-- loop.example/g00051/laws.toElem
noncomputable def i_laws_toElem : Shape := ⟨[(0, .agg [.int .i64, .int .i64, .int .i64, .int .i64])], []⟩
noncomputable def o_laws_toElem : Shape := ⟨[(0, .agg [.int .i64, .int .i64, .int .i64, .int .i64])], []⟩
noncomputable def laws_toElem (a0 : Int) (a1 : Int) (a2 : Int) (a3 : Int) : Option (Int × Int × Int × Int) :=
  some (a0, a1, a2, a3)
noncomputable def g_laws_toElem : Sg := ⟨i_laws_toElem, o_laws_toElem, Int × Int × Int × Int, fun y => (((y.1, y.2.1, y.2.2.1, y.2.2.2, ()), ()), ()), fun x => laws_toElem x.1.1.1 x.1.1.2.1 x.1.1.2.2.1 x.1.1.2.2.2.1⟩
noncomputable def C_laws_toElem : Ctx := ⟨17, tiOf Try.prog, gl, sgOf [], []⟩
noncomputable def r_laws_toElem : AExit → Env → Option (Int × Int × Int × Int) := retK C_laws_toElem 0 o_laws_toElem (fun y => (y.1.1.1, y.1.1.2.1, y.1.1.2.2.1, y.1.1.2.2.2.1)) Try.f63.results.toList
theorem e_laws_toElem : Sound Try.prog gl 63 g_laws_toElem :=
  sound_plain (C := C_laws_toElem) ⟨fun _ _ h => h, by kernel_rfl⟩ (sgOf_all' trivial) 63 Try.f63 g_laws_toElem (fun y => (y.1.1.1, y.1.1.2.1, y.1.1.2.2.1, y.1.1.2.2.2.1)) (by kernel_rfl) (by kernel_rfl) (by kernel_rfl) (by kernel_rfl) (by kernel_rfl) (by kernel_rfl) (fun _ => rfl) (fun x => by kernel_rfl)
-- loop.example/g00051/laws.toElemS
noncomputable def i_laws_toElemS : Shape := ⟨[(0, .c (.sl (.pair (.int .i64) (.pair (.int .i64) (.pair (.int .i64) (.int .i64))))))], []⟩
noncomputable def o_laws_toElemS : Shape := ⟨[(0, .c (.ref 0))], [.lst 89 (.pair (.int .i64) (.pair (.int .i64) (.pair (.int .i64) (.int .i64))))]⟩
noncomputable def s_laws_toElemS_3 : Shape := ⟨[(0, .c (.sl (.pair (.int .i64) (.pair (.int .i64) (.pair (.int .i64) (.int .i64)))))), (3, .c (.ref 0)), (4, .c (.int .i64))], [.lst 89 (.pair (.int .i64) (.pair (.int .i64) (.pair (.int .i64) (.int .i64))))]⟩
noncomputable def laws_toElemS_L3 : Nat → (List (Int × Int × Int × Int)) → Int → (List (Int × Int × Int × Int)) → Option ((List (Int × Int × Int × Int)))
  | 0, _, _, _ => none
  | k + 1, a0, a1, a2 =>
  bif decide (a1 < (↑a0.length : Int)) then bif decide (0 ≤ a1) then bif decide (a1 < (↑a0.length : Int)) then (laws_toElem (rd K4_0 a0 a1).fst (rd K4_0 a0 a1).snd.fst (rd K4_0 a0 a1).snd.snd.fst (rd K4_0 a0 a1).snd.snd.snd).bind fun val => bif decide (0 ≤ a1) then bif decide (a1 < (↑a2.length : Int)) then (setW a2 a1 (val.fst, val.snd.fst, val.snd.snd.fst, val.snd.snd.snd)).bind fun val => laws_toElemS_L3 k a0 (IntKind.i64.wrap (a1 + 1)) val else none else none else none else none else some a2
noncomputable def j_laws_toElemS : List (Nat × (Nat → Cut ((List (Int × Int × Int × Int))))) := [(3, fun k => ⟨s_laws_toElemS_3, fun x => laws_toElemS_L3 k x.1.1 x.1.2.2.1 x.2.1⟩)]
noncomputable def laws_toElemS_F (k : Nat) (a0 : List (Int × Int × Int × Int)) : Option ((List (Int × Int × Int × Int))) :=
  bif decide ((↑a0.length : Int) ≤ (↑a0.length : Int)) then bif decide ((↑a0.length : Int).toNat ≤ maxBytes / 32) then laws_toElemS_L3 k a0 0 (List.replicate (↑a0.length : Int).toNat (0, 0, 0, 0)) else none else none
noncomputable def laws_toElemS (a0 : List (Int × Int × Int × Int)) : Option ((List (Int × Int × Int × Int))) := evF fun k => laws_toElemS_F k a0
noncomputable def g_laws_toElemS : Sg := ⟨i_laws_toElemS, o_laws_toElemS, (List (Int × Int × Int × Int)), fun y => (((), ()), (y, ())), fun x => laws_toElemS x.1.1⟩
noncomputable def C_laws_toElemS : Ctx := ⟨23, tiOf Try.prog, gl, sgOf [(63, g_laws_toElem)], []⟩
noncomputable def r_laws_toElemS : AExit → Env → Option ((List (Int × Int × Int × Int))) := retK C_laws_toElemS 0 o_laws_toElemS (fun y => y.2.1) Try.f25.results.toList
theorem e_laws_toElemS : Sound Try.prog gl 25 g_laws_toElemS :=
  sound_cuts (C := C_laws_toElemS) ⟨fun _ _ h => h, by kernel_rfl⟩ (sgOf_all' ⟨.inl ⟨by kernel_rfl, e_laws_toElem⟩, trivial⟩) 25 Try.f25 g_laws_toElemS (fun y => y.2.1) j_laws_toElemS 1 (by kernel_rfl) (by kernel_rfl) (by kernel_rfl) (by kernel_rfl) (by kernel_rfl) (by kernel_rfl) (fun _ => rfl) (by kernel_rfl) (by kernel_rfl)
    ⟨trivial, s_laws_toElemS_3, fun k x => laws_toElemS_L3 k x.1.1 x.1.2.2.1 x.2.1, ⟨fun k => by kernel_rfl, fun k y => by kernel_rfl, fun y => by kernel_rfl⟩⟩
    (fun k x => laws_toElemS_F k x.1.1) (fun x => rfl) (fun k x => by kernel_rfl)
-- loop.example/g00051/laws.toInt64S
noncomputable def i_laws_toInt64S : Shape := ⟨[(0, .c (.sl (.int .i64)))], []⟩
noncomputable def o_laws_toInt64S : Shape := ⟨[(0, .c (.ref 0))], [.lst 2 (.int .i64)]⟩
noncomputable def s_laws_toInt64S_3 : Shape := ⟨[(0, .c (.sl (.int .i64))), (3, .c (.ref 0)), (4, .c (.int .i64))], [.lst 2 (.int .i64)]⟩
noncomputable def laws_toInt64S_L3 : Nat → (List Int) → Int → (List Int) → Option ((List Int))
  | 0, _, _, _ => none
  | k + 1, a0, a1, a2 =>
  bif decide (a1 < (↑a0.length : Int)) then bif decide (0 ≤ a1) then bif decide (a1 < (↑a0.length : Int)) then bif decide (0 ≤ a1) then bif decide (a1 < (↑a2.length : Int)) then (setW a2 a1 (rd (Kind.int IntKind.i64) a0 a1)).bind fun val => laws_toInt64S_L3 k a0 (IntKind.i64.wrap (a1 + 1)) val else none else none else none else none else some a2
noncomputable def j_laws_toInt64S : List (Nat × (Nat → Cut ((List Int)))) := [(3, fun k => ⟨s_laws_toInt64S_3, fun x => laws_toInt64S_L3 k x.1.1 x.1.2.2.1 x.2.1⟩)]
noncomputable def laws_toInt64S_F (k : Nat) (a0 : List Int) : Option ((List Int)) :=
  bif decide ((↑a0.length : Int) ≤ (↑a0.length : Int)) then bif decide ((↑a0.length : Int).toNat ≤ maxBytes / 8) then laws_toInt64S_L3 k a0 0 (List.replicate (↑a0.length : Int).toNat 0) else none else none
noncomputable def laws_toInt64S (a0 : List Int) : Option ((List Int)) := evF fun k => laws_toInt64S_F k a0
noncomputable def g_laws_toInt64S : Sg := ⟨i_laws_toInt64S, o_laws_toInt64S, (List Int), fun y => (((), ()), (y, ())), fun x => laws_toInt64S x.1.1⟩
noncomputable def C_laws_toInt64S : Ctx := ⟨22, tiOf Try.prog, gl, sgOf [], []⟩
noncomputable def r_laws_toInt64S : AExit → Env → Option ((List Int)) := retK C_laws_toInt64S 0 o_laws_toInt64S (fun y => y.2.1) Try.f26.results.toList
theorem e_laws_toInt64S : Sound Try.prog gl 26 g_laws_toInt64S :=
  sound_cuts (C := C_laws_toInt64S) ⟨fun _ _ h => h, by kernel_rfl⟩ (sgOf_all' trivial) 26 Try.f26 g_laws_toInt64S (fun y => y.2.1) j_laws_toInt64S 1 (by kernel_rfl) (by kernel_rfl) (by kernel_rfl) (by kernel_rfl) (by kernel_rfl) (by kernel_rfl) (fun _ => rfl) (by kernel_rfl) (by kernel_rfl)
    ⟨trivial, s_laws_toInt64S_3, fun k x => laws_toInt64S_L3 k x.1.1 x.1.2.2.1 x.2.1, ⟨fun k => by kernel_rfl, fun k y => by kernel_rfl, fun y => by kernel_rfl⟩⟩
    (fun k x => laws_toInt64S_F k x.1.1) (fun x => rfl) (fun k x => by kernel_rfl)
-- loop.example/g00051/laws.toByteS
noncomputable def i_laws_toByteS : Shape := ⟨[(0, .c (.sl (.int .u8)))], []⟩
noncomputable def o_laws_toByteS : Shape := ⟨[(0, .c (.ref 0))], [.lst 5 (.int .u8)]⟩
noncomputable def s_laws_toByteS_3 : Shape := ⟨[(0, .c (.sl (.int .u8))), (3, .c (.ref 0)), (4, .c (.int .i64))], [.lst 5 (.int .u8)]⟩
noncomputable def laws_toByteS_L3 : Nat → (List Int) → Int → (List Int) → Option ((List Int))
  | 0, _, _, _ => none
  | k + 1, a0, a1, a2 =>
  bif decide (a1 < (↑a0.length : Int)) then bif decide (0 ≤ a1) then bif decide (a1 < (↑a0.length : Int)) then bif decide (0 ≤ a1) then bif decide (a1 < (↑a2.length : Int)) then (setW a2 a1 (rd (Kind.int IntKind.u8) a0 a1)).bind fun val => laws_toByteS_L3 k a0 (IntKind.i64.wrap (a1 + 1)) val else none else none else none else none else some a2
noncomputable def j_laws_toByteS : List (Nat × (Nat → Cut ((List Int)))) := [(3, fun k => ⟨s_laws_toByteS_3, fun x => laws_toByteS_L3 k x.1.1 x.1.2.2.1 x.2.1⟩)]
noncomputable def laws_toByteS_F (k : Nat) (a0 : List Int) : Option ((List Int)) :=
  bif decide ((↑a0.length : Int) ≤ (↑a0.length : Int)) then bif decide ((↑a0.length : Int).toNat ≤ maxBytes / 1) then laws_toByteS_L3 k a0 0 (List.replicate (↑a0.length : Int).toNat 0) else none else none
noncomputable def laws_toByteS (a0 : List Int) : Option ((List Int)) := evF fun k => laws_toByteS_F k a0
noncomputable def g_laws_toByteS : Sg := ⟨i_laws_toByteS, o_laws_toByteS, (List Int), fun y => (((), ()), (y, ())), fun x => laws_toByteS x.1.1⟩
noncomputable def C_laws_toByteS : Ctx := ⟨22, tiOf Try.prog, gl, sgOf [], []⟩
noncomputable def r_laws_toByteS : AExit → Env → Option ((List Int)) := retK C_laws_toByteS 0 o_laws_toByteS (fun y => y.2.1) Try.f27.results.toList
theorem e_laws_toByteS : Sound Try.prog gl 27 g_laws_toByteS :=
  sound_cuts (C := C_laws_toByteS) ⟨fun _ _ h => h, by kernel_rfl⟩ (sgOf_all' trivial) 27 Try.f27 g_laws_toByteS (fun y => y.2.1) j_laws_toByteS 1 (by kernel_rfl) (by kernel_rfl) (by kernel_rfl) (by kernel_rfl) (by kernel_rfl) (by kernel_rfl) (fun _ => rfl) (by kernel_rfl) (by kernel_rfl)
    ⟨trivial, s_laws_toByteS_3, fun k x => laws_toByteS_L3 k x.1.1 x.1.2.2.1 x.2.1, ⟨fun k => by kernel_rfl, fun k y => by kernel_rfl, fun y => by kernel_rfl⟩⟩
    (fun k x => laws_toByteS_F k x.1.1) (fun x => rfl) (fun k x => by kernel_rfl)
-- loop.example/g00051/laws.toFloat64S
noncomputable def i_laws_toFloat64S : Shape := ⟨[(0, .c (.sl .flt))], []⟩
noncomputable def o_laws_toFloat64S : Shape := ⟨[(0, .c (.ref 0))], [.lst 23 .flt]⟩
noncomputable def s_laws_toFloat64S_3 : Shape := ⟨[(0, .c (.sl .flt)), (3, .c (.ref 0)), (4, .c (.int .i64))], [.lst 23 .flt]⟩
noncomputable def laws_toFloat64S_L3 : Nat → (List Nat) → Int → (List Nat) → Option ((List Nat))
  | 0, _, _, _ => none
  | k + 1, a0, a1, a2 =>
  bif decide (a1 < (↑a0.length : Int)) then bif decide (0 ≤ a1) then bif decide (a1 < (↑a0.length : Int)) then bif decide (0 ≤ a1) then bif decide (a1 < (↑a2.length : Int)) then (setW a2 a1 (rd Kind.flt a0 a1)).bind fun val => laws_toFloat64S_L3 k a0 (IntKind.i64.wrap (a1 + 1)) val else none else none else none else none else some a2
noncomputable def j_laws_toFloat64S : List (Nat × (Nat → Cut ((List Nat)))) := [(3, fun k => ⟨s_laws_toFloat64S_3, fun x => laws_toFloat64S_L3 k x.1.1 x.1.2.2.1 x.2.1⟩)]
noncomputable def laws_toFloat64S_F (k : Nat) (a0 : List Nat) : Option ((List Nat)) :=
  bif decide ((↑a0.length : Int) ≤ (↑a0.length : Int)) then bif decide ((↑a0.length : Int).toNat ≤ maxBytes / 8) then laws_toFloat64S_L3 k a0 0 (List.replicate (↑a0.length : Int).toNat 0) else none else none
noncomputable def laws_toFloat64S (a0 : List Nat) : Option ((List Nat)) := evF fun k => laws_toFloat64S_F k a0
noncomputable def g_laws_toFloat64S : Sg := ⟨i_laws_toFloat64S, o_laws_toFloat64S, (List Nat), fun y => (((), ()), (y, ())), fun x => laws_toFloat64S x.1.1⟩
noncomputable def C_laws_toFloat64S : Ctx := ⟨22, tiOf Try.prog, gl, sgOf [], []⟩
noncomputable def r_laws_toFloat64S : AExit → Env → Option ((List Nat)) := retK C_laws_toFloat64S 0 o_laws_toFloat64S (fun y => y.2.1) Try.f37.results.toList
theorem e_laws_toFloat64S : Sound Try.prog gl 37 g_laws_toFloat64S :=
  sound_cuts (C := C_laws_toFloat64S) ⟨fun _ _ h => h, by kernel_rfl⟩ (sgOf_all' trivial) 37 Try.f37 g_laws_toFloat64S (fun y => y.2.1) j_laws_toFloat64S 1 (by kernel_rfl) (by kernel_rfl) (by kernel_rfl) (by kernel_rfl) (by kernel_rfl) (by kernel_rfl) (fun _ => rfl) (by kernel_rfl) (by kernel_rfl)
    ⟨trivial, s_laws_toFloat64S_3, fun k x => laws_toFloat64S_L3 k x.1.1 x.1.2.2.1 x.2.1, ⟨fun k => by kernel_rfl, fun k y => by kernel_rfl, fun y => by kernel_rfl⟩⟩
    (fun k x => laws_toFloat64S_F k x.1.1) (fun x => rfl) (fun k x => by kernel_rfl)
-- loop.example/g00051/laws.sameFloat
noncomputable def i_laws_sameFloat : Shape := ⟨[(0, .c (.flt)), (1, .c (.flt))], []⟩
noncomputable def o_laws_sameFloat : Shape := ⟨[(0, .c (.bool))], []⟩
noncomputable def laws_sameFloat (a0 : Nat) (a1 : Nat) : Option (Bool) :=
  bif !feq a0 a0 then bif !feq a0 a0 then some !feq a1 a1 else some false else bif !feq a1 a1 then bif !feq a0 a0 then some !feq a1 a1 else some false else bif feq a0 0 then bif feq a1 0 then some (fgt (fdiv 4607182418800017408 a0) 0 == fgt (fdiv 4607182418800017408 a1) 0) else some (feq a0 a1) else some (feq a0 a1)
noncomputable def g_laws_sameFloat : Sg := ⟨i_laws_sameFloat, o_laws_sameFloat, Bool, fun y => ((y, ()), ()), fun x => laws_sameFloat x.1.1 x.1.2.1⟩
noncomputable def C_laws_sameFloat : Ctx := ⟨37, tiOf Try.prog, gl, sgOf [], []⟩
noncomputable def r_laws_sameFloat : AExit → Env → Option (Bool) := retK C_laws_sameFloat 0 o_laws_sameFloat (fun y => y.1.1) Try.f71.results.toList
theorem e_laws_sameFloat : Sound Try.prog gl 71 g_laws_sameFloat :=
  sound_plain (C := C_laws_sameFloat) ⟨fun _ _ h => h, by kernel_rfl⟩ (sgOf_all' trivial) 71 Try.f71 g_laws_sameFloat (fun y => y.1.1) (by kernel_rfl) (by kernel_rfl) (by kernel_rfl) (by kernel_rfl) (by kernel_rfl) (by kernel_rfl) (fun _ => rfl) (fun x => by kernel_rfl)
-- loop.example/g00051/laws.eqFloat64S
noncomputable def i_laws_eqFloat64S : Shape := ⟨[(0, .c (.sl .flt)), (1, .c (.sl .flt))], []⟩
noncomputable def o_laws_eqFloat64S : Shape := ⟨[(0, .c (.bool))], []⟩
noncomputable def s_laws_eqFloat64S_4 : Shape := ⟨[(0, .c (.sl .flt)), (1, .c (.sl .flt)), (5, .c (.int .i64))], []⟩
noncomputable def laws_eqFloat64S_L4 : Nat → (List Nat) → (List Nat) → Int → Option (Bool)
  | 0, _, _, _ => none
  | k + 1, a0, a1, a2 =>
  bif decide (a2 < (↑a0.length : Int)) then bif decide (0 ≤ a2) then bif decide (a2 < (↑a0.length : Int)) then bif decide (0 ≤ a2) then bif decide (a2 < (↑a1.length : Int)) then (laws_sameFloat (rd Kind.flt a0 a2) (rd Kind.flt a1 a2)).bind fun val => bif !val then some false else laws_eqFloat64S_L4 k a0 a1 (IntKind.i64.wrap (a2 + 1)) else none else none else none else none else some true
noncomputable def j_laws_eqFloat64S : List (Nat × (Nat → Cut (Bool))) := [(4, fun k => ⟨s_laws_eqFloat64S_4, fun x => laws_eqFloat64S_L4 k x.1.1 x.1.2.1 x.1.2.2.1⟩)]
noncomputable def laws_eqFloat64S_F (k : Nat) (a0 : List Nat) (a1 : List Nat) : Option (Bool) :=
  bif (↑a0.length : Int) != (↑a1.length : Int) then some false else laws_eqFloat64S_L4 k a0 a1 0
noncomputable def laws_eqFloat64S (a0 : List Nat) (a1 : List Nat) : Option (Bool) := evF fun k => laws_eqFloat64S_F k a0 a1
noncomputable def g_laws_eqFloat64S : Sg := ⟨i_laws_eqFloat64S, o_laws_eqFloat64S, Bool, fun y => ((y, ()), ()), fun x => laws_eqFloat64S x.1.1 x.1.2.1⟩
noncomputable def C_laws_eqFloat64S : Ctx := ⟨27, tiOf Try.prog, gl, sgOf [(71, g_laws_sameFloat)], []⟩
noncomputable def r_laws_eqFloat64S : AExit → Env → Option (Bool) := retK C_laws_eqFloat64S 0 o_laws_eqFloat64S (fun y => y.1.1) Try.f29.results.toList
theorem e_laws_eqFloat64S : Sound Try.prog gl 29 g_laws_eqFloat64S :=
  sound_cuts (C := C_laws_eqFloat64S) ⟨fun _ _ h => h, by kernel_rfl⟩ (sgOf_all' ⟨.inl ⟨by kernel_rfl, e_laws_sameFloat⟩, trivial⟩) 29 Try.f29 g_laws_eqFloat64S (fun y => y.1.1) j_laws_eqFloat64S 1 (by kernel_rfl) (by kernel_rfl) (by kernel_rfl) (by kernel_rfl) (by kernel_rfl) (by kernel_rfl) (fun _ => rfl) (by kernel_rfl) (by kernel_rfl)
    ⟨trivial, s_laws_eqFloat64S_4, fun k x => laws_eqFloat64S_L4 k x.1.1 x.1.2.1 x.1.2.2.1, ⟨fun k => by kernel_rfl, fun k y => by kernel_rfl, fun y => by kernel_rfl⟩⟩
    (fun k x => laws_eqFloat64S_F k x.1.1 x.1.2.1) (fun x => rfl) (fun k x => by kernel_rfl)
-- loop.example/g00051/laws.eqElem
noncomputable def i_laws_eqElem : Shape := ⟨[(0, .agg [.int .i64, .int .i64, .int .i64, .int .i64]), (1, .agg [.int .i64, .int .i64, .int .i64, .int .i64])], []⟩
noncomputable def o_laws_eqElem : Shape := ⟨[(0, .c (.bool))], []⟩
noncomputable def laws_eqElem (a0 : Int) (a1 : Int) (a2 : Int) (a3 : Int) (a4 : Int) (a5 : Int) (a6 : Int) (a7 : Int) : Option (Bool) :=
  bif a0 != a4 then some false else bif a1 != a5 then some false else bif a2 != a6 then some false else bif a3 != a7 then some false else some true
noncomputable def g_laws_eqElem : Sg := ⟨i_laws_eqElem, o_laws_eqElem, Bool, fun y => ((y, ()), ()), fun x => laws_eqElem x.1.1.1 x.1.1.2.1 x.1.1.2.2.1 x.1.1.2.2.2.1 x.1.2.1.1 x.1.2.1.2.1 x.1.2.1.2.2.1 x.1.2.1.2.2.2.1⟩
noncomputable def C_laws_eqElem : Ctx := ⟨25, tiOf Try.prog, gl, sgOf [], []⟩
noncomputable def r_laws_eqElem : AExit → Env → Option (Bool) := retK C_laws_eqElem 0 o_laws_eqElem (fun y => y.1.1) Try.f72.results.toList
theorem e_laws_eqElem : Sound Try.prog gl 72 g_laws_eqElem :=
  sound_plain (C := C_laws_eqElem) ⟨fun _ _ h => h, by kernel_rfl⟩ (sgOf_all' trivial) 72 Try.f72 g_laws_eqElem (fun y => y.1.1) (by kernel_rfl) (by kernel_rfl) (by kernel_rfl) (by kernel_rfl) (by kernel_rfl) (by kernel_rfl) (fun _ => rfl) (fun x => by kernel_rfl)
-- loop.example/g00051/laws.eqElemS
noncomputable def i_laws_eqElemS : Shape := ⟨[(0, .c (.sl (.pair (.int .i64) (.pair (.int .i64) (.pair (.int .i64) (.int .i64)))))), (1, .c (.sl (.pair (.int .i64) (.pair (.int .i64) (.pair (.int .i64) (.int .i64))))))], []⟩
noncomputable def o_laws_eqElemS : Shape := ⟨[(0, .c (.bool))], []⟩
noncomputable def s_laws_eqElemS_4 : Shape := ⟨[(0, .c (.sl (.pair (.int .i64) (.pair (.int .i64) (.pair (.int .i64) (.int .i64)))))), (1, .c (.sl (.pair (.int .i64) (.pair (.int .i64) (.pair (.int .i64) (.int .i64)))))), (5, .c (.int .i64))], []⟩
noncomputable def laws_eqElemS_L4 : Nat → (List (Int × Int × Int × Int)) → (List (Int × Int × Int × Int)) → Int → Option (Bool)
  | 0, _, _, _ => none
  | k + 1, a0, a1, a2 =>
  bif decide (a2 < (↑a0.length : Int)) then bif decide (0 ≤ a2) then bif decide (a2 < (↑a0.length : Int)) then bif decide (0 ≤ a2) then bif decide (a2 < (↑a1.length : Int)) then (laws_eqElem (rd K4_0 a0 a2).fst (rd K4_0 a0 a2).snd.fst (rd K4_0 a0 a2).snd.snd.fst (rd K4_0 a0 a2).snd.snd.snd (rd K4_0 a1 a2).fst (rd K4_0 a1 a2).snd.fst (rd K4_0 a1 a2).snd.snd.fst (rd K4_0 a1 a2).snd.snd.snd).bind fun val => bif !val then some false else laws_eqElemS_L4 k a0 a1 (IntKind.i64.wrap (a2 + 1)) else none else none else none else none else some true
noncomputable def j_laws_eqElemS : List (Nat × (Nat → Cut (Bool))) := [(4, fun k => ⟨s_laws_eqElemS_4, fun x => laws_eqElemS_L4 k x.1.1 x.1.2.1 x.1.2.2.1⟩)]
noncomputable def laws_eqElemS_F (k : Nat) (a0 : List (Int × Int × Int × Int)) (a1 : List (Int × Int × Int × Int)) : Option (Bool) :=
  bif (↑a0.length : Int) != (↑a1.length : Int) then some false else laws_eqElemS_L4 k a0 a1 0
noncomputable def laws_eqElemS (a0 : List (Int × Int × Int × Int)) (a1 : List (Int × Int × Int × Int)) : Option (Bool) := evF fun k => laws_eqElemS_F k a0 a1
noncomputable def g_laws_eqElemS : Sg := ⟨i_laws_eqElemS, o_laws_eqElemS, Bool, fun y => ((y, ()), ()), fun x => laws_eqElemS x.1.1 x.1.2.1⟩
noncomputable def C_laws_eqElemS : Ctx := ⟨27, tiOf Try.prog, gl, sgOf [(72, g_laws_eqElem)], []⟩
noncomputable def r_laws_eqElemS : AExit → Env → Option (Bool) := retK C_laws_eqElemS 0 o_laws_eqElemS (fun y => y.1.1) Try.f30.results.toList
theorem e_laws_eqElemS : Sound Try.prog gl 30 g_laws_eqElemS :=
  sound_cuts (C := C_laws_eqElemS) ⟨fun _ _ h => h, by kernel_rfl⟩ (sgOf_all' ⟨.inl ⟨by kernel_rfl, e_laws_eqElem⟩, trivial⟩) 30 Try.f30 g_laws_eqElemS (fun y => y.1.1) j_laws_eqElemS 1 (by kernel_rfl) (by kernel_rfl) (by kernel_rfl) (by kernel_rfl) (by kernel_rfl) (by kernel_rfl) (fun _ => rfl) (by kernel_rfl) (by kernel_rfl)
    ⟨trivial, s_laws_eqElemS_4, fun k x => laws_eqElemS_L4 k x.1.1 x.1.2.1 x.1.2.2.1, ⟨fun k => by kernel_rfl, fun k y => by kernel_rfl, fun y => by kernel_rfl⟩⟩
    (fun k x => laws_eqElemS_F k x.1.1 x.1.2.1) (fun x => rfl) (fun k x => by kernel_rfl)
-- loop.example/g00051/laws.eqInt64S
noncomputable def i_laws_eqInt64S : Shape := ⟨[(0, .c (.sl (.int .i64))), (1, .c (.sl (.int .i64)))], []⟩
noncomputable def o_laws_eqInt64S : Shape := ⟨[(0, .c (.bool))], []⟩
noncomputable def s_laws_eqInt64S_4 : Shape := ⟨[(0, .c (.sl (.int .i64))), (1, .c (.sl (.int .i64))), (5, .c (.int .i64))], []⟩
noncomputable def laws_eqInt64S_L4 : Nat → (List Int) → (List Int) → Int → Option (Bool)
  | 0, _, _, _ => none
  | k + 1, a0, a1, a2 =>
  bif decide (a2 < (↑a0.length : Int)) then bif decide (0 ≤ a2) then bif decide (a2 < (↑a0.length : Int)) then bif decide (0 ≤ a2) then bif decide (a2 < (↑a1.length : Int)) then bif rd (Kind.int IntKind.i64) a0 a2 != rd (Kind.int IntKind.i64) a1 a2 then some false else laws_eqInt64S_L4 k a0 a1 (IntKind.i64.wrap (a2 + 1)) else none else none else none else none else some true
noncomputable def j_laws_eqInt64S : List (Nat × (Nat → Cut (Bool))) := [(4, fun k => ⟨s_laws_eqInt64S_4, fun x => laws_eqInt64S_L4 k x.1.1 x.1.2.1 x.1.2.2.1⟩)]
noncomputable def laws_eqInt64S_F (k : Nat) (a0 : List Int) (a1 : List Int) : Option (Bool) :=
  bif (↑a0.length : Int) != (↑a1.length : Int) then some false else laws_eqInt64S_L4 k a0 a1 0
noncomputable def laws_eqInt64S (a0 : List Int) (a1 : List Int) : Option (Bool) := evF fun k => laws_eqInt64S_F k a0 a1
noncomputable def g_laws_eqInt64S : Sg := ⟨i_laws_eqInt64S, o_laws_eqInt64S, Bool, fun y => ((y, ()), ()), fun x => laws_eqInt64S x.1.1 x.1.2.1⟩
noncomputable def C_laws_eqInt64S : Ctx := ⟨26, tiOf Try.prog, gl, sgOf [], []⟩
noncomputable def r_laws_eqInt64S : AExit → Env → Option (Bool) := retK C_laws_eqInt64S 0 o_laws_eqInt64S (fun y => y.1.1) Try.f14.results.toList
theorem e_laws_eqInt64S : Sound Try.prog gl 14 g_laws_eqInt64S :=
  sound_cuts (C := C_laws_eqInt64S) ⟨fun _ _ h => h, by kernel_rfl⟩ (sgOf_all' trivial) 14 Try.f14 g_laws_eqInt64S (fun y => y.1.1) j_laws_eqInt64S 1 (by kernel_rfl) (by kernel_rfl) (by kernel_rfl) (by kernel_rfl) (by kernel_rfl) (by kernel_rfl) (fun _ => rfl) (by kernel_rfl) (by kernel_rfl)
    ⟨trivial, s_laws_eqInt64S_4, fun k x => laws_eqInt64S_L4 k x.1.1 x.1.2.1 x.1.2.2.1, ⟨fun k => by kernel_rfl, fun k y => by kernel_rfl, fun y => by kernel_rfl⟩⟩
    (fun k x => laws_eqInt64S_F k x.1.1 x.1.2.1) (fun x => rfl) (fun k x => by kernel_rfl)
-- loop.example/g00051/laws.eqByteS
noncomputable def i_laws_eqByteS : Shape := ⟨[(0, .c (.sl (.int .u8))), (1, .c (.sl (.int .u8)))], []⟩
noncomputable def o_laws_eqByteS : Shape := ⟨[(0, .c (.bool))], []⟩
noncomputable def s_laws_eqByteS_4 : Shape := ⟨[(0, .c (.sl (.int .u8))), (1, .c (.sl (.int .u8))), (5, .c (.int .i64))], []⟩
noncomputable def laws_eqByteS_L4 : Nat → (List Int) → (List Int) → Int → Option (Bool)
  | 0, _, _, _ => none
  | k + 1, a0, a1, a2 =>
  bif decide (a2 < (↑a0.length : Int)) then bif decide (0 ≤ a2) then bif decide (a2 < (↑a0.length : Int)) then bif decide (0 ≤ a2) then bif decide (a2 < (↑a1.length : Int)) then bif rd (Kind.int IntKind.u8) a0 a2 != rd (Kind.int IntKind.u8) a1 a2 then some false else laws_eqByteS_L4 k a0 a1 (IntKind.i64.wrap (a2 + 1)) else none else none else none else none else some true
noncomputable def j_laws_eqByteS : List (Nat × (Nat → Cut (Bool))) := [(4, fun k => ⟨s_laws_eqByteS_4, fun x => laws_eqByteS_L4 k x.1.1 x.1.2.1 x.1.2.2.1⟩)]
noncomputable def laws_eqByteS_F (k : Nat) (a0 : List Int) (a1 : List Int) : Option (Bool) :=
  bif (↑a0.length : Int) != (↑a1.length : Int) then some false else laws_eqByteS_L4 k a0 a1 0
noncomputable def laws_eqByteS (a0 : List Int) (a1 : List Int) : Option (Bool) := evF fun k => laws_eqByteS_F k a0 a1
noncomputable def g_laws_eqByteS : Sg := ⟨i_laws_eqByteS, o_laws_eqByteS, Bool, fun y => ((y, ()), ()), fun x => laws_eqByteS x.1.1 x.1.2.1⟩
noncomputable def C_laws_eqByteS : Ctx := ⟨26, tiOf Try.prog, gl, sgOf [], []⟩
noncomputable def r_laws_eqByteS : AExit → Env → Option (Bool) := retK C_laws_eqByteS 0 o_laws_eqByteS (fun y => y.1.1) Try.f31.results.toList
theorem e_laws_eqByteS : Sound Try.prog gl 31 g_laws_eqByteS :=
  sound_cuts (C := C_laws_eqByteS) ⟨fun _ _ h => h, by kernel_rfl⟩ (sgOf_all' trivial) 31 Try.f31 g_laws_eqByteS (fun y => y.1.1) j_laws_eqByteS 1 (by kernel_rfl) (by kernel_rfl) (by kernel_rfl) (by kernel_rfl) (by kernel_rfl) (by kernel_rfl) (fun _ => rfl) (by kernel_rfl) (by kernel_rfl)
    ⟨trivial, s_laws_eqByteS_4, fun k x => laws_eqByteS_L4 k x.1.1 x.1.2.1 x.1.2.2.1, ⟨fun k => by kernel_rfl, fun k y => by kernel_rfl, fun y => by kernel_rfl⟩⟩
    (fun k x => laws_eqByteS_F k x.1.1 x.1.2.1) (fun x => rfl) (fun k x => by kernel_rfl)
-- loop.example/g00051/laws.markElemS
noncomputable def i_laws_markElemS : Shape := ⟨[(0, .c (.ref 0)), (1, .c (.int .i64))], [.lst 89 (.pair (.int .i64) (.pair (.int .i64) (.pair (.int .i64) (.int .i64))))]⟩
noncomputable def o_laws_markElemS : Shape := ⟨[(0, .c (.int .i64))], [.lst 89 (.pair (.int .i64) (.pair (.int .i64) (.pair (.int .i64) (.int .i64))))]⟩
noncomputable def s_laws_markElemS_2 : Shape := ⟨[(0, .c (.ref 0)), (1, .c (.int .i64)), (5, .c (.int .i64))], [.lst 89 (.pair (.int .i64) (.pair (.int .i64) (.pair (.int .i64) (.int .i64))))]⟩
noncomputable def laws_markElemS_L2 : Nat → Int → Int → (List (Int × Int × Int × Int)) → Option (Int × (List (Int × Int × Int × Int)))
  | 0, _, _, _ => none
  | k + 1, a0, a1, a2 =>
  bif decide (a1 < (↑a2.length : Int)) then bif decide (0 ≤ a1) then bif decide (a1 < (↑a2.length : Int)) then (setO K4_0 0 [Cell.int IntKind.i64 a0] a2 a1).bind fun val => bif decide (0 ≤ a1) then bif decide (a1 < (↑val.length : Int)) then (setO K4_0 1 [Cell.int IntKind.i64 (IntKind.i64.wrap (a0 + 1))] val a1).bind fun val => bif decide (0 ≤ a1) then bif decide (a1 < (↑val.length : Int)) then (setO K4_0 2 [Cell.int IntKind.i64 (IntKind.i64.wrap (IntKind.i64.wrap (a0 + 1) + 1))] val a1).bind fun val => bif decide (0 ≤ a1) then bif decide (a1 < (↑val.length : Int)) then (setO K4_0 3 [Cell.int IntKind.i64 (IntKind.i64.wrap (IntKind.i64.wrap (IntKind.i64.wrap (a0 + 1) + 1) + 1))] val a1).bind fun val => laws_markElemS_L2 k (IntKind.i64.wrap (IntKind.i64.wrap (IntKind.i64.wrap (IntKind.i64.wrap (a0 + 1) + 1) + 1) + 1)) (IntKind.i64.wrap (a1 + 1)) val else none else none else none else none else none else none else none else none else some (a0, a2)
noncomputable def j_laws_markElemS : List (Nat × (Nat → Cut (Int × (List (Int × Int × Int × Int))))) := [(2, fun k => ⟨s_laws_markElemS_2, fun x => laws_markElemS_L2 k x.1.2.1 x.1.2.2.1 x.2.1⟩)]
noncomputable def laws_markElemS_F (k : Nat) (a0 : Int) (a1 : List (Int × Int × Int × Int)) : Option (Int × (List (Int × Int × Int × Int))) :=
  laws_markElemS_L2 k a0 0 a1
noncomputable def laws_markElemS (a0 : Int) (a1 : List (Int × Int × Int × Int)) : Option (Int × (List (Int × Int × Int × Int))) := evF fun k => laws_markElemS_F k a0 a1
noncomputable def g_laws_markElemS : Sg := ⟨i_laws_markElemS, o_laws_markElemS, Int × (List (Int × Int × Int × Int)), fun y => ((y.1, ()), (y.2, ())), fun x => laws_markElemS x.1.2.1 x.2.1⟩
noncomputable def C_laws_markElemS : Ctx := ⟨41, tiOf Try.prog, gl, sgOf [], []⟩
noncomputable def r_laws_markElemS : AExit → Env → Option (Int × (List (Int × Int × Int × Int))) := retK C_laws_markElemS 1 o_laws_markElemS (fun y => (y.1.1, y.2.1)) Try.f32.results.toList
theorem e_laws_markElemS : Sound Try.prog gl 32 g_laws_markElemS :=
  sound_cuts (C := C_laws_markElemS) ⟨fun _ _ h => h, by kernel_rfl⟩ (sgOf_all' trivial) 32 Try.f32 g_laws_markElemS (fun y => (y.1.1, y.2.1)) j_laws_markElemS 1 (by kernel_rfl) (by kernel_rfl) (by kernel_rfl) (by kernel_rfl) (by kernel_rfl) (by kernel_rfl) (fun _ => rfl) (by kernel_rfl) (by kernel_rfl)
    ⟨trivial, s_laws_markElemS_2, fun k x => laws_markElemS_L2 k x.1.2.1 x.1.2.2.1 x.2.1, ⟨fun k => by kernel_rfl, fun k y => by kernel_rfl, fun y => by kernel_rfl⟩⟩
    (fun k x => laws_markElemS_F k x.1.2.1 x.2.1) (fun x => rfl) (fun k x => by kernel_rfl)
-- loop.example/g00051/laws.markInt64S
noncomputable def i_laws_markInt64S : Shape := ⟨[(0, .c (.ref 0)), (1, .c (.int .i64))], [.lst 2 (.int .i64)]⟩
noncomputable def o_laws_markInt64S : Shape := ⟨[(0, .c (.int .i64))], [.lst 2 (.int .i64)]⟩
noncomputable def s_laws_markInt64S_2 : Shape := ⟨[(0, .c (.ref 0)), (1, .c (.int .i64)), (5, .c (.int .i64))], [.lst 2 (.int .i64)]⟩
noncomputable def laws_markInt64S_L2 : Nat → Int → Int → (List Int) → Option (Int × (List Int))
  | 0, _, _, _ => none
  | k + 1, a0, a1, a2 =>
  bif decide (a1 < (↑a2.length : Int)) then bif decide (0 ≤ a1) then bif decide (a1 < (↑a2.length : Int)) then (setW a2 a1 a0).bind fun val => laws_markInt64S_L2 k (IntKind.i64.wrap (a0 + 1)) (IntKind.i64.wrap (a1 + 1)) val else none else none else some (a0, a2)
noncomputable def j_laws_markInt64S : List (Nat × (Nat → Cut (Int × (List Int)))) := [(2, fun k => ⟨s_laws_markInt64S_2, fun x => laws_markInt64S_L2 k x.1.2.1 x.1.2.2.1 x.2.1⟩)]
noncomputable def laws_markInt64S_F (k : Nat) (a0 : Int) (a1 : List Int) : Option (Int × (List Int)) :=
  laws_markInt64S_L2 k a0 0 a1
noncomputable def laws_markInt64S (a0 : Int) (a1 : List Int) : Option (Int × (List Int)) := evF fun k => laws_markInt64S_F k a0 a1
noncomputable def g_laws_markInt64S : Sg := ⟨i_laws_markInt64S, o_laws_markInt64S, Int × (List Int), fun y => ((y.1, ()), (y.2, ())), fun x => laws_markInt64S x.1.2.1 x.2.1⟩
noncomputable def C_laws_markInt64S : Ctx := ⟨19, tiOf Try.prog, gl, sgOf [], []⟩
noncomputable def r_laws_markInt64S : AExit → Env → Option (Int × (List Int)) := retK C_laws_markInt64S 1 o_laws_markInt64S (fun y => (y.1.1, y.2.1)) Try.f17.results.toList
theorem e_laws_markInt64S : Sound Try.prog gl 17 g_laws_markInt64S :=
  sound_cuts (C := C_laws_markInt64S) ⟨fun _ _ h => h, by kernel_rfl⟩ (sgOf_all' trivial) 17 Try.f17 g_laws_markInt64S (fun y => (y.1.1, y.2.1)) j_laws_markInt64S 1 (by kernel_rfl) (by kernel_rfl) (by kernel_rfl) (by kernel_rfl) (by kernel_rfl) (by kernel_rfl) (fun _ => rfl) (by kernel_rfl) (by kernel_rfl)
    ⟨trivial, s_laws_markInt64S_2, fun k x => laws_markInt64S_L2 k x.1.2.1 x.1.2.2.1 x.2.1, ⟨fun k => by kernel_rfl, fun k y => by kernel_rfl, fun y => by kernel_rfl⟩⟩
    (fun k x => laws_markInt64S_F k x.1.2.1 x.2.1) (fun x => rfl) (fun k x => by kernel_rfl)
-- loop.example/g00051/laws.markByteS
noncomputable def i_laws_markByteS : Shape := ⟨[(0, .c (.ref 0)), (1, .c (.int .i64))], [.lst 5 (.int .u8)]⟩
noncomputable def o_laws_markByteS : Shape := ⟨[(0, .c (.int .i64))], [.lst 5 (.int .u8)]⟩
noncomputable def s_laws_markByteS_2 : Shape := ⟨[(0, .c (.ref 0)), (1, .c (.int .i64)), (5, .c (.int .i64))], [.lst 5 (.int .u8)]⟩
noncomputable def laws_markByteS_L2 : Nat → Int → Int → (List Int) → Option (Int × (List Int))
  | 0, _, _, _ => none
  | k + 1, a0, a1, a2 =>
  bif decide (a1 < (↑a2.length : Int)) then bif decide (0 ≤ a1) then bif decide (a1 < (↑a2.length : Int)) then (setW a2 a1 (IntKind.u8.wrap a0)).bind fun val => laws_markByteS_L2 k (IntKind.i64.wrap (a0 + 1)) (IntKind.i64.wrap (a1 + 1)) val else none else none else some (a0, a2)
noncomputable def j_laws_markByteS : List (Nat × (Nat → Cut (Int × (List Int)))) := [(2, fun k => ⟨s_laws_markByteS_2, fun x => laws_markByteS_L2 k x.1.2.1 x.1.2.2.1 x.2.1⟩)]
noncomputable def laws_markByteS_F (k : Nat) (a0 : Int) (a1 : List Int) : Option (Int × (List Int)) :=
  laws_markByteS_L2 k a0 0 a1
noncomputable def laws_markByteS (a0 : Int) (a1 : List Int) : Option (Int × (List Int)) := evF fun k => laws_markByteS_F k a0 a1
noncomputable def g_laws_markByteS : Sg := ⟨i_laws_markByteS, o_laws_markByteS, Int × (List Int), fun y => ((y.1, ()), (y.2, ())), fun x => laws_markByteS x.1.2.1 x.2.1⟩
noncomputable def C_laws_markByteS : Ctx := ⟨20, tiOf Try.prog, gl, sgOf [], []⟩
noncomputable def r_laws_markByteS : AExit → Env → Option (Int × (List Int)) := retK C_laws_markByteS 1 o_laws_markByteS (fun y => (y.1.1, y.2.1)) Try.f33.results.toList
theorem e_laws_markByteS : Sound Try.prog gl 33 g_laws_markByteS :=
  sound_cuts (C := C_laws_markByteS) ⟨fun _ _ h => h, by kernel_rfl⟩ (sgOf_all' trivial) 33 Try.f33 g_laws_markByteS (fun y => (y.1.1, y.2.1)) j_laws_markByteS 1 (by kernel_rfl) (by kernel_rfl) (by kernel_rfl) (by kernel_rfl) (by kernel_rfl) (by kernel_rfl) (fun _ => rfl) (by kernel_rfl) (by kernel_rfl)
    ⟨trivial, s_laws_markByteS_2, fun k x => laws_markByteS_L2 k x.1.2.1 x.1.2.2.1 x.2.1, ⟨fun k => by kernel_rfl, fun k y => by kernel_rfl, fun y => by kernel_rfl⟩⟩
    (fun k x => laws_markByteS_F k x.1.2.1 x.2.1) (fun x => rfl) (fun k x => by kernel_rfl)
-- loop.example/g00051/laws.markFloat64S
noncomputable def i_laws_markFloat64S : Shape := ⟨[(0, .c (.ref 0)), (1, .c (.int .i64))], [.lst 23 .flt]⟩
noncomputable def o_laws_markFloat64S : Shape := ⟨[(0, .c (.int .i64))], [.lst 23 .flt]⟩
noncomputable def s_laws_markFloat64S_2 : Shape := ⟨[(0, .c (.ref 0)), (1, .c (.int .i64)), (5, .c (.int .i64))], [.lst 23 .flt]⟩
noncomputable def laws_markFloat64S_L2 : Nat → Int → Int → (List Nat) → Option (Int × (List Nat))
  | 0, _, _, _ => none
  | k + 1, a0, a1, a2 =>
  bif decide (a1 < (↑a2.length : Int)) then bif decide (0 ≤ a1) then bif decide (a1 < (↑a2.length : Int)) then (setW a2 a1 (fofi a0)).bind fun val => laws_markFloat64S_L2 k (IntKind.i64.wrap (a0 + 1)) (IntKind.i64.wrap (a1 + 1)) val else none else none else some (a0, a2)
noncomputable def j_laws_markFloat64S : List (Nat × (Nat → Cut (Int × (List Nat)))) := [(2, fun k => ⟨s_laws_markFloat64S_2, fun x => laws_markFloat64S_L2 k x.1.2.1 x.1.2.2.1 x.2.1⟩)]
noncomputable def laws_markFloat64S_F (k : Nat) (a0 : Int) (a1 : List Nat) : Option (Int × (List Nat)) :=
  laws_markFloat64S_L2 k a0 0 a1
noncomputable def laws_markFloat64S (a0 : Int) (a1 : List Nat) : Option (Int × (List Nat)) := evF fun k => laws_markFloat64S_F k a0 a1
noncomputable def g_laws_markFloat64S : Sg := ⟨i_laws_markFloat64S, o_laws_markFloat64S, Int × (List Nat), fun y => ((y.1, ()), (y.2, ())), fun x => laws_markFloat64S x.1.2.1 x.2.1⟩
noncomputable def C_laws_markFloat64S : Ctx := ⟨20, tiOf Try.prog, gl, sgOf [], []⟩
noncomputable def r_laws_markFloat64S : AExit → Env → Option (Int × (List Nat)) := retK C_laws_markFloat64S 1 o_laws_markFloat64S (fun y => (y.1.1, y.2.1)) Try.f34.results.toList
theorem e_laws_markFloat64S : Sound Try.prog gl 34 g_laws_markFloat64S :=
  sound_cuts (C := C_laws_markFloat64S) ⟨fun _ _ h => h, by kernel_rfl⟩ (sgOf_all' trivial) 34 Try.f34 g_laws_markFloat64S (fun y => (y.1.1, y.2.1)) j_laws_markFloat64S 1 (by kernel_rfl) (by kernel_rfl) (by kernel_rfl) (by kernel_rfl) (by kernel_rfl) (by kernel_rfl) (fun _ => rfl) (by kernel_rfl) (by kernel_rfl)
    ⟨trivial, s_laws_markFloat64S_2, fun k x => laws_markFloat64S_L2 k x.1.2.1 x.1.2.2.1 x.2.1, ⟨fun k => by kernel_rfl, fun k y => by kernel_rfl, fun y => by kernel_rfl⟩⟩
    (fun k x => laws_markFloat64S_F k x.1.2.1 x.2.1) (fun x => rfl) (fun k x => by kernel_rfl)
-- loop.example/g00051/laws.heldFloat64S
noncomputable def i_laws_heldFloat64S : Shape := ⟨[(0, .c (.sl .flt)), (1, .c (.int .i64))], []⟩
noncomputable def o_laws_heldFloat64S : Shape := ⟨[(0, .c (.int .i64))], []⟩
noncomputable def s_laws_heldFloat64S_2 : Shape := ⟨[(0, .c (.sl .flt)), (1, .c (.int .i64)), (5, .c (.int .i64))], []⟩
noncomputable def laws_heldFloat64S_L2 : Nat → (List Nat) → Int → Int → Option (Int)
  | 0, _, _, _ => none
  | k + 1, a0, a1, a2 =>
  bif decide (a2 < (↑a0.length : Int)) then bif decide (0 ≤ a2) then bif decide (a2 < (↑a0.length : Int)) then bif !feq (rd Kind.flt a0 a2) (fofi a1) then some (-1) else laws_heldFloat64S_L2 k a0 (IntKind.i64.wrap (a1 + 1)) (IntKind.i64.wrap (a2 + 1)) else none else none else some a1
noncomputable def j_laws_heldFloat64S : List (Nat × (Nat → Cut (Int))) := [(2, fun k => ⟨s_laws_heldFloat64S_2, fun x => laws_heldFloat64S_L2 k x.1.1 x.1.2.1 x.1.2.2.1⟩)]
noncomputable def laws_heldFloat64S_F (k : Nat) (a0 : List Nat) (a1 : Int) : Option (Int) :=
  laws_heldFloat64S_L2 k a0 a1 0
noncomputable def laws_heldFloat64S (a0 : List Nat) (a1 : Int) : Option (Int) := evF fun k => laws_heldFloat64S_F k a0 a1
noncomputable def g_laws_heldFloat64S : Sg := ⟨i_laws_heldFloat64S, o_laws_heldFloat64S, Int, fun y => ((y, ()), ()), fun x => laws_heldFloat64S x.1.1 x.1.2.1⟩
noncomputable def C_laws_heldFloat64S : Ctx := ⟨22, tiOf Try.prog, gl, sgOf [], []⟩
noncomputable def r_laws_heldFloat64S : AExit → Env → Option (Int) := retK C_laws_heldFloat64S 0 o_laws_heldFloat64S (fun y => y.1.1) Try.f35.results.toList
theorem e_laws_heldFloat64S : Sound Try.prog gl 35 g_laws_heldFloat64S :=
  sound_cuts (C := C_laws_heldFloat64S) ⟨fun _ _ h => h, by kernel_rfl⟩ (sgOf_all' trivial) 35 Try.f35 g_laws_heldFloat64S (fun y => y.1.1) j_laws_heldFloat64S 1 (by kernel_rfl) (by kernel_rfl) (by kernel_rfl) (by kernel_rfl) (by kernel_rfl) (by kernel_rfl) (fun _ => rfl) (by kernel_rfl) (by kernel_rfl)
    ⟨trivial, s_laws_heldFloat64S_2, fun k x => laws_heldFloat64S_L2 k x.1.1 x.1.2.1 x.1.2.2.1, ⟨fun k => by kernel_rfl, fun k y => by kernel_rfl, fun y => by kernel_rfl⟩⟩
    (fun k x => laws_heldFloat64S_F k x.1.1 x.1.2.1) (fun x => rfl) (fun k x => by kernel_rfl)
-- loop.example/g00051/laws.heldByteS
noncomputable def i_laws_heldByteS : Shape := ⟨[(0, .c (.sl (.int .u8))), (1, .c (.int .i64))], []⟩
noncomputable def o_laws_heldByteS : Shape := ⟨[(0, .c (.int .i64))], []⟩
noncomputable def s_laws_heldByteS_2 : Shape := ⟨[(0, .c (.sl (.int .u8))), (1, .c (.int .i64)), (5, .c (.int .i64))], []⟩
noncomputable def laws_heldByteS_L2 : Nat → (List Int) → Int → Int → Option (Int)
  | 0, _, _, _ => none
  | k + 1, a0, a1, a2 =>
  bif decide (a2 < (↑a0.length : Int)) then bif decide (0 ≤ a2) then bif decide (a2 < (↑a0.length : Int)) then bif rd (Kind.int IntKind.u8) a0 a2 != IntKind.u8.wrap a1 then some (-1) else laws_heldByteS_L2 k a0 (IntKind.i64.wrap (a1 + 1)) (IntKind.i64.wrap (a2 + 1)) else none else none else some a1
noncomputable def j_laws_heldByteS : List (Nat × (Nat → Cut (Int))) := [(2, fun k => ⟨s_laws_heldByteS_2, fun x => laws_heldByteS_L2 k x.1.1 x.1.2.1 x.1.2.2.1⟩)]
noncomputable def laws_heldByteS_F (k : Nat) (a0 : List Int) (a1 : Int) : Option (Int) :=
  laws_heldByteS_L2 k a0 a1 0
noncomputable def laws_heldByteS (a0 : List Int) (a1 : Int) : Option (Int) := evF fun k => laws_heldByteS_F k a0 a1
noncomputable def g_laws_heldByteS : Sg := ⟨i_laws_heldByteS, o_laws_heldByteS, Int, fun y => ((y, ()), ()), fun x => laws_heldByteS x.1.1 x.1.2.1⟩
noncomputable def C_laws_heldByteS : Ctx := ⟨22, tiOf Try.prog, gl, sgOf [], []⟩
noncomputable def r_laws_heldByteS : AExit → Env → Option (Int) := retK C_laws_heldByteS 0 o_laws_heldByteS (fun y => y.1.1) Try.f39.results.toList
theorem e_laws_heldByteS : Sound Try.prog gl 39 g_laws_heldByteS :=
  sound_cuts (C := C_laws_heldByteS) ⟨fun _ _ h => h, by kernel_rfl⟩ (sgOf_all' trivial) 39 Try.f39 g_laws_heldByteS (fun y => y.1.1) j_laws_heldByteS 1 (by kernel_rfl) (by kernel_rfl) (by kernel_rfl) (by kernel_rfl) (by kernel_rfl) (by kernel_rfl) (fun _ => rfl) (by kernel_rfl) (by kernel_rfl)
    ⟨trivial, s_laws_heldByteS_2, fun k x => laws_heldByteS_L2 k x.1.1 x.1.2.1 x.1.2.2.1, ⟨fun k => by kernel_rfl, fun k y => by kernel_rfl, fun y => by kernel_rfl⟩⟩
    (fun k x => laws_heldByteS_F k x.1.1 x.1.2.1) (fun x => rfl) (fun k x => by kernel_rfl)
-- loop.example/g00051/laws.big
noncomputable def i_laws_big : Shape := ⟨[(0, .c (.sl (.int .u8)))], []⟩
noncomputable def o_laws_big : Shape := ⟨[(0, .c (.bool))], []⟩
noncomputable def laws_big (a0 : List Int) : Option (Bool) :=
  some (decide ((↑a0.length : Int) > 1048576))
noncomputable def g_laws_big : Sg := ⟨i_laws_big, o_laws_big, Bool, fun y => ((y, ()), ()), fun x => laws_big x.1.1⟩
noncomputable def C_laws_big : Ctx := ⟨6, tiOf Try.prog, gl, sgOf [], []⟩
noncomputable def r_laws_big : AExit → Env → Option (Bool) := retK C_laws_big 0 o_laws_big (fun y => y.1.1) Try.f19.results.toList
theorem e_laws_big : Sound Try.prog gl 19 g_laws_big :=
  sound_plain (C := C_laws_big) ⟨fun _ _ h => h, by kernel_rfl⟩ (sgOf_all' trivial) 19 Try.f19 g_laws_big (fun y => y.1.1) (by kernel_rfl) (by kernel_rfl) (by kernel_rfl) (by kernel_rfl) (by kernel_rfl) (by kernel_rfl) (fun _ => rfl) (fun x => by kernel_rfl)
end Go.Proofs.Ytgkejafaggaocaa.LH
