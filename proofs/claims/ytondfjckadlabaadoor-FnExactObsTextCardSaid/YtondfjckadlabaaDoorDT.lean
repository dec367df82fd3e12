/-
  Part of a proof by the engine: texts that a program of ours printed, or plain lemmas on them. No condition but what each theorem says.
-/
import Derived.Test.YtondfjckadlabaaDoorEng5
import Derived.Test.YtondfjckadlabaaDoorProg
import Derived.KernelRfl
import Derived.Test.YtondfjckadlabaaDoorDoors1
set_option linter.unusedVariables false
set_option linter.unusedSimpArgs false
set_option maxRecDepth 100000
namespace Go.Proofs.YtondfjckadlabaaDoor.DT
open Go Go.Eng Go.Proofs
open Go.Proofs.YtondfjckadlabaaDoor.EX
def L_strconv_uint64pow10 : List Int := [1, 10, 100, 1000, 10000, 100000, 1000000, 10000000, 100000000, 1000000000, 10000000000, 100000000000, 1000000000000, 10000000000000, 100000000000000, 1000000000000000, 10000000000000000, 100000000000000000, 1000000000000000000, 10000000000000000000]
noncomputable def gl : Nat → Option (List Cell) := glOf [(4, L_strconv_uint64pow10.map (Cell.int .u64))]
-- loop.example/g00051/spec.l1Dec
noncomputable def i_spec_l1Dec : Shape := ⟨[(0, .c (.int .i64))], []⟩
noncomputable def o_spec_l1Dec : Shape := ⟨[(0, .c (.str))], []⟩
noncomputable def s_spec_l1Dec_7 : Shape := ⟨[(0, .c (.int .i64)), (3, .c (.str)), (4, .c (.int .u64))], []⟩
noncomputable def spec_l1Dec_L7 : Nat → Int → ByteArray → Int → Option (ByteArray)
  | 0, _, _, _ => none
  | k + 1, a0, a1, a2 =>
  bif decide (a2 > 0) then bif decide ((bytesOf [IntKind.u8.wrap (IntKind.u64.wrap (48 + a2.tmod 10))]).size + a1.size ≤ 9223372036854775807) then spec_l1Dec_L7 k a0 (bytesOf [IntKind.u8.wrap (IntKind.u64.wrap (48 + a2.tmod 10))] ++ a1) (IntKind.u64.wrap (a2.tdiv 10)) else none else bif decide (a0 < 0) then bif decide ((bs [45]).size + a1.size ≤ 9223372036854775807) then some (bs [45] ++ a1) else none else some a1
noncomputable def j_spec_l1Dec : List (Nat × (Nat → Cut (ByteArray))) := [(7, fun k => ⟨s_spec_l1Dec_7, fun x => spec_l1Dec_L7 k x.1.1 x.1.2.1 x.1.2.2.1⟩)]
noncomputable def spec_l1Dec_F (k : Nat) (a0 : Int) : Option (ByteArray) :=
  bif a0 == 0 then some (bs [48]) else bif decide (a0 < 0) then spec_l1Dec_L7 k a0 (bs []) (IntKind.u64.wrap (0 - IntKind.u64.wrap a0)) else spec_l1Dec_L7 k a0 (bs []) (IntKind.u64.wrap a0)
noncomputable def spec_l1Dec (a0 : Int) : Option (ByteArray) := evF fun k => spec_l1Dec_F k a0
noncomputable def g_spec_l1Dec : Sg := ⟨i_spec_l1Dec, o_spec_l1Dec, ByteArray, fun y => ((y, ()), ()), fun x => spec_l1Dec x.1.1⟩
noncomputable def C_spec_l1Dec : Ctx := ⟨30, tiOf Tryd.prog, gl, sgOf [], []⟩
noncomputable def r_spec_l1Dec : AExit → Env → Option (ByteArray) := retK C_spec_l1Dec 0 o_spec_l1Dec (fun y => y.1.1) Tryd.f33.results.toList
theorem e_spec_l1Dec : Sound Tryd.prog gl 33 g_spec_l1Dec :=
  sound_cuts (C := C_spec_l1Dec) ⟨fun _ _ h => h, by kernel_rfl⟩ (sgOf_all' trivial) 33 Tryd.f33 g_spec_l1Dec (fun y => y.1.1) j_spec_l1Dec 1 (by kernel_rfl) (by kernel_rfl) (by kernel_rfl) (by kernel_rfl) (by kernel_rfl) (by kernel_rfl) (fun _ => rfl) (by kernel_rfl) (by kernel_rfl)
    ⟨trivial, s_spec_l1Dec_7, fun k x => spec_l1Dec_L7 k x.1.1 x.1.2.1 x.1.2.2.1, ⟨fun k => by kernel_rfl, fun k y => by kernel_rfl, fun y => by kernel_rfl⟩⟩
    (fun k x => spec_l1Dec_F k x.1.1) (fun x => rfl) (fun k x => by kernel_rfl)
-- loop.example/g00051/impl.dec
noncomputable def i_impl_dec : Shape := ⟨[(0, .c (.int .i64))], []⟩
noncomputable def o_impl_dec : Shape := ⟨[(0, .c (.str))], []⟩
noncomputable def impl_dec (a0 : Int) : Option (ByteArray) :=
  (dFmt a0 10).bind fun val => some val
noncomputable def g_impl_dec : Sg := ⟨i_impl_dec, o_impl_dec, ByteArray, fun y => ((y, ()), ()), fun x => impl_dec x.1.1⟩
noncomputable def C_impl_dec : Ctx := ⟨5, tiOf Tryd.prog, gl, sgOf [(60, gFmt)], []⟩
noncomputable def r_impl_dec : AExit → Env → Option (ByteArray) := retK C_impl_dec 0 o_impl_dec (fun y => y.1.1) Tryd.f40.results.toList
theorem e_impl_dec : Sound Tryd.prog gl 40 g_impl_dec :=
  sound_plain (C := C_impl_dec) ⟨fun _ _ h => h, by kernel_rfl⟩ (sgOf_all' ⟨.inl ⟨by kernel_rfl, (eFmt (l := L_strconv_uint64pow10) (by kernel_rfl) (by kernel_rfl))⟩, trivial⟩) 40 Tryd.f40 g_impl_dec (fun y => y.1.1) (by kernel_rfl) (by kernel_rfl) (by kernel_rfl) (by kernel_rfl) (by kernel_rfl) (by kernel_rfl) (fun _ => rfl) (fun x => by kernel_rfl)
-- loop.example/g00051/impl.fill
noncomputable def i_impl_fill : Shape := ⟨[(0, .c (.int .i64)), (1, .c (.int .i64))], []⟩
noncomputable def o_impl_fill : Shape := ⟨[(0, .c (.str))], []⟩
noncomputable def impl_fill (a0 : Int) (a1 : Int) : Option (ByteArray) :=
  (impl_dec a0).bind fun val => (dRep (bs [48]) (if IntKind.i64.wrap (a1 - (↑(ByteArray.size val) : Int)) > 0 then IntKind.i64.wrap (a1 - (↑(ByteArray.size val) : Int)) else 0)).bind fun val_1 => bif decide (ByteArray.size val_1 + ByteArray.size val ≤ 9223372036854775807) then some (val_1 ++ val) else none
noncomputable def g_impl_fill : Sg := ⟨i_impl_fill, o_impl_fill, ByteArray, fun y => ((y, ()), ()), fun x => impl_fill x.1.1 x.1.2.1⟩
noncomputable def C_impl_fill : Ctx := ⟨16, tiOf Tryd.prog, gl, sgOf [(40, g_impl_dec), (55, gRep)], []⟩
noncomputable def r_impl_fill : AExit → Env → Option (ByteArray) := retK C_impl_fill 0 o_impl_fill (fun y => y.1.1) Tryd.f35.results.toList
theorem e_impl_fill : Sound Tryd.prog gl 35 g_impl_fill :=
  sound_plain (C := C_impl_fill) ⟨fun _ _ h => h, by kernel_rfl⟩ (sgOf_all' ⟨.inl ⟨by kernel_rfl, e_impl_dec⟩, .inl ⟨by kernel_rfl, eRep⟩, trivial⟩) 35 Tryd.f35 g_impl_fill (fun y => y.1.1) (by kernel_rfl) (by kernel_rfl) (by kernel_rfl) (by kernel_rfl) (by kernel_rfl) (by kernel_rfl) (fun _ => rfl) (fun x => by kernel_rfl)
-- loop.example/g00051/impl.in
noncomputable def i_impl_in : Shape := ⟨[(0, .c (.int .i64)), (1, .c (.int .i64)), (2, .c (.int .i64))], []⟩
noncomputable def o_impl_in : Shape := ⟨[(0, .c (.bool))], []⟩
noncomputable def impl_in (a0 : Int) (a1 : Int) (a2 : Int) : Option (Bool) :=
  bif decide (a0 ≥ a1) then some (decide (a0 ≤ a2)) else some false
noncomputable def g_impl_in : Sg := ⟨i_impl_in, o_impl_in, Bool, fun y => ((y, ()), ()), fun x => impl_in x.1.1 x.1.2.1 x.1.2.2.1⟩
noncomputable def C_impl_in : Ctx := ⟨15, tiOf Tryd.prog, gl, sgOf [], []⟩
noncomputable def r_impl_in : AExit → Env → Option (Bool) := retK C_impl_in 0 o_impl_in (fun y => y.1.1) Tryd.f18.results.toList
theorem e_impl_in : Sound Tryd.prog gl 18 g_impl_in :=
  sound_plain (C := C_impl_in) ⟨fun _ _ h => h, by kernel_rfl⟩ (sgOf_all' trivial) 18 Tryd.f18 g_impl_in (fun y => y.1.1) (by kernel_rfl) (by kernel_rfl) (by kernel_rfl) (by kernel_rfl) (by kernel_rfl) (by kernel_rfl) (fun _ => rfl) (fun x => by kernel_rfl)
-- loop.example/g00051/spec.l2In
noncomputable def i_spec_l2In : Shape := ⟨[(0, .c (.int .i64)), (1, .c (.int .i64)), (2, .c (.int .i64))], []⟩
noncomputable def o_spec_l2In : Shape := ⟨[(0, .c (.bool))], []⟩
noncomputable def spec_l2In (a0 : Int) (a1 : Int) (a2 : Int) : Option (Bool) :=
  bif decide (a0 ≥ a1) then some (decide (a0 ≤ a2)) else some false
noncomputable def g_spec_l2In : Sg := ⟨i_spec_l2In, o_spec_l2In, Bool, fun y => ((y, ()), ()), fun x => spec_l2In x.1.1 x.1.2.1 x.1.2.2.1⟩
noncomputable def C_spec_l2In : Ctx := ⟨15, tiOf Tryd.prog, gl, sgOf [], []⟩
noncomputable def r_spec_l2In : AExit → Env → Option (Bool) := retK C_spec_l2In 0 o_spec_l2In (fun y => y.1.1) Tryd.f49.results.toList
theorem e_spec_l2In : Sound Tryd.prog gl 49 g_spec_l2In :=
  sound_plain (C := C_spec_l2In) ⟨fun _ _ h => h, by kernel_rfl⟩ (sgOf_all' trivial) 49 Tryd.f49 g_spec_l2In (fun y => y.1.1) (by kernel_rfl) (by kernel_rfl) (by kernel_rfl) (by kernel_rfl) (by kernel_rfl) (by kernel_rfl) (fun _ => rfl) (fun x => by kernel_rfl)
-- loop.example/g00051/spec.l2Pad
noncomputable def i_spec_l2Pad : Shape := ⟨[(0, .c (.int .i64)), (1, .c (.int .i64))], []⟩
noncomputable def o_spec_l2Pad : Shape := ⟨[(0, .c (.str))], []⟩
noncomputable def s_spec_l2Pad_2 : Shape := ⟨[(1, .c (.int .i64)), (5, .c (.str))], []⟩
noncomputable def spec_l2Pad_L2 : Nat → Int → ByteArray → Option (ByteArray)
  | 0, _, _ => none
  | k + 1, a0, a1 =>
  bif decide ((↑a1.size : Int) < a0) then bif decide ((bs [48]).size + a1.size ≤ 9223372036854775807) then spec_l2Pad_L2 k a0 (bs [48] ++ a1) else none else some a1
noncomputable def j_spec_l2Pad : List (Nat × (Nat → Cut (ByteArray))) := [(2, fun k => ⟨s_spec_l2Pad_2, fun x => spec_l2Pad_L2 k x.1.1 x.1.2.1⟩)]
noncomputable def spec_l2Pad_F (k : Nat) (a0 : Int) (a1 : Int) : Option (ByteArray) :=
  (spec_l1Dec a0).bind fun val => spec_l2Pad_L2 k a1 val
noncomputable def spec_l2Pad (a0 : Int) (a1 : Int) : Option (ByteArray) := evF fun k => spec_l2Pad_F k a0 a1
noncomputable def g_spec_l2Pad : Sg := ⟨i_spec_l2Pad, o_spec_l2Pad, ByteArray, fun y => ((y, ()), ()), fun x => spec_l2Pad x.1.1 x.1.2.1⟩
noncomputable def C_spec_l2Pad : Ctx := ⟨15, tiOf Tryd.prog, gl, sgOf [(33, g_spec_l1Dec)], []⟩
noncomputable def r_spec_l2Pad : AExit → Env → Option (ByteArray) := retK C_spec_l2Pad 0 o_spec_l2Pad (fun y => y.1.1) Tryd.f29.results.toList
theorem e_spec_l2Pad : Sound Tryd.prog gl 29 g_spec_l2Pad :=
  sound_cuts (C := C_spec_l2Pad) ⟨fun _ _ h => h, by kernel_rfl⟩ (sgOf_all' ⟨.inl ⟨by kernel_rfl, e_spec_l1Dec⟩, trivial⟩) 29 Tryd.f29 g_spec_l2Pad (fun y => y.1.1) j_spec_l2Pad 1 (by kernel_rfl) (by kernel_rfl) (by kernel_rfl) (by kernel_rfl) (by kernel_rfl) (by kernel_rfl) (fun _ => rfl) (by kernel_rfl) (by kernel_rfl)
    ⟨trivial, s_spec_l2Pad_2, fun k x => spec_l2Pad_L2 k x.1.1 x.1.2.1, ⟨fun k => by kernel_rfl, fun k y => by kernel_rfl, fun y => by kernel_rfl⟩⟩
    (fun k x => spec_l2Pad_F k x.1.1 x.1.2.1) (fun x => rfl) (fun k x => by kernel_rfl)
end Go.Proofs.YtondfjckadlabaaDoor.DT
