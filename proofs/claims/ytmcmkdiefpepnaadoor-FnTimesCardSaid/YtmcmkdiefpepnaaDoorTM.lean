/-
  Part of a proof by the engine: texts that a program of ours printed, or plain lemmas on them. No condition but what each theorem says.
-/
import Derived.Test.YtmcmkdiefpepnaaDoorDT
import Derived.Test.YtmcmkdiefpepnaaDoorEngU
import Derived.Test.YtmcmkdiefpepnaaDoorProg
import Derived.KernelRfl
import Derived.Test.YtmcmkdiefpepnaaDoorEngY
import Derived.Test.YtmcmkdiefpepnaaDoorDoors2
import Derived.Test.YtmcmkdiefpepnaaDoorDoors5
set_option linter.unusedSimpArgs false
set_option linter.unusedVariables false
set_option maxRecDepth 100000
namespace Go.Proofs.YtmcmkdiefpepnaaDoor.TM
open Go Go.Eng Go.Proofs
open Go.Proofs.YtmcmkdiefpepnaaDoor.EX
open Go.Proofs.YtmcmkdiefpepnaaDoor.DT hiding gl
noncomputable def gl : Nat → Option (List Cell) := glOf [(6, L_strconv_uint64pow10.map (Cell.int .u64))]
theorem gl_DT : ∀ g cs, Go.Proofs.YtmcmkdiefpepnaaDoor.DT.gl g = some cs → gl g = some cs := glOf_mono (by intro p hp; simp only [List.mem_cons, List.not_mem_nil, or_false] at hp; subst hp <;> rfl)
-- loop.example/g00051/laws.big
noncomputable def i_laws_big : Shape := ⟨[(0, .c (.sl (.int .u8)))], []⟩
noncomputable def o_laws_big : Shape := ⟨[(0, .c (.bool))], []⟩
noncomputable def laws_big (a0 : List Int) : Option (Bool) :=
  some (decide ((↑a0.length : Int) > 1048576))
noncomputable def g_laws_big : Sg := ⟨i_laws_big, o_laws_big, Bool, fun y => ((y, ()), ()), fun x => laws_big x.1.1⟩
noncomputable def C_laws_big : Ctx := ⟨6, tiOf Tryd.prog, gl, sgOf []⟩
noncomputable def r_laws_big : AExit → Env → Option (Bool) := retK C_laws_big 0 o_laws_big (fun y => y.1.1) Tryd.f34.results.toList
theorem e_laws_big : Sound Tryd.prog gl 34 g_laws_big :=
  sound_plain (C := C_laws_big) ⟨fun _ _ h => h, by kernel_rfl⟩ (sgOf_all' trivial) 34 Tryd.f34 g_laws_big (fun y => y.1.1) (by kernel_rfl) (by kernel_rfl) (by kernel_rfl) (by kernel_rfl) (by kernel_rfl) (by kernel_rfl) (fun _ => rfl) (fun x => by kernel_rfl)
-- loop.example/g00051/spec.l1Open
noncomputable def i_spec_l1Open : Shape := ⟨[(0, .c (.sl (.int .u8)))], []⟩
noncomputable def o_spec_l1Open : Shape := ⟨[(0, .c (.ptr 0 0))], [.box 154 [.sl (.int .u8), .int .i64]]⟩
noncomputable def spec_l1Open (a0 : List Int) : Option ((List Int) × Int) :=
  some (a0, 0)
noncomputable def g_spec_l1Open : Sg := ⟨i_spec_l1Open, o_spec_l1Open, (List Int) × Int, fun y => (((), ()), ((y.1, y.2, ()), ())), fun x => spec_l1Open x.1.1⟩
noncomputable def C_spec_l1Open : Ctx := ⟨6, tiOf Tryd.prog, gl, sgOf []⟩
noncomputable def r_spec_l1Open : AExit → Env → Option ((List Int) × Int) := retK C_spec_l1Open 0 o_spec_l1Open (fun y => (y.2.1.1, y.2.1.2.1)) Tryd.f89.results.toList
theorem e_spec_l1Open : Sound Tryd.prog gl 89 g_spec_l1Open :=
  sound_plain (C := C_spec_l1Open) ⟨fun _ _ h => h, by kernel_rfl⟩ (sgOf_all' trivial) 89 Tryd.f89 g_spec_l1Open (fun y => (y.2.1.1, y.2.1.2.1)) (by kernel_rfl) (by kernel_rfl) (by kernel_rfl) (by kernel_rfl) (by kernel_rfl) (by kernel_rfl) (fun _ => rfl) (fun x => by kernel_rfl)
-- (*loop.example/g00051/spec.l1Rd).next
noncomputable def i_spec_l1Rd_next : Shape := ⟨[(0, .c (.ptr 0 0))], [.box 154 [.sl (.int .u8), .int .i64]]⟩
noncomputable def o_spec_l1Rd_next : Shape := ⟨[(0, .c (.int .i64))], [.box 154 [.sl (.int .u8), .int .i64]]⟩
noncomputable def spec_l1Rd_next (a0 : List Int) (a1 : Int) : Option (Int × (List Int) × Int) :=
  bif decide (a1 ≥ (↑a0.length : Int)) then some (0, a0, a1) else bif decide (0 ≤ IntKind.i64.wrap (IntKind.i64.wrap (a1 + 1) - 1)) then bif decide (IntKind.i64.wrap (IntKind.i64.wrap (a1 + 1) - 1) < (↑a0.length : Int)) then some (IntKind.i64.wrap (rd (Kind.int IntKind.u8) a0 (IntKind.i64.wrap (IntKind.i64.wrap (a1 + 1) - 1))), a0, IntKind.i64.wrap (a1 + 1)) else none else none
noncomputable def g_spec_l1Rd_next : Sg := ⟨i_spec_l1Rd_next, o_spec_l1Rd_next, Int × (List Int) × Int, fun y => ((y.1, ()), ((y.2.1, y.2.2, ()), ())), fun x => spec_l1Rd_next x.2.1.1 x.2.1.2.1⟩
noncomputable def C_spec_l1Rd_next : Ctx := ⟨32, tiOf Tryd.prog, gl, sgOf []⟩
noncomputable def r_spec_l1Rd_next : AExit → Env → Option (Int × (List Int) × Int) := retK C_spec_l1Rd_next 1 o_spec_l1Rd_next (fun y => (y.1.1, y.2.1.1, y.2.1.2.1)) Tryd.f154.results.toList
theorem e_spec_l1Rd_next : Sound Tryd.prog gl 154 g_spec_l1Rd_next :=
  sound_plain (C := C_spec_l1Rd_next) ⟨fun _ _ h => h, by kernel_rfl⟩ (sgOf_all' trivial) 154 Tryd.f154 g_spec_l1Rd_next (fun y => (y.1.1, y.2.1.1, y.2.1.2.1)) (by kernel_rfl) (by kernel_rfl) (by kernel_rfl) (by kernel_rfl) (by kernel_rfl) (by kernel_rfl) (fun _ => rfl) (fun x => by kernel_rfl)
-- (*loop.example/g00051/spec.l1Rd).below
noncomputable def i_spec_l1Rd_below : Shape := ⟨[(0, .c (.ptr 0 0)), (1, .c (.int .i64))], [.box 154 [.sl (.int .u8), .int .i64]]⟩
noncomputable def o_spec_l1Rd_below : Shape := ⟨[(0, .c (.int .i64))], [.box 154 [.sl (.int .u8), .int .i64]]⟩
noncomputable def spec_l1Rd_below (a0 : Int) (a1 : List Int) (a2 : Int) : Option (Int × (List Int) × Int) :=
  bif decide (a0 ≤ 1) then some (0, a1, a2) else bif decide (a0 ≤ 256) then (spec_l1Rd_next a1 a2).bind fun val => bif !decide (a0 = 0) then some (val.fst.tmod a0, val.snd.fst, val.snd.snd) else none else (spec_l1Rd_next a1 a2).bind fun val => (spec_l1Rd_next val.snd.fst val.snd.snd).bind fun val_1 => bif !decide (a0 = 0) then some ((IntKind.i64.wrap (IntKind.i64.wrap (val.fst * 256) + val_1.fst)).tmod a0, val_1.snd.fst, val_1.snd.snd) else none
noncomputable def g_spec_l1Rd_below : Sg := ⟨i_spec_l1Rd_below, o_spec_l1Rd_below, Int × (List Int) × Int, fun y => ((y.1, ()), ((y.2.1, y.2.2, ()), ())), fun x => spec_l1Rd_below x.1.2.1 x.2.1.1 x.2.1.2.1⟩
noncomputable def C_spec_l1Rd_below : Ctx := ⟨24, tiOf Tryd.prog, gl, sgOf [(154, g_spec_l1Rd_next)]⟩
noncomputable def r_spec_l1Rd_below : AExit → Env → Option (Int × (List Int) × Int) := retK C_spec_l1Rd_below 1 o_spec_l1Rd_below (fun y => (y.1.1, y.2.1.1, y.2.1.2.1)) Tryd.f116.results.toList
theorem e_spec_l1Rd_below : Sound Tryd.prog gl 116 g_spec_l1Rd_below :=
  sound_plain (C := C_spec_l1Rd_below) ⟨fun _ _ h => h, by kernel_rfl⟩ (sgOf_all' ⟨⟨by kernel_rfl, e_spec_l1Rd_next⟩, trivial⟩) 116 Tryd.f116 g_spec_l1Rd_below (fun y => (y.1.1, y.2.1.1, y.2.1.2.1)) (by kernel_rfl) (by kernel_rfl) (by kernel_rfl) (by kernel_rfl) (by kernel_rfl) (by kernel_rfl) (fun _ => rfl) (fun x => by kernel_rfl)
-- (*loop.example/g00051/spec.l1Rd).once
noncomputable def i_spec_l1Rd_once : Shape := ⟨[(0, .c (.ptr 0 0)), (1, .c (.int .i64))], [.box 154 [.sl (.int .u8), .int .i64]]⟩
noncomputable def o_spec_l1Rd_once : Shape := ⟨[(0, .c (.bool))], [.box 154 [.sl (.int .u8), .int .i64]]⟩
noncomputable def spec_l1Rd_once (a0 : Int) (a1 : List Int) (a2 : Int) : Option (Bool × (List Int) × Int) :=
  (spec_l1Rd_below a0 a1 a2).bind fun val => some (val.fst == IntKind.i64.wrap (a0 - 1), val.snd.fst, val.snd.snd)
noncomputable def g_spec_l1Rd_once : Sg := ⟨i_spec_l1Rd_once, o_spec_l1Rd_once, Bool × (List Int) × Int, fun y => ((y.1, ()), ((y.2.1, y.2.2, ()), ())), fun x => spec_l1Rd_once x.1.2.1 x.2.1.1 x.2.1.2.1⟩
noncomputable def C_spec_l1Rd_once : Ctx := ⟨11, tiOf Tryd.prog, gl, sgOf [(116, g_spec_l1Rd_below)]⟩
noncomputable def r_spec_l1Rd_once : AExit → Env → Option (Bool × (List Int) × Int) := retK C_spec_l1Rd_once 1 o_spec_l1Rd_once (fun y => (y.1.1, y.2.1.1, y.2.1.2.1)) Tryd.f117.results.toList
theorem e_spec_l1Rd_once : Sound Tryd.prog gl 117 g_spec_l1Rd_once :=
  sound_plain (C := C_spec_l1Rd_once) ⟨fun _ _ h => h, by kernel_rfl⟩ (sgOf_all' ⟨⟨by kernel_rfl, e_spec_l1Rd_below⟩, trivial⟩) 117 Tryd.f117 g_spec_l1Rd_once (fun y => (y.1.1, y.2.1.1, y.2.1.2.1)) (by kernel_rfl) (by kernel_rfl) (by kernel_rfl) (by kernel_rfl) (by kernel_rfl) (by kernel_rfl) (fun _ => rfl) (fun x => by kernel_rfl)
-- (*loop.example/g00051/spec.l1Rd).word
noncomputable def i_spec_l1Rd_word : Shape := ⟨[(0, .c (.ptr 0 0))], [.box 154 [.sl (.int .u8), .int .i64]]⟩
noncomputable def o_spec_l1Rd_word : Shape := ⟨[(0, .c (.int .u64))], [.box 154 [.sl (.int .u8), .int .i64]]⟩
noncomputable def s_spec_l1Rd_word_3 : Shape := ⟨[(0, .c (.ptr 0 0)), (3, .c (.int .u64)), (4, .c (.int .i64))], [.box 154 [.sl (.int .u8), .int .i64]]⟩
noncomputable def spec_l1Rd_word_L3 : Nat → Int → Int → (List Int) → Int → Option (Int × (List Int) × Int)
  | 0, _, _, _, _ => none
  | k + 1, a0, a1, a2, a3 =>
  bif decide (a1 < 8) then (spec_l1Rd_next a2 a3).bind fun val => spec_l1Rd_word_L3 k (IntKind.u64.wrap (↑(BitVec.ofInt IntKind.u64.bits (IntKind.u64.wrap (a0 * 2 ^ min (Int.toNat 8) IntKind.u64.bits)) ||| BitVec.ofInt IntKind.u64.bits (IntKind.u64.wrap val.fst)).toNat : Int)) (IntKind.i64.wrap (a1 + 1)) val.snd.fst val.snd.snd else some (a0, a2, a3)
noncomputable def j_spec_l1Rd_word : List (Nat × (Nat → Cut (Int × (List Int) × Int))) := [(3, fun k => ⟨s_spec_l1Rd_word_3, fun x => spec_l1Rd_word_L3 k x.1.2.1 x.1.2.2.1 x.2.1.1 x.2.1.2.1⟩)]
noncomputable def spec_l1Rd_word_F (k : Nat) (a0 : List Int) (a1 : Int) : Option (Int × (List Int) × Int) :=
  spec_l1Rd_word_L3 k 0 0 a0 a1
noncomputable def spec_l1Rd_word (a0 : List Int) (a1 : Int) : Option (Int × (List Int) × Int) := evF fun k => spec_l1Rd_word_F k a0 a1
noncomputable def g_spec_l1Rd_word : Sg := ⟨i_spec_l1Rd_word, o_spec_l1Rd_word, Int × (List Int) × Int, fun y => ((y.1, ()), ((y.2.1, y.2.2, ()), ())), fun x => spec_l1Rd_word x.2.1.1 x.2.1.2.1⟩
noncomputable def C_spec_l1Rd_word : Ctx := ⟨16, tiOf Tryd.prog, gl, sgOf [(154, g_spec_l1Rd_next)]⟩
noncomputable def r_spec_l1Rd_word : AExit → Env → Option (Int × (List Int) × Int) := retK C_spec_l1Rd_word 1 o_spec_l1Rd_word (fun y => (y.1.1, y.2.1.1, y.2.1.2.1)) Tryd.f165.results.toList
theorem e_spec_l1Rd_word : Sound Tryd.prog gl 165 g_spec_l1Rd_word :=
  sound_cuts (C := C_spec_l1Rd_word) ⟨fun _ _ h => h, by kernel_rfl⟩ (sgOf_all' ⟨⟨by kernel_rfl, e_spec_l1Rd_next⟩, trivial⟩) 165 Tryd.f165 g_spec_l1Rd_word (fun y => (y.1.1, y.2.1.1, y.2.1.2.1)) j_spec_l1Rd_word 1 (by kernel_rfl) (by kernel_rfl) (by kernel_rfl) (by kernel_rfl) (by kernel_rfl) (by kernel_rfl) (fun _ => rfl) (by kernel_rfl) (by kernel_rfl)
    ⟨trivial, s_spec_l1Rd_word_3, fun k x => spec_l1Rd_word_L3 k x.1.2.1 x.1.2.2.1 x.2.1.1 x.2.1.2.1, ⟨fun k => by kernel_rfl, fun k y => by kernel_rfl, fun y => by kernel_rfl⟩⟩
    (fun k x => spec_l1Rd_word_F k x.2.1.1 x.2.1.2.1) (fun x => rfl) (fun k x => by kernel_rfl)
-- (*loop.example/g00051/spec.l1Rd).time
noncomputable def i_spec_l1Rd_time : Shape := ⟨[(0, .c (.ptr 0 0))], [.box 154 [.sl (.int .u8), .int .i64]]⟩
noncomputable def o_spec_l1Rd_time : Shape := ⟨[(0, .c (.int .i64))], [.box 154 [.sl (.int .u8), .int .i64]]⟩
noncomputable def spec_l1Rd_time (a0 : List Int) (a1 : Int) : Option (Int × (List Int) × Int) :=
  (spec_l1Rd_below 6 a0 a1).bind fun val => bif val.fst == 0 then (spec_l1Rd_below 3000 val.snd.fst val.snd.snd).bind fun val => some (val.fst, val.snd.fst, val.snd.snd) else bif val.fst == 1 then (spec_l1Rd_below 3000 val.snd.fst val.snd.snd).bind fun val => some (IntKind.i64.wrap (52596000 - val.fst), val.snd.fst, val.snd.snd) else bif val.fst == 2 then (spec_l1Rd_word val.snd.fst val.snd.snd).bind fun val => some (IntKind.i64.wrap (val.fst.tmod 52596001), val.snd.fst, val.snd.snd) else (spec_l1Rd_below 60000 val.snd.fst val.snd.snd).bind fun val => some (IntKind.i64.wrap (14130000 + val.fst), val.snd.fst, val.snd.snd)
noncomputable def g_spec_l1Rd_time : Sg := ⟨i_spec_l1Rd_time, o_spec_l1Rd_time, Int × (List Int) × Int, fun y => ((y.1, ()), ((y.2.1, y.2.2, ()), ())), fun x => spec_l1Rd_time x.2.1.1 x.2.1.2.1⟩
noncomputable def C_spec_l1Rd_time : Ctx := ⟨23, tiOf Tryd.prog, gl, sgOf [(116, g_spec_l1Rd_below), (165, g_spec_l1Rd_word)]⟩
noncomputable def r_spec_l1Rd_time : AExit → Env → Option (Int × (List Int) × Int) := retK C_spec_l1Rd_time 1 o_spec_l1Rd_time (fun y => (y.1.1, y.2.1.1, y.2.1.2.1)) Tryd.f143.results.toList
theorem e_spec_l1Rd_time : Sound Tryd.prog gl 143 g_spec_l1Rd_time :=
  sound_plain (C := C_spec_l1Rd_time) ⟨fun _ _ h => h, by kernel_rfl⟩ (sgOf_all' ⟨⟨by kernel_rfl, e_spec_l1Rd_below⟩, ⟨by kernel_rfl, e_spec_l1Rd_word⟩, trivial⟩) 143 Tryd.f143 g_spec_l1Rd_time (fun y => (y.1.1, y.2.1.1, y.2.1.2.1)) (by kernel_rfl) (by kernel_rfl) (by kernel_rfl) (by kernel_rfl) (by kernel_rfl) (by kernel_rfl) (fun _ => rfl) (fun x => by kernel_rfl)
-- loop.example/g00051/spec.l2DrawTime
noncomputable def i_spec_l2DrawTime : Shape := ⟨[(0, .c (.ptr 0 0))], [.box 154 [.sl (.int .u8), .int .i64]]⟩
noncomputable def o_spec_l2DrawTime : Shape := ⟨[(0, .c (.int .i64))], [.box 154 [.sl (.int .u8), .int .i64]]⟩
noncomputable def spec_l2DrawTime (a0 : List Int) (a1 : Int) : Option (Int × (List Int) × Int) :=
  (spec_l1Rd_once 12 a0 a1).bind fun val => bif val.fst then (spec_l1Rd_below 6 val.snd.fst val.snd.snd).bind fun val => bif decide (0 ≤ val.fst) then bif decide (val.fst < (↑[-1, 52596000, 52596001, 0, 9223372036854775807, -9223372036854775808].length : Int)) then bif decide (val.fst < (↑[-1, 52596000, 52596001, 0, 9223372036854775807, -9223372036854775808].length : Int)) then some (rd (Kind.int IntKind.i64) [-1, 52596000, 52596001, 0, 9223372036854775807, -9223372036854775808] val.fst, val.snd.fst, val.snd.snd) else none else none else none else (spec_l1Rd_time val.snd.fst val.snd.snd).bind fun val => some (val.fst, val.snd.fst, val.snd.snd)
noncomputable def g_spec_l2DrawTime : Sg := ⟨i_spec_l2DrawTime, o_spec_l2DrawTime, Int × (List Int) × Int, fun y => ((y.1, ()), ((y.2.1, y.2.2, ()), ())), fun x => spec_l2DrawTime x.2.1.1 x.2.1.2.1⟩
noncomputable def C_spec_l2DrawTime : Ctx := ⟨12, tiOf Tryd.prog, gl, sgOf [(117, g_spec_l1Rd_once), (116, g_spec_l1Rd_below), (143, g_spec_l1Rd_time)]⟩
noncomputable def r_spec_l2DrawTime : AExit → Env → Option (Int × (List Int) × Int) := retK C_spec_l2DrawTime 1 o_spec_l2DrawTime (fun y => (y.1.1, y.2.1.1, y.2.1.2.1)) Tryd.f88.results.toList
theorem e_spec_l2DrawTime : Sound Tryd.prog gl 88 g_spec_l2DrawTime :=
  sound_plain (C := C_spec_l2DrawTime) ⟨fun _ _ h => h, by kernel_rfl⟩ (sgOf_all' ⟨⟨by kernel_rfl, e_spec_l1Rd_once⟩, ⟨by kernel_rfl, e_spec_l1Rd_below⟩, ⟨by kernel_rfl, e_spec_l1Rd_time⟩, trivial⟩) 88 Tryd.f88 g_spec_l2DrawTime (fun y => (y.1.1, y.2.1.1, y.2.1.2.1)) (by kernel_rfl) (by kernel_rfl) (by kernel_rfl) (by kernel_rfl) (by kernel_rfl) (by kernel_rfl) (fun _ => rfl) (fun x => by kernel_rfl)
-- loop.example/g00051/spec.DrawStamp
noncomputable def i_spec_DrawStamp : Shape := ⟨[(0, .c (.sl (.int .u8)))], []⟩
noncomputable def o_spec_DrawStamp : Shape := ⟨[(0, .c (.int .i64))], []⟩
noncomputable def spec_DrawStamp (a0 : List Int) : Option (Int) :=
  (spec_l1Open a0).bind fun val => (spec_l2DrawTime val.fst val.snd).bind fun val => some val.fst
noncomputable def g_spec_DrawStamp : Sg := ⟨i_spec_DrawStamp, o_spec_DrawStamp, Int, fun y => ((y, ()), ()), fun x => spec_DrawStamp x.1.1⟩
noncomputable def C_spec_DrawStamp : Ctx := ⟨6, tiOf Tryd.prog, gl, sgOf [(89, g_spec_l1Open), (88, g_spec_l2DrawTime)]⟩
noncomputable def r_spec_DrawStamp : AExit → Env → Option (Int) := retK C_spec_DrawStamp 0 o_spec_DrawStamp (fun y => y.1.1) Tryd.f35.results.toList
theorem e_spec_DrawStamp : Sound Tryd.prog gl 35 g_spec_DrawStamp :=
  sound_plain (C := C_spec_DrawStamp) ⟨fun _ _ h => h, by kernel_rfl⟩ (sgOf_all' ⟨⟨by kernel_rfl, e_spec_l1Open⟩, ⟨by kernel_rfl, e_spec_l2DrawTime⟩, trivial⟩) 35 Tryd.f35 g_spec_DrawStamp (fun y => y.1.1) (by kernel_rfl) (by kernel_rfl) (by kernel_rfl) (by kernel_rfl) (by kernel_rfl) (by kernel_rfl) (fun _ => rfl) (fun x => by kernel_rfl)
-- loop.example/g00051/impl.Stamp
noncomputable def i_impl_Stamp : Shape := ⟨[(0, .c (.int .i64))], []⟩
noncomputable def o_impl_Stamp : Shape := ⟨[(0, .c (.str))], []⟩
noncomputable def impl_Stamp (a0 : Int) : Option (ByteArray) :=
  (impl_DateOf a0).bind fun val =>
   bif !val.snd.snd.snd.snd.snd then some (bs [])
   else (impl_fill val.fst 4).bind fun val_1 => bif decide (ByteArray.size val_1 + (bs [45]).size ≤ 9223372036854775807) then (impl_fill val.snd.fst 2).bind fun val_2 => bif decide ((val_1 ++ bs [45]).size + ByteArray.size val_2 ≤ 9223372036854775807) then bif decide ((val_1 ++ bs [45] ++ val_2).size + (bs [45]).size ≤ 9223372036854775807) then (impl_fill val.snd.snd.fst 2).bind fun val_3 => bif decide ((val_1 ++ bs [45] ++ val_2 ++ bs [45]).size + ByteArray.size val_3 ≤ 9223372036854775807) then bif decide ((val_1 ++ bs [45] ++ val_2 ++ bs [45] ++ val_3).size + (bs [84]).size ≤ 9223372036854775807) then (impl_fill val.snd.snd.snd.fst 2).bind fun val_4 => bif decide ((val_1 ++ bs [45] ++ val_2 ++ bs [45] ++ val_3 ++ bs [84]).size + ByteArray.size val_4 ≤ 9223372036854775807) then bif decide ((val_1 ++ bs [45] ++ val_2 ++ bs [45] ++ val_3 ++ bs [84] ++ val_4).size + (bs [58]).size ≤ 9223372036854775807) then (impl_fill val.snd.snd.snd.snd.fst 2).bind fun val => bif decide ((val_1 ++ bs [45] ++ val_2 ++ bs [45] ++ val_3 ++ bs [84] ++ val_4 ++ bs [58]).size + ByteArray.size val ≤ 9223372036854775807) then bif decide ((val_1 ++ bs [45] ++ val_2 ++ bs [45] ++ val_3 ++ bs [84] ++ val_4 ++ bs [58] ++ val).size + (bs [90]).size ≤ 9223372036854775807) then some (val_1 ++ bs [45] ++ val_2 ++ bs [45] ++ val_3 ++ bs [84] ++ val_4 ++ bs [58] ++ val ++ bs [90]) else none else none else none else none else none else none else none else none else none
noncomputable def g_impl_Stamp : Sg := ⟨i_impl_Stamp, o_impl_Stamp, ByteArray, fun y => ((y, ()), ()), fun x => impl_Stamp x.1.1⟩
noncomputable def C_impl_Stamp : Ctx := ⟨36, tiOf Tryd.prog, gl, sgOf [(37, g_impl_DateOf), (79, g_impl_fill)]⟩
noncomputable def r_impl_Stamp : AExit → Env → Option (ByteArray) := retK C_impl_Stamp 0 o_impl_Stamp (fun y => y.1.1) Tryd.f38.results.toList
theorem e_impl_Stamp : Sound Tryd.prog gl 38 g_impl_Stamp :=
  sound_plain (C := C_impl_Stamp) ⟨fun _ _ h => h, by kernel_rfl⟩ (sgOf_all' ⟨⟨by kernel_rfl, (Sound.mono gl_DT (by rfl) e_impl_DateOf)⟩, ⟨by kernel_rfl, (Sound.mono gl_DT (by rfl) e_impl_fill)⟩, trivial⟩) 38 Tryd.f38 g_impl_Stamp (fun y => y.1.1) (by kernel_rfl) (by kernel_rfl) (by kernel_rfl) (by kernel_rfl) (by kernel_rfl) (by kernel_rfl) (fun _ => rfl) (fun x => by kernel_rfl)
-- loop.example/g00051/impl.TimeOf
noncomputable def i_impl_TimeOf : Shape := ⟨[(0, .agg [.int .i64, .int .i64, .int .i64, .int .i64, .int .i64])], []⟩
noncomputable def o_impl_TimeOf : Shape := ⟨[(0, .tup [(false, [.int .i64]), (false, [.bool])])], []⟩
noncomputable def impl_TimeOf (a0 : Int) (a1 : Int) (a2 : Int) (a3 : Int) (a4 : Int) : Option (Int × Bool) :=
  bif a0 == 2100 && (a1 == 1 && (a2 == 1 && (a3 == 0 && a4 == 0))) then some (52596000, true) else (impl_in a0 2000 2099).bind fun val => bif !val then some (0, false) else (impl_in a1 1 12).bind fun val => bif !val then some (0, false) else (impl_monthDays a0 a1).bind fun val => (impl_in a2 1 val).bind fun val => bif !val then some (0, false) else (impl_in a3 0 23).bind fun val => bif !val then some (0, false) else (impl_in a4 0 59).bind fun val => bif !val then some (0, false) else (impl_daysTo a0 a1 a2).bind fun val => some (IntKind.i64.wrap (IntKind.i64.wrap (IntKind.i64.wrap (val * 1440) + IntKind.i64.wrap (a3 * 60)) + a4), true)
noncomputable def g_impl_TimeOf : Sg := ⟨i_impl_TimeOf, o_impl_TimeOf, Int × Bool, fun y => ((((y.1, ()), (y.2, ()), ()), ()), ()), fun x => impl_TimeOf x.1.1.1 x.1.1.2.1 x.1.1.2.2.1 x.1.1.2.2.2.1 x.1.1.2.2.2.2.1⟩
noncomputable def C_impl_TimeOf : Ctx := ⟨55, tiOf Tryd.prog, gl, sgOf [(73, g_impl_in), (94, g_impl_monthDays), (93, g_impl_daysTo)]⟩
noncomputable def r_impl_TimeOf : AExit → Env → Option (Int × Bool) := retK C_impl_TimeOf 0 o_impl_TimeOf (fun y => (y.1.1.1.1, y.1.1.2.1.1)) Tryd.f39.results.toList
theorem e_impl_TimeOf : Sound Tryd.prog gl 39 g_impl_TimeOf :=
  sound_plain (C := C_impl_TimeOf) ⟨fun _ _ h => h, by kernel_rfl⟩ (sgOf_all' ⟨⟨by kernel_rfl, (Sound.mono gl_DT (by rfl) e_impl_in)⟩, ⟨by kernel_rfl, (Sound.mono gl_DT (by rfl) e_impl_monthDays)⟩, ⟨by kernel_rfl, (Sound.mono gl_DT (by rfl) e_impl_daysTo)⟩, trivial⟩) 39 Tryd.f39 g_impl_TimeOf (fun y => (y.1.1.1.1, y.1.1.2.1.1)) (by kernel_rfl) (by kernel_rfl) (by kernel_rfl) (by kernel_rfl) (by kernel_rfl) (by kernel_rfl) (fun _ => rfl) (fun x => by kernel_rfl)
-- loop.example/g00051/impl.ReadStamp$1
noncomputable def i_impl_ReadStamp_1 : Shape := ⟨[(0, .c (.int .i64)), (1, .c (.int .i64)), (2, .c (.ptr 0 0))], [.box 9 [.str]]⟩
noncomputable def o_impl_ReadStamp_1 : Shape := ⟨[(0, .c (.int .i64))], [.box 9 [.str]]⟩
noncomputable def impl_ReadStamp_1 (a0 : Int) (a1 : Int) (a2 : ByteArray) : Option (Int × ByteArray) :=
  bif decide (0 ≤ a1) && decide (a1 ≤ (↑a2.size : Int)) then bif decide (0 ≤ a0) && decide (a0 ≤ a1) then (impl_digits (a2.extract a0.toNat a1.toNat)).bind fun val => bif !val then some (-1, a2) else bif decide (0 ≤ a1) && decide (a1 ≤ (↑a2.size : Int)) then bif decide (0 ≤ a0) && decide (a0 ≤ a1) then (dPar (a2.extract a0.toNat a1.toNat) 10 64).bind fun val => some (val, a2) else none else none else none else none
noncomputable def g_impl_ReadStamp_1 : Sg := ⟨i_impl_ReadStamp_1, o_impl_ReadStamp_1, Int × ByteArray, fun y => ((y.1, ()), ((y.2, ()), ())), fun x => impl_ReadStamp_1 x.1.1 x.1.2.1 x.2.1.1⟩
noncomputable def C_impl_ReadStamp_1 : Ctx := ⟨23, tiOf Tryd.prog, gl, sgOf [(96, g_impl_digits), (97, gPar)]⟩
noncomputable def r_impl_ReadStamp_1 : AExit → Env → Option (Int × ByteArray) := retK C_impl_ReadStamp_1 1 o_impl_ReadStamp_1 (fun y => (y.1.1, y.2.1.1)) Tryd.f95.results.toList
theorem e_impl_ReadStamp_1 : Sound Tryd.prog gl 95 g_impl_ReadStamp_1 :=
  sound_plain (C := C_impl_ReadStamp_1) ⟨fun _ _ h => h, by kernel_rfl⟩ (sgOf_all' ⟨⟨by kernel_rfl, (Sound.mono gl_DT (by rfl) e_impl_digits)⟩, ⟨by kernel_rfl, ePar⟩, trivial⟩) 95 Tryd.f95 g_impl_ReadStamp_1 (fun y => (y.1.1, y.2.1.1)) (by kernel_rfl) (by kernel_rfl) (by kernel_rfl) (by kernel_rfl) (by kernel_rfl) (by kernel_rfl) (fun _ => rfl) (fun x => by kernel_rfl)
-- loop.example/g00051/impl.ReadStamp
noncomputable def i_impl_ReadStamp : Shape := ⟨[(0, .c (.str))], []⟩
noncomputable def o_impl_ReadStamp : Shape := ⟨[(0, .tup [(false, [.int .i64]), (false, [.bool])])], []⟩
noncomputable def impl_ReadStamp (a0 : ByteArray) : Option (Int × Bool) :=
  bif (↑a0.size : Int) != 17 then some (0, false) else (impl_ReadStamp_1 0 4 a0).bind fun val => (impl_ReadStamp_1 5 7 val.snd).bind fun val_1 => (impl_ReadStamp_1 8 10 val_1.snd).bind fun val_2 => (impl_ReadStamp_1 11 13 val_2.snd).bind fun val_3 => (impl_ReadStamp_1 14 16 val_3.snd).bind fun val_4 => (impl_TimeOf val.fst val_1.fst val_2.fst val_3.fst val_4.fst).bind fun val => bif !val.snd then some (0, false) else (impl_Stamp val.fst).bind fun val_5 => bif !ByteArray.toList val_5 == val_4.snd.toList then some (0, false) else some (val.fst, true)
noncomputable def g_impl_ReadStamp : Sg := ⟨i_impl_ReadStamp, o_impl_ReadStamp, Int × Bool, fun y => ((((y.1, ()), (y.2, ()), ()), ()), ()), fun x => impl_ReadStamp x.1.1⟩
noncomputable def C_impl_ReadStamp : Ctx := ⟨35, tiOf Tryd.prog, gl, sgOf [(95, g_impl_ReadStamp_1), (39, g_impl_TimeOf), (38, g_impl_Stamp)]⟩
noncomputable def r_impl_ReadStamp : AExit → Env → Option (Int × Bool) := retK C_impl_ReadStamp 0 o_impl_ReadStamp (fun y => (y.1.1.1.1, y.1.1.2.1.1)) Tryd.f40.results.toList
theorem e_impl_ReadStamp : Sound Tryd.prog gl 40 g_impl_ReadStamp :=
  sound_plain (C := C_impl_ReadStamp) ⟨fun _ _ h => h, by kernel_rfl⟩ (sgOf_all' ⟨⟨by kernel_rfl, e_impl_ReadStamp_1⟩, ⟨by kernel_rfl, e_impl_TimeOf⟩, ⟨by kernel_rfl, e_impl_Stamp⟩, trivial⟩) 40 Tryd.f40 g_impl_ReadStamp (fun y => (y.1.1.1.1, y.1.1.2.1.1)) (by kernel_rfl) (by kernel_rfl) (by kernel_rfl) (by kernel_rfl) (by kernel_rfl) (by kernel_rfl) (fun _ => rfl) (fun x => by kernel_rfl)
-- loop.example/g00051/laws.abs
noncomputable def i_laws_abs : Shape := ⟨[(0, .c (.int .i64))], []⟩
noncomputable def o_laws_abs : Shape := ⟨[(0, .c (.int .i64))], []⟩
noncomputable def laws_abs (a0 : Int) : Option (Int) :=
  bif decide (a0 < 0) then some (IntKind.i64.wrap (0 - a0)) else some a0
noncomputable def g_laws_abs : Sg := ⟨i_laws_abs, o_laws_abs, Int, fun y => ((y, ()), ()), fun x => laws_abs x.1.1⟩
noncomputable def C_laws_abs : Ctx := ⟨8, tiOf Tryd.prog, gl, sgOf []⟩
noncomputable def r_laws_abs : AExit → Env → Option (Int) := retK C_laws_abs 0 o_laws_abs (fun y => y.1.1) Tryd.f41.results.toList
theorem e_laws_abs : Sound Tryd.prog gl 41 g_laws_abs :=
  sound_plain (C := C_laws_abs) ⟨fun _ _ h => h, by kernel_rfl⟩ (sgOf_all' trivial) 41 Tryd.f41 g_laws_abs (fun y => y.1.1) (by kernel_rfl) (by kernel_rfl) (by kernel_rfl) (by kernel_rfl) (by kernel_rfl) (by kernel_rfl) (fun _ => rfl) (fun x => by kernel_rfl)
-- loop.example/g00051/impl.NearDay
noncomputable def i_impl_NearDay : Shape := ⟨[(0, .c (.int .i64)), (1, .c (.int .i64)), (2, .c (.int .i64)), (3, .c (.int .i64))], []⟩
noncomputable def o_impl_NearDay : Shape := ⟨[(0, .tup [(false, [.int .i64]), (false, [.bool])])], []⟩
noncomputable def s_impl_NearDay_5 : Shape := ⟨[(0, .c (.int .i64)), (1, .c (.int .i64)), (2, .c (.int .i64)), (3, .c (.int .i64)), (10, .c (.int .i64)), (11, .c (.bool)), (12, .c (.int .i64))], []⟩
noncomputable def s_impl_NearDay_8 : Shape := ⟨[(0, .c (.int .i64)), (1, .c (.int .i64)), (2, .c (.int .i64)), (3, .c (.int .i64)), (10, .c (.int .i64)), (11, .c (.bool)), (12, .c (.int .i64)), (13, .c (.int .i64))], []⟩
mutual
noncomputable def impl_NearDay_L5 : Nat → Int → Int → Int → Int → Int → Bool → Int → Option (Int × Bool)
  | 0, _, _, _, _, _, _, _ => none
  | k + 1, a0, a1, a2, a3, a4, a5, a6 =>
  bif decide (a6 ≤ 2100) then impl_NearDay_L8 k a0 a1 a2 a3 a4 a5 a6 1 else some (a4, a5)
noncomputable def impl_NearDay_L8 : Nat → Int → Int → Int → Int → Int → Bool → Int → Int → Option (Int × Bool)
  | 0, _, _, _, _, _, _, _, _ => none
  | k + 1, a0, a1, a2, a3, a4, a5, a6, a7 =>
  bif decide (a7 ≤ 12) then
   (impl_monthDays a6 a7).bind fun val => bif decide (a0 > val) then impl_NearDay_L8 k a0 a1 a2 a3 a4 a5 a6 (IntKind.i64.wrap (a7 + 1)) else (impl_daysTo a6 a7 a0).bind fun val => (impl_isTime (IntKind.i64.wrap (IntKind.i64.wrap (IntKind.i64.wrap (val * 1440) + IntKind.i64.wrap (a1 * 60)) + a2))).bind fun val_1 => bif !val_1 then impl_NearDay_L8 k a0 a1 a2 a3 a4 a5 a6 (IntKind.i64.wrap (a7 + 1)) else bif !a5 then impl_NearDay_L8 k a0 a1 a2 a3 (IntKind.i64.wrap (IntKind.i64.wrap (IntKind.i64.wrap (val * 1440) + IntKind.i64.wrap (a1 * 60)) + a2)) true a6 (IntKind.i64.wrap (a7 + 1)) else bif decide ((if IntKind.i64.wrap (a3 - IntKind.i64.wrap (IntKind.i64.wrap (IntKind.i64.wrap (val * 1440) + IntKind.i64.wrap (a1 * 60)) + a2)) > IntKind.i64.wrap (IntKind.i64.wrap (IntKind.i64.wrap (IntKind.i64.wrap (val * 1440) + IntKind.i64.wrap (a1 * 60)) + a2) - a3) then IntKind.i64.wrap (a3 - IntKind.i64.wrap (IntKind.i64.wrap (IntKind.i64.wrap (val * 1440) + IntKind.i64.wrap (a1 * 60)) + a2)) else IntKind.i64.wrap (IntKind.i64.wrap (IntKind.i64.wrap (IntKind.i64.wrap (val * 1440) + IntKind.i64.wrap (a1 * 60)) + a2) - a3)) < if IntKind.i64.wrap (a3 - a4) > IntKind.i64.wrap (a4 - a3) then IntKind.i64.wrap (a3 - a4) else IntKind.i64.wrap (a4 - a3)) then impl_NearDay_L8 k a0 a1 a2 a3 (IntKind.i64.wrap (IntKind.i64.wrap (IntKind.i64.wrap (val * 1440) + IntKind.i64.wrap (a1 * 60)) + a2)) true a6 (IntKind.i64.wrap (a7 + 1)) else impl_NearDay_L8 k a0 a1 a2 a3 a4 a5 a6 (IntKind.i64.wrap (a7 + 1))
  else impl_NearDay_L5 k a0 a1 a2 a3 a4 a5 (IntKind.i64.wrap (a6 + 1))
end
noncomputable def j_impl_NearDay : List (Nat × (Nat → Cut (Int × Bool))) := [(5, fun k => ⟨s_impl_NearDay_5, fun x => impl_NearDay_L5 k x.1.1 x.1.2.1 x.1.2.2.1 x.1.2.2.2.1 x.1.2.2.2.2.1 x.1.2.2.2.2.2.1 x.1.2.2.2.2.2.2.1⟩), (8, fun k => ⟨s_impl_NearDay_8, fun x => impl_NearDay_L8 k x.1.1 x.1.2.1 x.1.2.2.1 x.1.2.2.2.1 x.1.2.2.2.2.1 x.1.2.2.2.2.2.1 x.1.2.2.2.2.2.2.1 x.1.2.2.2.2.2.2.2.1⟩)]
noncomputable def impl_NearDay_F (k : Nat) (a0 : Int) (a1 : Int) (a2 : Int) (a3 : Int) : Option (Int × Bool) :=
  (impl_isTime a3).bind fun val => bif !val then some (0, false) else (impl_in a0 1 31).bind fun val => bif !val then some (0, false) else (impl_in a1 0 24).bind fun val => bif !val then some (0, false) else (impl_in a2 0 59).bind fun val => bif !val then some (0, false) else bif a1 == 24 then bif a2 != 0 then some (0, false) else impl_NearDay_L5 k a0 a1 a2 a3 0 false 2000 else impl_NearDay_L5 k a0 a1 a2 a3 0 false 2000
noncomputable def impl_NearDay (a0 : Int) (a1 : Int) (a2 : Int) (a3 : Int) : Option (Int × Bool) := evF fun k => impl_NearDay_F k a0 a1 a2 a3
noncomputable def g_impl_NearDay : Sg := ⟨i_impl_NearDay, o_impl_NearDay, Int × Bool, fun y => ((((y.1, ()), (y.2, ()), ()), ()), ()), fun x => impl_NearDay x.1.1 x.1.2.1 x.1.2.2.1 x.1.2.2.2.1⟩
noncomputable def C_impl_NearDay : Ctx := ⟨89, tiOf Tryd.prog, gl, sgOf [(92, g_impl_isTime), (73, g_impl_in), (94, g_impl_monthDays), (93, g_impl_daysTo)]⟩
noncomputable def r_impl_NearDay : AExit → Env → Option (Int × Bool) := retK C_impl_NearDay 0 o_impl_NearDay (fun y => (y.1.1.1.1, y.1.1.2.1.1)) Tryd.f42.results.toList
theorem e_impl_NearDay : Sound Tryd.prog gl 42 g_impl_NearDay :=
  sound_cuts (C := C_impl_NearDay) ⟨fun _ _ h => h, by kernel_rfl⟩ (sgOf_all' ⟨⟨by kernel_rfl, (Sound.mono gl_DT (by rfl) e_impl_isTime)⟩, ⟨by kernel_rfl, (Sound.mono gl_DT (by rfl) e_impl_in)⟩, ⟨by kernel_rfl, (Sound.mono gl_DT (by rfl) e_impl_monthDays)⟩, ⟨by kernel_rfl, (Sound.mono gl_DT (by rfl) e_impl_daysTo)⟩, trivial⟩) 42 Tryd.f42 g_impl_NearDay (fun y => (y.1.1.1.1, y.1.1.2.1.1)) j_impl_NearDay 2 (by kernel_rfl) (by kernel_rfl) (by kernel_rfl) (by kernel_rfl) (by kernel_rfl) (by kernel_rfl) (fun _ => rfl) (by kernel_rfl) (by kernel_rfl)
    ⟨⟨trivial, s_impl_NearDay_5, fun k x => impl_NearDay_L5 k x.1.1 x.1.2.1 x.1.2.2.1 x.1.2.2.2.1 x.1.2.2.2.2.1 x.1.2.2.2.2.2.1 x.1.2.2.2.2.2.2.1, ⟨fun k => by kernel_rfl, fun k y => by kernel_rfl, fun y => by kernel_rfl⟩⟩, s_impl_NearDay_8, fun k x => impl_NearDay_L8 k x.1.1 x.1.2.1 x.1.2.2.1 x.1.2.2.2.1 x.1.2.2.2.2.1 x.1.2.2.2.2.2.1 x.1.2.2.2.2.2.2.1 x.1.2.2.2.2.2.2.2.1, ⟨fun k => by kernel_rfl, fun k y => by kernel_rfl, fun y => by kernel_rfl⟩⟩
    (fun k x => impl_NearDay_F k x.1.1 x.1.2.1 x.1.2.2.1 x.1.2.2.2.1) (fun x => rfl) (fun k x => by kernel_rfl)
-- loop.example/g00051/laws.FnTimes
noncomputable def i_laws_FnTimes : Shape := ⟨[(0, .c (.sl (.int .u8))), (1, .c (.sl (.int .u8)))], []⟩
noncomputable def o_laws_FnTimes : Shape := ⟨[(0, .c (.bool))], []⟩
noncomputable def laws_FnTimes (a0 : List Int) (a1 : List Int) : Option (Bool) :=
  (laws_big a0).bind fun val =>
   bif val then some true
   else
    (laws_big a1).bind fun val =>
     bif val then some true
     else
      (spec_DrawStamp a0).bind fun val =>
       (spec_DrawStamp a1).bind fun val_1 =>
        (spec_DateOf val).bind fun val_2 =>
         bif !val_2.snd.snd.snd.snd.snd then (impl_DateOf val).bind fun val_3 => bif !val_3.snd.snd.snd.snd.snd then (impl_Stamp val).bind fun val => some (ByteArray.toList val == (bs []).toList) else some false
         else
          (impl_DateOf val).bind fun val_3 =>
           (impl_TimeOf val_3.fst val_3.snd.fst val_3.snd.snd.fst val_3.snd.snd.snd.fst val_3.snd.snd.snd.snd.fst).bind fun val_4 =>
            (impl_Stamp val).bind fun val_5 =>
             (impl_ReadStamp val_5).bind fun val_6 =>
              bif !val_3.snd.snd.snd.snd.snd then some false
              else
               bif !(val_3.fst == val_2.fst && (val_3.snd.fst == val_2.snd.fst && (val_3.snd.snd.fst == val_2.snd.snd.fst && (val_3.snd.snd.snd.fst == val_2.snd.snd.snd.fst && val_3.snd.snd.snd.snd.fst == val_2.snd.snd.snd.snd.fst)))) then some false
               else bif !val_4.snd then some false else bif val_4.fst != val then some false else bif !val_6.snd then some false else bif val_6.fst != val then some false else (spec_DateOf val_1).bind fun val_7 => bif !val_7.snd.snd.snd.snd.snd then some true else (impl_Stamp val).bind fun val_8 => (impl_Stamp val_1).bind fun val_9 => bif !decide (val < val_1) == Op.bytesLess (ByteArray.toList val_8) (ByteArray.toList val_9) then some false else bif decide ((if IntKind.i64.wrap (IntKind.i64.wrap (val - 18720) + Int.tmod val_1 37441) > 0 then IntKind.i64.wrap (IntKind.i64.wrap (val - 18720) + Int.tmod val_1 37441) else 0) > 52596000) then some true else (laws_abs (IntKind.i64.wrap ((if IntKind.i64.wrap (IntKind.i64.wrap (val - 18720) + Int.tmod val_1 37441) > 0 then IntKind.i64.wrap (IntKind.i64.wrap (val - 18720) + Int.tmod val_1 37441) else 0) - val))).bind fun val_10 => bif decide (val_10 > 18720) then some true else (impl_NearDay val_2.snd.snd.fst val_2.snd.snd.snd.fst val_2.snd.snd.snd.snd.fst (if IntKind.i64.wrap (IntKind.i64.wrap (val - 18720) + Int.tmod val_1 37441) > 0 then IntKind.i64.wrap (IntKind.i64.wrap (val - 18720) + Int.tmod val_1 37441) else 0)).bind fun val_11 => bif val_11.snd then some (val_11.fst == val) else some false
noncomputable def g_laws_FnTimes : Sg := ⟨i_laws_FnTimes, o_laws_FnTimes, Bool, fun y => ((y, ()), ()), fun x => laws_FnTimes x.1.1 x.1.2.1⟩
noncomputable def C_laws_FnTimes : Ctx := ⟨140, tiOf Tryd.prog, gl, sgOf [(34, g_laws_big), (35, g_spec_DrawStamp), (36, g_spec_DateOf), (37, g_impl_DateOf), (38, g_impl_Stamp), (39, g_impl_TimeOf), (40, g_impl_ReadStamp), (41, g_laws_abs), (42, g_impl_NearDay)]⟩
noncomputable def r_laws_FnTimes : AExit → Env → Option (Bool) := retK C_laws_FnTimes 0 o_laws_FnTimes (fun y => y.1.1) Tryd.f7.results.toList
theorem e_laws_FnTimes : Sound Tryd.prog gl 7 g_laws_FnTimes :=
  sound_plain (C := C_laws_FnTimes) ⟨fun _ _ h => h, by kernel_rfl⟩ (sgOf_all' ⟨⟨by kernel_rfl, e_laws_big⟩, ⟨by kernel_rfl, e_spec_DrawStamp⟩, ⟨by kernel_rfl, (Sound.mono gl_DT (by rfl) e_spec_DateOf)⟩, ⟨by kernel_rfl, (Sound.mono gl_DT (by rfl) e_impl_DateOf)⟩, ⟨by kernel_rfl, e_impl_Stamp⟩, ⟨by kernel_rfl, e_impl_TimeOf⟩, ⟨by kernel_rfl, e_impl_ReadStamp⟩, ⟨by kernel_rfl, e_laws_abs⟩, ⟨by kernel_rfl, e_impl_NearDay⟩, trivial⟩) 7 Tryd.f7 g_laws_FnTimes (fun y => y.1.1) (by kernel_rfl) (by kernel_rfl) (by kernel_rfl) (by kernel_rfl) (by kernel_rfl) (by kernel_rfl) (fun _ => rfl) (fun x => by kernel_rfl)
end Go.Proofs.YtmcmkdiefpepnaaDoor.TM
