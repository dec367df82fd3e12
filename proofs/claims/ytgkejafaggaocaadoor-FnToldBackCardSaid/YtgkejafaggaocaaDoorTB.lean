/-
  Part of a proof by the engine: texts that a program of ours printed, or plain lemmas on them. No condition but what each theorem says.
-/
import Derived.Test.YtgkejafaggaocaaDoorDT
import Derived.Test.YtgkejafaggaocaaDoorNR
import Derived.Test.YtgkejafaggaocaaDoorTD
import Derived.Test.YtgkejafaggaocaaDoorRN
import Derived.Test.YtgkejafaggaocaaDoorDR
import Derived.Test.YtgkejafaggaocaaDoorEng5
import Derived.Test.YtgkejafaggaocaaDoorProg
import Derived.KernelRfl
import Derived.Test.YtgkejafaggaocaaDoorDoors1
import Derived.Test.YtgkejafaggaocaaDoorDoors5
import Derived.Test.YtgkejafaggaocaaDoorDoors7
import Derived.Test.YtgkejafaggaocaaDoorDoorsF
set_option linter.unusedVariables false
set_option linter.unusedSimpArgs false
set_option maxRecDepth 100000
namespace Go.Proofs.YtgkejafaggaocaaDoor.TB
open Go Go.Eng Go.Proofs
open Go.Proofs.YtgkejafaggaocaaDoor.EX
open Go.Proofs.YtgkejafaggaocaaDoor.DT hiding gl
open Go.Proofs.YtgkejafaggaocaaDoor.NR hiding gl
open Go.Proofs.YtgkejafaggaocaaDoor.TD hiding gl
open Go.Proofs.YtgkejafaggaocaaDoor.RN hiding gl
open Go.Proofs.YtgkejafaggaocaaDoor.DR hiding gl
noncomputable def gl : Nat → Option (List Cell) := glOf [(4, L_strconv_uint64pow10.map (Cell.int .u64))]
theorem gl_DT : ∀ g cs, Go.Proofs.YtgkejafaggaocaaDoor.DT.gl g = some cs → gl g = some cs := glOf_mono (by intro p hp; simp only [List.mem_cons, List.not_mem_nil, or_false] at hp; subst hp <;> rfl)
theorem gl_NR : ∀ g cs, Go.Proofs.YtgkejafaggaocaaDoor.NR.gl g = some cs → gl g = some cs := glOf_mono (by intro p hp; cases hp)
theorem gl_TD : ∀ g cs, Go.Proofs.YtgkejafaggaocaaDoor.TD.gl g = some cs → gl g = some cs := glOf_mono (by intro p hp; simp only [List.mem_cons, List.not_mem_nil, or_false] at hp; subst hp <;> rfl)
theorem gl_RN : ∀ g cs, Go.Proofs.YtgkejafaggaocaaDoor.RN.gl g = some cs → gl g = some cs := glOf_mono (by intro p hp; simp only [List.mem_cons, List.not_mem_nil, or_false] at hp; subst hp <;> rfl)
theorem gl_DR : ∀ g cs, Go.Proofs.YtgkejafaggaocaaDoor.DR.gl g = some cs → gl g = some cs := glOf_mono (by intro p hp; cases hp)
-- loop.example/g00051/laws.big
noncomputable def i_laws_big : Shape := ⟨[(0, .c (.sl (.int .u8)))], []⟩
noncomputable def o_laws_big : Shape := ⟨[(0, .c (.bool))], []⟩
noncomputable def laws_big (a0 : List Int) : Option (Bool) :=
  some (decide ((↑a0.length : Int) > 1048576))
noncomputable def g_laws_big : Sg := ⟨i_laws_big, o_laws_big, Bool, fun y => ((y, ()), ()), fun x => laws_big x.1.1⟩
noncomputable def C_laws_big : Ctx := ⟨6, tiOf Tryd.prog, gl, sgOf [], []⟩
noncomputable def r_laws_big : AExit → Env → Option (Bool) := retK C_laws_big 0 o_laws_big (fun y => y.1.1) Tryd.f11.results.toList
theorem e_laws_big : Sound Tryd.prog gl 11 g_laws_big :=
  sound_plain (C := C_laws_big) ⟨fun _ _ h => h, by kernel_rfl⟩ (sgOf_all' trivial) 11 Tryd.f11 g_laws_big (fun y => y.1.1) (by kernel_rfl) (by kernel_rfl) (by kernel_rfl) (by kernel_rfl) (by kernel_rfl) (by kernel_rfl) (fun _ => rfl) (fun x => by kernel_rfl)
-- loop.example/g00051/spec.l1None
noncomputable def i_spec_l1None : Shape := ⟨[], []⟩
noncomputable def o_spec_l1None : Shape := ⟨[(0, .c (.flt))], []⟩
noncomputable def spec_l1None : Option (Nat) :=
  some (fdiv 0 0)
noncomputable def g_spec_l1None : Sg := ⟨i_spec_l1None, o_spec_l1None, Nat, fun y => ((y, ()), ()), fun x => spec_l1None ⟩
noncomputable def C_spec_l1None : Ctx := ⟨5, tiOf Tryd.prog, gl, sgOf [], []⟩
noncomputable def r_spec_l1None : AExit → Env → Option (Nat) := retK C_spec_l1None 0 o_spec_l1None (fun y => y.1.1) Tryd.f58.results.toList
theorem e_spec_l1None : Sound Tryd.prog gl 58 g_spec_l1None :=
  sound_plain (C := C_spec_l1None) ⟨fun _ _ h => h, by kernel_rfl⟩ (sgOf_all' trivial) 58 Tryd.f58 g_spec_l1None (fun y => y.1.1) (by kernel_rfl) (by kernel_rfl) (by kernel_rfl) (by kernel_rfl) (by kernel_rfl) (by kernel_rfl) (fun _ => rfl) (fun x => by kernel_rfl)
-- (*loop.example/g00051/spec.l1Rd).word
noncomputable def i_spec_l1Rd_word : Shape := ⟨[(0, .c (.ptr 0 0))], [.box 96 [.sl (.int .u8), .int .i64]]⟩
noncomputable def o_spec_l1Rd_word : Shape := ⟨[(0, .c (.int .u64))], [.box 96 [.sl (.int .u8), .int .i64]]⟩
noncomputable def s_spec_l1Rd_word_3 : Shape := ⟨[(0, .c (.ptr 0 0)), (3, .c (.int .u64)), (4, .c (.int .i64))], [.box 96 [.sl (.int .u8), .int .i64]]⟩
noncomputable def spec_l1Rd_word_L3 : Nat → Int → Int → (List Int) → Int → Option (Int × (List Int) × Int)
  | 0, _, _, _, _ => none
  | k + 1, a0, a1, a2, a3 =>
  bif decide (a1 < 8) then (spec_l1Rd_next a2 a3).bind fun val => spec_l1Rd_word_L3 k (IntKind.u64.wrap (↑(BitVec.ofInt IntKind.u64.bits (IntKind.u64.wrap (a0 * 2 ^ min (Int.toNat 8) IntKind.u64.bits)) ||| BitVec.ofInt IntKind.u64.bits (IntKind.u64.wrap val.fst)).toNat : Int)) (IntKind.i64.wrap (a1 + 1)) val.snd.fst val.snd.snd else some (a0, a2, a3)
noncomputable def j_spec_l1Rd_word : List (Nat × (Nat → Cut (Int × (List Int) × Int))) := [(3, fun k => ⟨s_spec_l1Rd_word_3, fun x => spec_l1Rd_word_L3 k x.1.2.1 x.1.2.2.1 x.2.1.1 x.2.1.2.1⟩)]
noncomputable def spec_l1Rd_word_F (k : Nat) (a0 : List Int) (a1 : Int) : Option (Int × (List Int) × Int) :=
  spec_l1Rd_word_L3 k 0 0 a0 a1
noncomputable def spec_l1Rd_word (a0 : List Int) (a1 : Int) : Option (Int × (List Int) × Int) := evF fun k => spec_l1Rd_word_F k a0 a1
noncomputable def g_spec_l1Rd_word : Sg := ⟨i_spec_l1Rd_word, o_spec_l1Rd_word, Int × (List Int) × Int, fun y => ((y.1, ()), ((y.2.1, y.2.2, ()), ())), fun x => spec_l1Rd_word x.2.1.1 x.2.1.2.1⟩
noncomputable def C_spec_l1Rd_word : Ctx := ⟨16, tiOf Tryd.prog, gl, sgOf [(82, g_spec_l1Rd_next)], []⟩
noncomputable def r_spec_l1Rd_word : AExit → Env → Option (Int × (List Int) × Int) := retK C_spec_l1Rd_word 1 o_spec_l1Rd_word (fun y => (y.1.1, y.2.1.1, y.2.1.2.1)) Tryd.f100.results.toList
theorem e_spec_l1Rd_word : Sound Tryd.prog gl 100 g_spec_l1Rd_word :=
  sound_cuts (C := C_spec_l1Rd_word) ⟨fun _ _ h => h, by kernel_rfl⟩ (sgOf_all' ⟨.inl ⟨by kernel_rfl, (Sound.mono gl_DR (by rfl) e_spec_l1Rd_next)⟩, trivial⟩) 100 Tryd.f100 g_spec_l1Rd_word (fun y => (y.1.1, y.2.1.1, y.2.1.2.1)) j_spec_l1Rd_word 1 (by kernel_rfl) (by kernel_rfl) (by kernel_rfl) (by kernel_rfl) (by kernel_rfl) (by kernel_rfl) (fun _ => rfl) (by kernel_rfl) (by kernel_rfl)
    ⟨trivial, s_spec_l1Rd_word_3, fun k x => spec_l1Rd_word_L3 k x.1.2.1 x.1.2.2.1 x.2.1.1 x.2.1.2.1, ⟨fun k => by kernel_rfl, fun k y => by kernel_rfl, fun y => by kernel_rfl⟩⟩
    (fun k x => spec_l1Rd_word_F k x.2.1.1 x.2.1.2.1) (fun x => rfl) (fun k x => by kernel_rfl)
-- (*loop.example/g00051/spec.l1Rd).number
noncomputable def i_spec_l1Rd_number : Shape := ⟨[(0, .c (.ptr 0 0))], [.box 96 [.sl (.int .u8), .int .i64]]⟩
noncomputable def o_spec_l1Rd_number : Shape := ⟨[(0, .c (.int .i64))], [.box 96 [.sl (.int .u8), .int .i64]]⟩
noncomputable def spec_l1Rd_number (a0 : List Int) (a1 : Int) : Option (Int × (List Int) × Int) :=
  (spec_l1Rd_below 5 a0 a1).bind fun val => bif val.fst == 0 then (spec_l1Rd_below 300 val.snd.fst val.snd.snd).bind fun val => some (IntKind.i64.wrap (val.fst - 4), val.snd.fst, val.snd.snd) else bif val.fst == 1 then (spec_l1Rd_below 12 val.snd.fst val.snd.snd).bind fun val => bif decide (0 ≤ val.fst) then bif decide (val.fst < (↑[0, 1, -1, 127, 128, 2147483648, 1000000000000000, 1000000000000001, -1000000000000000, 9007199254740993, 9223372036854775807, -9223372036854775808].length : Int)) then bif decide (val.fst < (↑[0, 1, -1, 127, 128, 2147483648, 1000000000000000, 1000000000000001, -1000000000000000, 9007199254740993, 9223372036854775807, -9223372036854775808].length : Int)) then some (rd (Kind.int IntKind.i64) [0, 1, -1, 127, 128, 2147483648, 1000000000000000, 1000000000000001, -1000000000000000, 9007199254740993, 9223372036854775807, -9223372036854775808] val.fst, val.snd.fst, val.snd.snd) else none else none else none else bif val.fst == 2 then (spec_l1Rd_word val.snd.fst val.snd.snd).bind fun val => (spec_l1Rd_below 60 val.snd.fst val.snd.snd).bind fun val_1 => bif decide (0 ≤ IntKind.u64.wrap (IntKind.i64.wrap (1 + val_1.fst))) then some (IntKind.i64.wrap (val.fst.fdiv (2 ^ min (IntKind.u64.wrap (IntKind.i64.wrap (1 + val_1.fst))).toNat IntKind.u64.bits)), val_1.snd.fst, val_1.snd.snd) else none else (spec_l1Rd_below 20 val.snd.fst val.snd.snd).bind fun val => some (val.fst, val.snd.fst, val.snd.snd)
noncomputable def g_spec_l1Rd_number : Sg := ⟨i_spec_l1Rd_number, o_spec_l1Rd_number, Int × (List Int) × Int, fun y => ((y.1, ()), ((y.2.1, y.2.2, ()), ())), fun x => spec_l1Rd_number x.2.1.1 x.2.1.2.1⟩
noncomputable def C_spec_l1Rd_number : Ctx := ⟨29, tiOf Tryd.prog, gl, sgOf [(36, g_spec_l1Rd_below), (100, g_spec_l1Rd_word)], []⟩
noncomputable def r_spec_l1Rd_number : AExit → Env → Option (Int × (List Int) × Int) := retK C_spec_l1Rd_number 1 o_spec_l1Rd_number (fun y => (y.1.1, y.2.1.1, y.2.1.2.1)) Tryd.f71.results.toList
theorem e_spec_l1Rd_number : Sound Tryd.prog gl 71 g_spec_l1Rd_number :=
  sound_plain (C := C_spec_l1Rd_number) ⟨fun _ _ h => h, by kernel_rfl⟩ (sgOf_all' ⟨.inl ⟨by kernel_rfl, (Sound.mono gl_DR (by rfl) e_spec_l1Rd_below)⟩, .inl ⟨by kernel_rfl, e_spec_l1Rd_word⟩, trivial⟩) 71 Tryd.f71 g_spec_l1Rd_number (fun y => (y.1.1, y.2.1.1, y.2.1.2.1)) (by kernel_rfl) (by kernel_rfl) (by kernel_rfl) (by kernel_rfl) (by kernel_rfl) (by kernel_rfl) (fun _ => rfl) (fun x => by kernel_rfl)
-- (*loop.example/g00051/spec.l1Rd).float
noncomputable def i_spec_l1Rd_float : Shape := ⟨[(0, .c (.ptr 0 0))], [.box 96 [.sl (.int .u8), .int .i64]]⟩
noncomputable def o_spec_l1Rd_float : Shape := ⟨[(0, .c (.flt))], [.box 96 [.sl (.int .u8), .int .i64]]⟩
noncomputable def spec_l1Rd_float (a0 : List Int) (a1 : Int) : Option (Nat × (List Int) × Int) :=
  (spec_l1Rd_below 8 a0 a1).bind fun val =>
   bif val.fst == 0 then spec_l1None.bind fun val_1 => some (val_1, val.snd.fst, val.snd.snd)
   else
    bif val.fst == 1 then (spec_l1Rd_below 16 val.snd.fst val.snd.snd).bind fun val => bif decide (0 ≤ val.fst) then bif decide (val.fst < (↑[0, fneg 0, 4602678819172646912, 13826050856027422720, 4609434218613702656, 4612811918334230528, 13836183955189006336, 4831355200913801216, 4831355200913801224, 14054727237768577024, 1, 9214871658872686752, fmul 9214871658872686752 4621819117588971520, fmul (fneg 9214871658872686752) 4621819117588971520, 4587366580439587226, 4598175219545276416].length : Int)) then bif decide (val.fst < (↑[0, fneg 0, 4602678819172646912, 13826050856027422720, 4609434218613702656, 4612811918334230528, 13836183955189006336, 4831355200913801216, 4831355200913801224, 14054727237768577024, 1, 9214871658872686752, fmul 9214871658872686752 4621819117588971520, fmul (fneg 9214871658872686752) 4621819117588971520, 4587366580439587226, 4598175219545276416].length : Int)) then some (rd Kind.flt [0, fneg 0, 4602678819172646912, 13826050856027422720, 4609434218613702656, 4612811918334230528, 13836183955189006336, 4831355200913801216, 4831355200913801224, 14054727237768577024, 1, 9214871658872686752, fmul 9214871658872686752 4621819117588971520, fmul (fneg 9214871658872686752) 4621819117588971520, 4587366580439587226, 4598175219545276416] val.fst, val.snd.fst, val.snd.snd) else none else none else none
    else bif val.fst == 2 then (spec_l1Rd_number val.snd.fst val.snd.snd).bind fun val => (spec_l1Rd_below 1000 val.snd.fst val.snd.snd).bind fun val_1 => some (fdiv (fofi val.fst) (fofi (IntKind.i64.wrap (1 + val_1.fst))), val_1.snd.fst, val_1.snd.snd) else bif val.fst == 3 then (spec_l1Rd_below 1000 val.snd.fst val.snd.snd).bind fun val => some (fneg (fdiv (fofi val.fst) 4621819117588971520), val.snd.fst, val.snd.snd) else (spec_l1Rd_below 1000 val.snd.fst val.snd.snd).bind fun val => some (fdiv (fofi val.fst) 4621819117588971520, val.snd.fst, val.snd.snd)
noncomputable def g_spec_l1Rd_float : Sg := ⟨i_spec_l1Rd_float, o_spec_l1Rd_float, Nat × (List Int) × Int, fun y => ((y.1, ()), ((y.2.1, y.2.2, ()), ())), fun x => spec_l1Rd_float x.2.1.1 x.2.1.2.1⟩
noncomputable def C_spec_l1Rd_float : Ctx := ⟨47, tiOf Tryd.prog, gl, sgOf [(36, g_spec_l1Rd_below), (58, g_spec_l1None), (71, g_spec_l1Rd_number)], []⟩
noncomputable def r_spec_l1Rd_float : AExit → Env → Option (Nat × (List Int) × Int) := retK C_spec_l1Rd_float 1 o_spec_l1Rd_float (fun y => (y.1.1, y.2.1.1, y.2.1.2.1)) Tryd.f69.results.toList
theorem e_spec_l1Rd_float : Sound Tryd.prog gl 69 g_spec_l1Rd_float :=
  sound_plain (C := C_spec_l1Rd_float) ⟨fun _ _ h => h, by kernel_rfl⟩ (sgOf_all' ⟨.inl ⟨by kernel_rfl, (Sound.mono gl_DR (by rfl) e_spec_l1Rd_below)⟩, .inl ⟨by kernel_rfl, e_spec_l1None⟩, .inl ⟨by kernel_rfl, e_spec_l1Rd_number⟩, trivial⟩) 69 Tryd.f69 g_spec_l1Rd_float (fun y => (y.1.1, y.2.1.1, y.2.1.2.1)) (by kernel_rfl) (by kernel_rfl) (by kernel_rfl) (by kernel_rfl) (by kernel_rfl) (by kernel_rfl) (fun _ => rfl) (fun x => by kernel_rfl)
-- loop.example/g00051/spec.DrawTold
noncomputable def i_spec_DrawTold : Shape := ⟨[(0, .c (.sl (.int .u8)))], []⟩
noncomputable def o_spec_DrawTold : Shape := ⟨[(0, .tup [(false, [.flt]), (false, [.int .i64])])], []⟩
noncomputable def spec_DrawTold (a0 : List Int) : Option (Nat × Int) :=
  (spec_l1Open a0).bind fun val => (spec_l1Rd_float val.fst val.snd).bind fun val => (spec_l1Rd_once 9 val.snd.fst val.snd.snd).bind fun val_1 => bif val_1.fst then (spec_l1Rd_number val_1.snd.fst val_1.snd.snd).bind fun val_2 => some (val.fst, val_2.fst) else (spec_l1Rd_below 7 val_1.snd.fst val_1.snd.snd).bind fun val_2 => some (val.fst, val_2.fst)
noncomputable def g_spec_DrawTold : Sg := ⟨i_spec_DrawTold, o_spec_DrawTold, Nat × Int, fun y => ((((y.1, ()), (y.2, ()), ()), ()), ()), fun x => spec_DrawTold x.1.1⟩
noncomputable def C_spec_DrawTold : Ctx := ⟨18, tiOf Tryd.prog, gl, sgOf [(34, g_spec_l1Open), (69, g_spec_l1Rd_float), (70, g_spec_l1Rd_once), (71, g_spec_l1Rd_number), (36, g_spec_l1Rd_below)], []⟩
noncomputable def r_spec_DrawTold : AExit → Env → Option (Nat × Int) := retK C_spec_DrawTold 0 o_spec_DrawTold (fun y => (y.1.1.1.1, y.1.1.2.1.1)) Tryd.f24.results.toList
theorem e_spec_DrawTold : Sound Tryd.prog gl 24 g_spec_DrawTold :=
  sound_plain (C := C_spec_DrawTold) ⟨fun _ _ h => h, by kernel_rfl⟩ (sgOf_all' ⟨.inl ⟨by kernel_rfl, (Sound.mono gl_DR (by rfl) e_spec_l1Open)⟩, .inl ⟨by kernel_rfl, e_spec_l1Rd_float⟩, .inl ⟨by kernel_rfl, (Sound.mono gl_DR (by rfl) e_spec_l1Rd_once)⟩, .inl ⟨by kernel_rfl, e_spec_l1Rd_number⟩, .inl ⟨by kernel_rfl, (Sound.mono gl_DR (by rfl) e_spec_l1Rd_below)⟩, trivial⟩) 24 Tryd.f24 g_spec_DrawTold (fun y => (y.1.1.1.1, y.1.1.2.1.1)) (by kernel_rfl) (by kernel_rfl) (by kernel_rfl) (by kernel_rfl) (by kernel_rfl) (by kernel_rfl) (fun _ => rfl) (fun x => by kernel_rfl)
-- loop.example/g00051/laws.FnToldBack
noncomputable def i_laws_FnToldBack : Shape := ⟨[(0, .c (.sl (.int .u8)))], []⟩
noncomputable def o_laws_FnToldBack : Shape := ⟨[(0, .c (.bool))], []⟩
noncomputable def laws_FnToldBack (a0 : List Int) : Option (Bool) :=
  (laws_big a0).bind fun val => bif val then some true else (spec_DrawTold a0).bind fun val => (spec_Told val.fst val.snd).bind fun val_1 => (impl_Told val.fst val.snd).bind fun val_2 => bif !ByteArray.toList val_2 == ByteArray.toList val_1 then some false else (impl_ReadNumber val_2).bind fun val_3 => bif ByteArray.toList val_1 == (bs []).toList then some !val_3.snd else bif ByteArray.toList val_1 == (bs [102, 97, 114]).toList then some !val_3.snd else bif val_3.snd then (impl_Told val_3.fst val.snd).bind fun val_4 => bif ByteArray.toList val_4 == ByteArray.toList val_1 then some (feq val.fst val.fst == feq val_3.fst val_3.fst) else some false else some false
noncomputable def g_laws_FnToldBack : Sg := ⟨i_laws_FnToldBack, o_laws_FnToldBack, Bool, fun y => ((y, ()), ()), fun x => laws_FnToldBack x.1.1⟩
noncomputable def C_laws_FnToldBack : Ctx := ⟨55, tiOf Tryd.prog, gl, sgOf [(11, g_laws_big), (24, g_spec_DrawTold), (25, g_spec_Told), (26, g_impl_Told), (22, g_impl_ReadNumber)], []⟩
noncomputable def r_laws_FnToldBack : AExit → Env → Option (Bool) := retK C_laws_FnToldBack 0 o_laws_FnToldBack (fun y => y.1.1) Tryd.f7.results.toList
theorem e_laws_FnToldBack : Sound Tryd.prog gl 7 g_laws_FnToldBack :=
  sound_plain (C := C_laws_FnToldBack) ⟨fun _ _ h => h, by kernel_rfl⟩ (sgOf_all' ⟨.inl ⟨by kernel_rfl, e_laws_big⟩, .inl ⟨by kernel_rfl, e_spec_DrawTold⟩, .inl ⟨by kernel_rfl, (Sound.mono gl_TD (by rfl) e_spec_Told)⟩, .inl ⟨by kernel_rfl, (Sound.mono gl_TD (by rfl) e_impl_Told)⟩, .inl ⟨by kernel_rfl, (Sound.mono gl_RN (by rfl) e_impl_ReadNumber)⟩, trivial⟩) 7 Tryd.f7 g_laws_FnToldBack (fun y => y.1.1) (by kernel_rfl) (by kernel_rfl) (by kernel_rfl) (by kernel_rfl) (by kernel_rfl) (by kernel_rfl) (fun _ => rfl) (fun x => by kernel_rfl)
end Go.Proofs.YtgkejafaggaocaaDoor.TB
