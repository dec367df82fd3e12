/-
  Part of a proof by the engine: texts that a program of ours printed, or plain lemmas on them. No condition but what each theorem says.
-/
import Derived.Test.YtondfjckadlabaaDoorDT
import Derived.Test.YtondfjckadlabaaDoorNR
import Derived.Test.YtondfjckadlabaaDoorEng5
import Derived.Test.YtondfjckadlabaaDoorProg
import Derived.KernelRfl
import Derived.Test.YtondfjckadlabaaDoorDoors1
import Derived.Test.YtondfjckadlabaaDoorDoorsG
set_option linter.unusedVariables false
set_option linter.unusedSimpArgs false
set_option maxRecDepth 100000
namespace Go.Proofs.YtondfjckadlabaaDoor.OT
open Go Go.Eng Go.Proofs
open Go.Proofs.YtondfjckadlabaaDoor.EX
open Go.Proofs.YtondfjckadlabaaDoor.DT hiding gl
open Go.Proofs.YtondfjckadlabaaDoor.NR hiding gl
noncomputable def gl : Nat → Option (List Cell) := glOf [(4, L_strconv_uint64pow10.map (Cell.int .u64))]
theorem gl_DT : ∀ g cs, Go.Proofs.YtondfjckadlabaaDoor.DT.gl g = some cs → gl g = some cs := glOf_mono (by intro p hp; simp only [List.mem_cons, List.not_mem_nil, or_false] at hp; subst hp <;> rfl)
theorem gl_NR : ∀ g cs, Go.Proofs.YtondfjckadlabaaDoor.NR.gl g = some cs → gl g = some cs := glOf_mono (by intro p hp; cases hp)
-- loop.example/g00051/laws.toObs
noncomputable def i_laws_toObs : Shape := ⟨[(0, .agg [.int .i64, .flt, .flt, .flt, .int .i64, .flt, .flt, .flt, .int .i64, .int .i64])], []⟩
noncomputable def o_laws_toObs : Shape := ⟨[(0, .agg [.int .i64, .flt, .flt, .flt, .int .i64, .flt, .flt, .flt, .int .i64, .int .i64])], []⟩
noncomputable def laws_toObs (a0 : Int) (a1 : Nat) (a2 : Nat) (a3 : Nat) (a4 : Int) (a5 : Nat) (a6 : Nat) (a7 : Nat) (a8 : Int) (a9 : Int) : Option (Int × Nat × Nat × Nat × Int × Nat × Nat × Nat × Int × Int) :=
  some (a0, a1, a2, a3, a4, a5, a6, a7, a8, a9)
noncomputable def g_laws_toObs : Sg := ⟨i_laws_toObs, o_laws_toObs, Int × Nat × Nat × Nat × Int × Nat × Nat × Nat × Int × Int, fun y => (((y.1, y.2.1, y.2.2.1, y.2.2.2.1, y.2.2.2.2.1, y.2.2.2.2.2.1, y.2.2.2.2.2.2.1, y.2.2.2.2.2.2.2.1, y.2.2.2.2.2.2.2.2.1, y.2.2.2.2.2.2.2.2.2, ()), ()), ()), fun x => laws_toObs x.1.1.1 x.1.1.2.1 x.1.1.2.2.1 x.1.1.2.2.2.1 x.1.1.2.2.2.2.1 x.1.1.2.2.2.2.2.1 x.1.1.2.2.2.2.2.2.1 x.1.1.2.2.2.2.2.2.2.1 x.1.1.2.2.2.2.2.2.2.2.1 x.1.1.2.2.2.2.2.2.2.2.2.1⟩
noncomputable def C_laws_toObs : Ctx := ⟨35, tiOf Tryd.prog, gl, sgOf [], []⟩
noncomputable def r_laws_toObs : AExit → Env → Option (Int × Nat × Nat × Nat × Int × Nat × Nat × Nat × Int × Int) := retK C_laws_toObs 0 o_laws_toObs (fun y => (y.1.1.1, y.1.1.2.1, y.1.1.2.2.1, y.1.1.2.2.2.1, y.1.1.2.2.2.2.1, y.1.1.2.2.2.2.2.1, y.1.1.2.2.2.2.2.2.1, y.1.1.2.2.2.2.2.2.2.1, y.1.1.2.2.2.2.2.2.2.2.1, y.1.1.2.2.2.2.2.2.2.2.2.1)) Tryd.f12.results.toList
theorem e_laws_toObs : Sound Tryd.prog gl 12 g_laws_toObs :=
  sound_plain (C := C_laws_toObs) ⟨fun _ _ h => h, by kernel_rfl⟩ (sgOf_all' trivial) 12 Tryd.f12 g_laws_toObs (fun y => (y.1.1.1, y.1.1.2.1, y.1.1.2.2.1, y.1.1.2.2.2.1, y.1.1.2.2.2.2.1, y.1.1.2.2.2.2.2.1, y.1.1.2.2.2.2.2.2.1, y.1.1.2.2.2.2.2.2.2.1, y.1.1.2.2.2.2.2.2.2.2.1, y.1.1.2.2.2.2.2.2.2.2.2.1)) (by kernel_rfl) (by kernel_rfl) (by kernel_rfl) (by kernel_rfl) (by kernel_rfl) (by kernel_rfl) (fun _ => rfl) (fun x => by kernel_rfl)
-- loop.example/g00051/spec.l5Is
noncomputable def i_spec_l5Is : Shape := ⟨[(0, .c (.flt)), (1, .c (.int .i64)), (2, .c (.int .i64))], []⟩
noncomputable def o_spec_l5Is : Shape := ⟨[(0, .tup [(false, [.int .i64]), (false, [.bool])])], []⟩
noncomputable def spec_l5Is (a0 : Nat) (a1 : Int) (a2 : Int) : Option (Int × Bool) :=
  (spec_Nearest a0).bind fun val => bif !val.snd then some (0, false) else bif decide (val.fst < a1) then some (0, false) else bif decide (val.fst > a2) then some (0, false) else (spec_Same a0 (fofi val.fst)).bind fun val_1 => bif !val_1 then some (0, false) else some (val.fst, true)
noncomputable def g_spec_l5Is : Sg := ⟨i_spec_l5Is, o_spec_l5Is, Int × Bool, fun y => ((((y.1, ()), (y.2, ()), ()), ()), ()), fun x => spec_l5Is x.1.1 x.1.2.1 x.1.2.2.1⟩
noncomputable def C_spec_l5Is : Ctx := ⟨35, tiOf Tryd.prog, gl, sgOf [(52, g_spec_Nearest), (53, g_spec_Same)], []⟩
noncomputable def r_spec_l5Is : AExit → Env → Option (Int × Bool) := retK C_spec_l5Is 0 o_spec_l5Is (fun y => (y.1.1.1.1, y.1.1.2.1.1)) Tryd.f32.results.toList
theorem e_spec_l5Is : Sound Tryd.prog gl 32 g_spec_l5Is :=
  sound_plain (C := C_spec_l5Is) ⟨fun _ _ h => h, by kernel_rfl⟩ (sgOf_all' ⟨.inl ⟨by kernel_rfl, (Sound.mono gl_NR (by rfl) e_spec_Nearest)⟩, .inl ⟨by kernel_rfl, (Sound.mono gl_NR (by rfl) e_spec_Same)⟩, trivial⟩) 32 Tryd.f32 g_spec_l5Is (fun y => (y.1.1.1.1, y.1.1.2.1.1)) (by kernel_rfl) (by kernel_rfl) (by kernel_rfl) (by kernel_rfl) (by kernel_rfl) (by kernel_rfl) (fun _ => rfl) (fun x => by kernel_rfl)
-- loop.example/g00051/spec.l5Tenths
noncomputable def i_spec_l5Tenths : Shape := ⟨[(0, .c (.flt)), (1, .c (.int .i64)), (2, .c (.int .i64))], []⟩
noncomputable def o_spec_l5Tenths : Shape := ⟨[(0, .tup [(false, [.int .i64]), (false, [.bool])])], []⟩
noncomputable def spec_l5Tenths (a0 : Nat) (a1 : Int) (a2 : Int) : Option (Int × Bool) :=
  (spec_Nearest (fmul a0 4621819117588971520)).bind fun val => bif !val.snd then some (0, false) else bif decide (val.fst < a1) then some (0, false) else bif decide (val.fst > a2) then some (0, false) else (spec_Same a0 (fdiv (fofi val.fst) 4621819117588971520)).bind fun val_1 => bif !val_1 then some (0, false) else some (val.fst, true)
noncomputable def g_spec_l5Tenths : Sg := ⟨i_spec_l5Tenths, o_spec_l5Tenths, Int × Bool, fun y => ((((y.1, ()), (y.2, ()), ()), ()), ()), fun x => spec_l5Tenths x.1.1 x.1.2.1 x.1.2.2.1⟩
noncomputable def C_spec_l5Tenths : Ctx := ⟨37, tiOf Tryd.prog, gl, sgOf [(52, g_spec_Nearest), (53, g_spec_Same)], []⟩
noncomputable def r_spec_l5Tenths : AExit → Env → Option (Int × Bool) := retK C_spec_l5Tenths 0 o_spec_l5Tenths (fun y => (y.1.1.1.1, y.1.1.2.1.1)) Tryd.f30.results.toList
theorem e_spec_l5Tenths : Sound Tryd.prog gl 30 g_spec_l5Tenths :=
  sound_plain (C := C_spec_l5Tenths) ⟨fun _ _ h => h, by kernel_rfl⟩ (sgOf_all' ⟨.inl ⟨by kernel_rfl, (Sound.mono gl_NR (by rfl) e_spec_Nearest)⟩, .inl ⟨by kernel_rfl, (Sound.mono gl_NR (by rfl) e_spec_Same)⟩, trivial⟩) 30 Tryd.f30 g_spec_l5Tenths (fun y => (y.1.1.1.1, y.1.1.2.1.1)) (by kernel_rfl) (by kernel_rfl) (by kernel_rfl) (by kernel_rfl) (by kernel_rfl) (by kernel_rfl) (fun _ => rfl) (fun x => by kernel_rfl)
-- loop.example/g00051/spec.l5Part
noncomputable def i_spec_l5Part : Shape := ⟨[(0, .c (.flt)), (1, .c (.int .i64)), (2, .c (.int .i64))], []⟩
noncomputable def o_spec_l5Part : Shape := ⟨[(0, .c (.bool))], []⟩
noncomputable def spec_l5Part (a0 : Nat) (a1 : Int) (a2 : Int) : Option (Bool) :=
  (spec_l5Tenths a0 a1 a2).bind fun val => bif !feq a0 a0 then some true else some val.snd
noncomputable def g_spec_l5Part : Sg := ⟨i_spec_l5Part, o_spec_l5Part, Bool, fun y => ((y, ()), ()), fun x => spec_l5Part x.1.1 x.1.2.1 x.1.2.2.1⟩
noncomputable def C_spec_l5Part : Ctx := ⟨22, tiOf Tryd.prog, gl, sgOf [(30, g_spec_l5Tenths)], []⟩
noncomputable def r_spec_l5Part : AExit → Env → Option (Bool) := retK C_spec_l5Part 0 o_spec_l5Part (fun y => y.1.1) Tryd.f50.results.toList
theorem e_spec_l5Part : Sound Tryd.prog gl 50 g_spec_l5Part :=
  sound_plain (C := C_spec_l5Part) ⟨fun _ _ h => h, by kernel_rfl⟩ (sgOf_all' ⟨.inl ⟨by kernel_rfl, e_spec_l5Tenths⟩, trivial⟩) 50 Tryd.f50 g_spec_l5Part (fun y => y.1.1) (by kernel_rfl) (by kernel_rfl) (by kernel_rfl) (by kernel_rfl) (by kernel_rfl) (by kernel_rfl) (fun _ => rfl) (fun x => by kernel_rfl)
-- loop.example/g00051/spec.l5WindOk
noncomputable def i_spec_l5WindOk : Shape := ⟨[(0, .agg [.int .i64, .flt, .flt, .flt, .int .i64, .flt, .flt, .flt, .int .i64, .int .i64])], []⟩
noncomputable def o_spec_l5WindOk : Shape := ⟨[(0, .c (.bool))], []⟩
noncomputable def spec_l5WindOk (a0 : Int) (a1 : Nat) (a2 : Nat) (a3 : Nat) (a4 : Int) (a5 : Nat) (a6 : Nat) (a7 : Nat) (a8 : Int) (a9 : Int) : Option (Bool) :=
  bif a4 == -1 then some !feq a5 a5 else (spec_l5Is a5 0 99).bind fun val => bif val.snd then (spec_l2In a4 0 36).bind fun val_1 => bif val_1 then some ((val.fst == 0) == (a4 == 0)) else some false else some false
noncomputable def g_spec_l5WindOk : Sg := ⟨i_spec_l5WindOk, o_spec_l5WindOk, Bool, fun y => ((y, ()), ()), fun x => spec_l5WindOk x.1.1.1 x.1.1.2.1 x.1.1.2.2.1 x.1.1.2.2.2.1 x.1.1.2.2.2.2.1 x.1.1.2.2.2.2.2.1 x.1.1.2.2.2.2.2.2.1 x.1.1.2.2.2.2.2.2.2.1 x.1.1.2.2.2.2.2.2.2.2.1 x.1.1.2.2.2.2.2.2.2.2.2.1⟩
noncomputable def C_spec_l5WindOk : Ctx := ⟨33, tiOf Tryd.prog, gl, sgOf [(32, g_spec_l5Is), (49, g_spec_l2In)], []⟩
noncomputable def r_spec_l5WindOk : AExit → Env → Option (Bool) := retK C_spec_l5WindOk 0 o_spec_l5WindOk (fun y => y.1.1) Tryd.f51.results.toList
theorem e_spec_l5WindOk : Sound Tryd.prog gl 51 g_spec_l5WindOk :=
  sound_plain (C := C_spec_l5WindOk) ⟨fun _ _ h => h, by kernel_rfl⟩ (sgOf_all' ⟨.inl ⟨by kernel_rfl, e_spec_l5Is⟩, .inl ⟨by kernel_rfl, (Sound.mono gl_DT (by rfl) e_spec_l2In)⟩, trivial⟩) 51 Tryd.f51 g_spec_l5WindOk (fun y => y.1.1) (by kernel_rfl) (by kernel_rfl) (by kernel_rfl) (by kernel_rfl) (by kernel_rfl) (by kernel_rfl) (fun _ => rfl) (fun x => by kernel_rfl)
-- loop.example/g00051/spec.ObsOk
noncomputable def i_spec_ObsOk : Shape := ⟨[(0, .agg [.int .i64, .flt, .flt, .flt, .int .i64, .flt, .flt, .flt, .int .i64, .int .i64])], []⟩
noncomputable def o_spec_ObsOk : Shape := ⟨[(0, .c (.bool))], []⟩
noncomputable def spec_ObsOk (a0 : Int) (a1 : Nat) (a2 : Nat) (a3 : Nat) (a4 : Int) (a5 : Nat) (a6 : Nat) (a7 : Nat) (a8 : Int) (a9 : Int) : Option (Bool) :=
  (spec_l5Is a6 0 99990).bind fun val =>
   bif feq a6 a6 then
    bif !val.snd then some false
    else
     bif val.fst.tmod 10 != 0 then some false
     else
      bif a8 == -1 then
       bif a9 == -1 then (spec_l2In a0 1 99999).bind fun val => bif val then (spec_l5Part a1 (-999) 999).bind fun val => bif val then (spec_l5Part a2 (-999) 999).bind fun val => bif val then (spec_l5Part a3 5000 14999).bind fun val => bif val then (spec_l5WindOk a0 a1 a2 a3 a4 a5 a6 a7 a8 a9).bind fun val => bif val then (spec_l5Part a7 0 9999).bind fun val => bif val then some true else some false else some false else some false else some false else some false else some false
       else (spec_l2In a8 0 99).bind fun val => bif val then (spec_l2In a9 0 8).bind fun val => (spec_l2In a0 1 99999).bind fun val_1 => bif val_1 then (spec_l5Part a1 (-999) 999).bind fun val_2 => bif val_2 then (spec_l5Part a2 (-999) 999).bind fun val_3 => bif val_3 then (spec_l5Part a3 5000 14999).bind fun val_4 => bif val_4 then (spec_l5WindOk a0 a1 a2 a3 a4 a5 a6 a7 a8 a9).bind fun val_5 => bif val_5 then (spec_l5Part a7 0 9999).bind fun val_6 => bif val_6 then some val else some false else some false else some false else some false else some false else some false else (spec_l2In a0 1 99999).bind fun val => bif val then (spec_l5Part a1 (-999) 999).bind fun val => bif val then (spec_l5Part a2 (-999) 999).bind fun val => bif val then (spec_l5Part a3 5000 14999).bind fun val => bif val then (spec_l5WindOk a0 a1 a2 a3 a4 a5 a6 a7 a8 a9).bind fun val => bif val then (spec_l5Part a7 0 9999).bind fun val => bif val then some false else some false else some false else some false else some false else some false else some false
      else (spec_l2In a8 0 99).bind fun val => bif val then (spec_l2In a9 0 8).bind fun val => (spec_l2In a0 1 99999).bind fun val_1 => bif val_1 then (spec_l5Part a1 (-999) 999).bind fun val_2 => bif val_2 then (spec_l5Part a2 (-999) 999).bind fun val_3 => bif val_3 then (spec_l5Part a3 5000 14999).bind fun val_4 => bif val_4 then (spec_l5WindOk a0 a1 a2 a3 a4 a5 a6 a7 a8 a9).bind fun val_5 => bif val_5 then (spec_l5Part a7 0 9999).bind fun val_6 => bif val_6 then some val else some false else some false else some false else some false else some false else some false else (spec_l2In a0 1 99999).bind fun val => bif val then (spec_l5Part a1 (-999) 999).bind fun val => bif val then (spec_l5Part a2 (-999) 999).bind fun val => bif val then (spec_l5Part a3 5000 14999).bind fun val => bif val then (spec_l5WindOk a0 a1 a2 a3 a4 a5 a6 a7 a8 a9).bind fun val => bif val then (spec_l5Part a7 0 9999).bind fun val => bif val then some false else some false else some false else some false else some false else some false else some false
   else
    bif a8 == -1 then
     bif a9 == -1 then (spec_l2In a0 1 99999).bind fun val => bif val then (spec_l5Part a1 (-999) 999).bind fun val => bif val then (spec_l5Part a2 (-999) 999).bind fun val => bif val then (spec_l5Part a3 5000 14999).bind fun val => bif val then (spec_l5WindOk a0 a1 a2 a3 a4 a5 a6 a7 a8 a9).bind fun val => bif val then (spec_l5Part a7 0 9999).bind fun val => bif val then some true else some false else some false else some false else some false else some false else some false
     else (spec_l2In a8 0 99).bind fun val => bif val then (spec_l2In a9 0 8).bind fun val => (spec_l2In a0 1 99999).bind fun val_1 => bif val_1 then (spec_l5Part a1 (-999) 999).bind fun val_2 => bif val_2 then (spec_l5Part a2 (-999) 999).bind fun val_3 => bif val_3 then (spec_l5Part a3 5000 14999).bind fun val_4 => bif val_4 then (spec_l5WindOk a0 a1 a2 a3 a4 a5 a6 a7 a8 a9).bind fun val_5 => bif val_5 then (spec_l5Part a7 0 9999).bind fun val_6 => bif val_6 then some val else some false else some false else some false else some false else some false else some false else (spec_l2In a0 1 99999).bind fun val => bif val then (spec_l5Part a1 (-999) 999).bind fun val => bif val then (spec_l5Part a2 (-999) 999).bind fun val => bif val then (spec_l5Part a3 5000 14999).bind fun val => bif val then (spec_l5WindOk a0 a1 a2 a3 a4 a5 a6 a7 a8 a9).bind fun val => bif val then (spec_l5Part a7 0 9999).bind fun val => bif val then some false else some false else some false else some false else some false else some false else some false
    else (spec_l2In a8 0 99).bind fun val => bif val then (spec_l2In a9 0 8).bind fun val => (spec_l2In a0 1 99999).bind fun val_1 => bif val_1 then (spec_l5Part a1 (-999) 999).bind fun val_2 => bif val_2 then (spec_l5Part a2 (-999) 999).bind fun val_3 => bif val_3 then (spec_l5Part a3 5000 14999).bind fun val_4 => bif val_4 then (spec_l5WindOk a0 a1 a2 a3 a4 a5 a6 a7 a8 a9).bind fun val_5 => bif val_5 then (spec_l5Part a7 0 9999).bind fun val_6 => bif val_6 then some val else some false else some false else some false else some false else some false else some false else (spec_l2In a0 1 99999).bind fun val => bif val then (spec_l5Part a1 (-999) 999).bind fun val => bif val then (spec_l5Part a2 (-999) 999).bind fun val => bif val then (spec_l5Part a3 5000 14999).bind fun val => bif val then (spec_l5WindOk a0 a1 a2 a3 a4 a5 a6 a7 a8 a9).bind fun val => bif val then (spec_l5Part a7 0 9999).bind fun val => bif val then some false else some false else some false else some false else some false else some false else some false
noncomputable def g_spec_ObsOk : Sg := ⟨i_spec_ObsOk, o_spec_ObsOk, Bool, fun y => ((y, ()), ()), fun x => spec_ObsOk x.1.1.1 x.1.1.2.1 x.1.1.2.2.1 x.1.1.2.2.2.1 x.1.1.2.2.2.2.1 x.1.1.2.2.2.2.2.1 x.1.1.2.2.2.2.2.2.1 x.1.1.2.2.2.2.2.2.2.1 x.1.1.2.2.2.2.2.2.2.2.1 x.1.1.2.2.2.2.2.2.2.2.2.1⟩
noncomputable def C_spec_ObsOk : Ctx := ⟨74, tiOf Tryd.prog, gl, sgOf [(32, g_spec_l5Is), (49, g_spec_l2In), (50, g_spec_l5Part), (51, g_spec_l5WindOk)], []⟩
noncomputable def r_spec_ObsOk : AExit → Env → Option (Bool) := retK C_spec_ObsOk 0 o_spec_ObsOk (fun y => y.1.1) Tryd.f28.results.toList
theorem e_spec_ObsOk : Sound Tryd.prog gl 28 g_spec_ObsOk :=
  sound_plain (C := C_spec_ObsOk) ⟨fun _ _ h => h, by kernel_rfl⟩ (sgOf_all' ⟨.inl ⟨by kernel_rfl, e_spec_l5Is⟩, .inl ⟨by kernel_rfl, (Sound.mono gl_DT (by rfl) e_spec_l2In)⟩, .inl ⟨by kernel_rfl, e_spec_l5Part⟩, .inl ⟨by kernel_rfl, e_spec_l5WindOk⟩, trivial⟩) 28 Tryd.f28 g_spec_ObsOk (fun y => y.1.1) (by kernel_rfl) (by kernel_rfl) (by kernel_rfl) (by kernel_rfl) (by kernel_rfl) (by kernel_rfl) (fun _ => rfl) (fun x => by kernel_rfl)
-- loop.example/g00051/spec.l5Signed
noncomputable def i_spec_l5Signed : Shape := ⟨[(0, .c (.int .i64))], []⟩
noncomputable def o_spec_l5Signed : Shape := ⟨[(0, .c (.str))], []⟩
noncomputable def spec_l5Signed (a0 : Int) : Option (ByteArray) :=
  bif decide (a0 < 0) then (spec_l2Pad (IntKind.i64.wrap (0 - a0)) 3).bind fun val => bif decide ((bs [49]).size + ByteArray.size val ≤ 9223372036854775807) then some (bs [49] ++ val) else none else (spec_l2Pad a0 3).bind fun val => bif decide ((bs [48]).size + ByteArray.size val ≤ 9223372036854775807) then some (bs [48] ++ val) else none
noncomputable def g_spec_l5Signed : Sg := ⟨i_spec_l5Signed, o_spec_l5Signed, ByteArray, fun y => ((y, ()), ()), fun x => spec_l5Signed x.1.1⟩
noncomputable def C_spec_l5Signed : Ctx := ⟨12, tiOf Tryd.prog, gl, sgOf [(29, g_spec_l2Pad)], []⟩
noncomputable def r_spec_l5Signed : AExit → Env → Option (ByteArray) := retK C_spec_l5Signed 0 o_spec_l5Signed (fun y => y.1.1) Tryd.f31.results.toList
theorem e_spec_l5Signed : Sound Tryd.prog gl 31 g_spec_l5Signed :=
  sound_plain (C := C_spec_l5Signed) ⟨fun _ _ h => h, by kernel_rfl⟩ (sgOf_all' ⟨.inl ⟨by kernel_rfl, (Sound.mono gl_DT (by rfl) e_spec_l2Pad)⟩, trivial⟩) 31 Tryd.f31 g_spec_l5Signed (fun y => y.1.1) (by kernel_rfl) (by kernel_rfl) (by kernel_rfl) (by kernel_rfl) (by kernel_rfl) (by kernel_rfl) (fun _ => rfl) (fun x => by kernel_rfl)
-- loop.example/g00051/spec.ObsText
noncomputable def i_spec_ObsText : Shape := ⟨[(0, .agg [.int .i64, .flt, .flt, .flt, .int .i64, .flt, .flt, .flt, .int .i64, .int .i64])], []⟩
noncomputable def o_spec_ObsText : Shape := ⟨[(0, .c (.str))], []⟩
noncomputable def s_spec_ObsText_7 : Shape := ⟨[(1, .c (.ptr 0 0)), (3, .c (.str))], [.box 34 [.int .i64, .flt, .flt, .flt, .int .i64, .flt, .flt, .flt, .int .i64, .int .i64]]⟩
noncomputable def s_spec_ObsText_10 : Shape := ⟨[(1, .c (.ptr 0 0)), (3, .c (.str))], [.box 34 [.int .i64, .flt, .flt, .flt, .int .i64, .flt, .flt, .flt, .int .i64, .int .i64]]⟩
noncomputable def s_spec_ObsText_13 : Shape := ⟨[(1, .c (.ptr 0 0)), (3, .c (.str))], [.box 34 [.int .i64, .flt, .flt, .flt, .int .i64, .flt, .flt, .flt, .int .i64, .int .i64]]⟩
noncomputable def s_spec_ObsText_16 : Shape := ⟨[(1, .c (.ptr 0 0)), (3, .c (.str))], [.box 34 [.int .i64, .flt, .flt, .flt, .int .i64, .flt, .flt, .flt, .int .i64, .int .i64]]⟩
noncomputable def s_spec_ObsText_19 : Shape := ⟨[(1, .c (.ptr 0 0)), (3, .c (.str))], [.box 34 [.int .i64, .flt, .flt, .flt, .int .i64, .flt, .flt, .flt, .int .i64, .int .i64]]⟩
noncomputable def s_spec_ObsText_22 : Shape := ⟨[(1, .c (.ptr 0 0)), (3, .c (.str))], [.box 34 [.int .i64, .flt, .flt, .flt, .int .i64, .flt, .flt, .flt, .int .i64, .int .i64]]⟩
noncomputable def s_spec_ObsText_24 : Shape := ⟨[(3, .c (.str))], []⟩
mutual
noncomputable def spec_ObsText_L7 : Nat → ByteArray → Int → Nat → Nat → Nat → Int → Nat → Nat → Nat → Int → Int → Option (ByteArray)
  | 0, _, _, _, _, _, _, _, _, _, _, _ => none
  | k + 1, a0, a1, a2, a3, a4, a5, a6, a7, a8, a9, a10 =>
  (spec_l5Tenths a3 (-999) 999).bind fun val => bif val.snd then bif decide (a0.size + (bs [32, 50]).size ≤ 9223372036854775807) then (spec_l5Signed val.fst).bind fun val => bif decide ((a0 ++ bs [32, 50]).size + ByteArray.size val ≤ 9223372036854775807) then spec_ObsText_L10 k (a0 ++ bs [32, 50] ++ val) a1 a2 a3 a4 a5 a6 a7 a8 a9 a10 else none else none else spec_ObsText_L10 k a0 a1 a2 a3 a4 a5 a6 a7 a8 a9 a10
noncomputable def spec_ObsText_L10 : Nat → ByteArray → Int → Nat → Nat → Nat → Int → Nat → Nat → Nat → Int → Int → Option (ByteArray)
  | 0, _, _, _, _, _, _, _, _, _, _, _ => none
  | k + 1, a0, a1, a2, a3, a4, a5, a6, a7, a8, a9, a10 =>
  (spec_l5Tenths a4 5000 14999).bind fun val => bif val.snd then bif decide (a0.size + (bs [32, 51]).size ≤ 9223372036854775807) then (spec_l2Pad (val.fst.tmod 10000) 4).bind fun val => bif decide ((a0 ++ bs [32, 51]).size + ByteArray.size val ≤ 9223372036854775807) then spec_ObsText_L13 k (a0 ++ bs [32, 51] ++ val) a1 a2 a3 a4 a5 a6 a7 a8 a9 a10 else none else none else spec_ObsText_L13 k a0 a1 a2 a3 a4 a5 a6 a7 a8 a9 a10
noncomputable def spec_ObsText_L13 : Nat → ByteArray → Int → Nat → Nat → Nat → Int → Nat → Nat → Nat → Int → Int → Option (ByteArray)
  | 0, _, _, _, _, _, _, _, _, _, _, _ => none
  | k + 1, a0, a1, a2, a3, a4, a5, a6, a7, a8, a9, a10 =>
  (spec_l5Is a6 0 99).bind fun val => bif val.snd then bif decide (a0.size + (bs [32, 52]).size ≤ 9223372036854775807) then (spec_l2Pad a5 2).bind fun val_1 => bif decide ((a0 ++ bs [32, 52]).size + ByteArray.size val_1 ≤ 9223372036854775807) then (spec_l2Pad val.fst 2).bind fun val => bif decide ((a0 ++ bs [32, 52] ++ val_1).size + ByteArray.size val ≤ 9223372036854775807) then spec_ObsText_L16 k (a0 ++ bs [32, 52] ++ val_1 ++ val) a1 a2 a3 a4 a5 a6 a7 a8 a9 a10 else none else none else none else spec_ObsText_L16 k a0 a1 a2 a3 a4 a5 a6 a7 a8 a9 a10
noncomputable def spec_ObsText_L16 : Nat → ByteArray → Int → Nat → Nat → Nat → Int → Nat → Nat → Nat → Int → Int → Option (ByteArray)
  | 0, _, _, _, _, _, _, _, _, _, _, _ => none
  | k + 1, a0, a1, a2, a3, a4, a5, a6, a7, a8, a9, a10 =>
  (spec_l5Is a7 0 99990).bind fun val => bif val.snd then bif decide (a0.size + (bs [32, 53]).size ≤ 9223372036854775807) then (spec_l2Pad (IntKind.i64.wrap (val.fst.tdiv 10)) 4).bind fun val => bif decide ((a0 ++ bs [32, 53]).size + ByteArray.size val ≤ 9223372036854775807) then spec_ObsText_L19 k (a0 ++ bs [32, 53] ++ val) a1 a2 a3 a4 a5 a6 a7 a8 a9 a10 else none else none else spec_ObsText_L19 k a0 a1 a2 a3 a4 a5 a6 a7 a8 a9 a10
noncomputable def spec_ObsText_L19 : Nat → ByteArray → Int → Nat → Nat → Nat → Int → Nat → Nat → Nat → Int → Int → Option (ByteArray)
  | 0, _, _, _, _, _, _, _, _, _, _, _ => none
  | k + 1, a0, a1, a2, a3, a4, a5, a6, a7, a8, a9, a10 =>
  (spec_l5Tenths a8 0 9999).bind fun val => bif val.snd then bif decide (a0.size + (bs [32, 54]).size ≤ 9223372036854775807) then (spec_l2Pad val.fst 4).bind fun val => bif decide ((a0 ++ bs [32, 54]).size + ByteArray.size val ≤ 9223372036854775807) then spec_ObsText_L22 k (a0 ++ bs [32, 54] ++ val) a1 a2 a3 a4 a5 a6 a7 a8 a9 a10 else none else none else spec_ObsText_L22 k a0 a1 a2 a3 a4 a5 a6 a7 a8 a9 a10
noncomputable def spec_ObsText_L22 : Nat → ByteArray → Int → Nat → Nat → Nat → Int → Nat → Nat → Nat → Int → Int → Option (ByteArray)
  | 0, _, _, _, _, _, _, _, _, _, _, _ => none
  | k + 1, a0, a1, a2, a3, a4, a5, a6, a7, a8, a9, a10 =>
  bif decide (a9 ≥ 0) then bif decide (a0.size + (bs [32, 55]).size ≤ 9223372036854775807) then (spec_l2Pad a9 2).bind fun val => bif decide ((a0 ++ bs [32, 55]).size + ByteArray.size val ≤ 9223372036854775807) then (spec_l1Dec a10).bind fun val_1 => bif decide ((a0 ++ bs [32, 55] ++ val).size + ByteArray.size val_1 ≤ 9223372036854775807) then bif decide ((a0 ++ bs [32, 55] ++ val ++ val_1).size + (bs [48]).size ≤ 9223372036854775807) then spec_ObsText_L24 k (a0 ++ bs [32, 55] ++ val ++ val_1 ++ bs [48]) else none else none else none else none else spec_ObsText_L24 k a0
noncomputable def spec_ObsText_L24 : Nat → ByteArray → Option (ByteArray)
  | 0, _ => none
  | k + 1, a0 =>
  bif decide (a0.size + (bs [61]).size ≤ 9223372036854775807) then some (a0 ++ bs [61]) else none
end
noncomputable def j_spec_ObsText : List (Nat × (Nat → Cut (ByteArray))) := [(7, fun k => ⟨s_spec_ObsText_7, fun x => spec_ObsText_L7 k x.1.2.1 x.2.1.1 x.2.1.2.1 x.2.1.2.2.1 x.2.1.2.2.2.1 x.2.1.2.2.2.2.1 x.2.1.2.2.2.2.2.1 x.2.1.2.2.2.2.2.2.1 x.2.1.2.2.2.2.2.2.2.1 x.2.1.2.2.2.2.2.2.2.2.1 x.2.1.2.2.2.2.2.2.2.2.2.1⟩), (10, fun k => ⟨s_spec_ObsText_10, fun x => spec_ObsText_L10 k x.1.2.1 x.2.1.1 x.2.1.2.1 x.2.1.2.2.1 x.2.1.2.2.2.1 x.2.1.2.2.2.2.1 x.2.1.2.2.2.2.2.1 x.2.1.2.2.2.2.2.2.1 x.2.1.2.2.2.2.2.2.2.1 x.2.1.2.2.2.2.2.2.2.2.1 x.2.1.2.2.2.2.2.2.2.2.2.1⟩), (13, fun k => ⟨s_spec_ObsText_13, fun x => spec_ObsText_L13 k x.1.2.1 x.2.1.1 x.2.1.2.1 x.2.1.2.2.1 x.2.1.2.2.2.1 x.2.1.2.2.2.2.1 x.2.1.2.2.2.2.2.1 x.2.1.2.2.2.2.2.2.1 x.2.1.2.2.2.2.2.2.2.1 x.2.1.2.2.2.2.2.2.2.2.1 x.2.1.2.2.2.2.2.2.2.2.2.1⟩), (16, fun k => ⟨s_spec_ObsText_16, fun x => spec_ObsText_L16 k x.1.2.1 x.2.1.1 x.2.1.2.1 x.2.1.2.2.1 x.2.1.2.2.2.1 x.2.1.2.2.2.2.1 x.2.1.2.2.2.2.2.1 x.2.1.2.2.2.2.2.2.1 x.2.1.2.2.2.2.2.2.2.1 x.2.1.2.2.2.2.2.2.2.2.1 x.2.1.2.2.2.2.2.2.2.2.2.1⟩), (19, fun k => ⟨s_spec_ObsText_19, fun x => spec_ObsText_L19 k x.1.2.1 x.2.1.1 x.2.1.2.1 x.2.1.2.2.1 x.2.1.2.2.2.1 x.2.1.2.2.2.2.1 x.2.1.2.2.2.2.2.1 x.2.1.2.2.2.2.2.2.1 x.2.1.2.2.2.2.2.2.2.1 x.2.1.2.2.2.2.2.2.2.2.1 x.2.1.2.2.2.2.2.2.2.2.2.1⟩), (22, fun k => ⟨s_spec_ObsText_22, fun x => spec_ObsText_L22 k x.1.2.1 x.2.1.1 x.2.1.2.1 x.2.1.2.2.1 x.2.1.2.2.2.1 x.2.1.2.2.2.2.1 x.2.1.2.2.2.2.2.1 x.2.1.2.2.2.2.2.2.1 x.2.1.2.2.2.2.2.2.2.1 x.2.1.2.2.2.2.2.2.2.2.1 x.2.1.2.2.2.2.2.2.2.2.2.1⟩), (24, fun k => ⟨s_spec_ObsText_24, fun x => spec_ObsText_L24 k x.1.1⟩)]
noncomputable def spec_ObsText_F (k : Nat) (a0 : Int) (a1 : Nat) (a2 : Nat) (a3 : Nat) (a4 : Int) (a5 : Nat) (a6 : Nat) (a7 : Nat) (a8 : Int) (a9 : Int) : Option (ByteArray) :=
  (spec_ObsOk a0 a1 a2 a3 a4 a5 a6 a7 a8 a9).bind fun val => bif !val then some (bs []) else (spec_l2Pad a0 5).bind fun val => (spec_l5Tenths a1 (-999) 999).bind fun val_1 => bif val_1.snd then bif decide (ByteArray.size val + (bs [32, 49]).size ≤ 9223372036854775807) then (spec_l5Signed val_1.fst).bind fun val_2 => bif decide ((val ++ bs [32, 49]).size + ByteArray.size val_2 ≤ 9223372036854775807) then spec_ObsText_L7 k (val ++ bs [32, 49] ++ val_2) a0 a1 a2 a3 a4 a5 a6 a7 a8 a9 else none else none else spec_ObsText_L7 k val a0 a1 a2 a3 a4 a5 a6 a7 a8 a9
noncomputable def spec_ObsText (a0 : Int) (a1 : Nat) (a2 : Nat) (a3 : Nat) (a4 : Int) (a5 : Nat) (a6 : Nat) (a7 : Nat) (a8 : Int) (a9 : Int) : Option (ByteArray) := evF fun k => spec_ObsText_F k a0 a1 a2 a3 a4 a5 a6 a7 a8 a9
noncomputable def g_spec_ObsText : Sg := ⟨i_spec_ObsText, o_spec_ObsText, ByteArray, fun y => ((y, ()), ()), fun x => spec_ObsText x.1.1.1 x.1.1.2.1 x.1.1.2.2.1 x.1.1.2.2.2.1 x.1.1.2.2.2.2.1 x.1.1.2.2.2.2.2.1 x.1.1.2.2.2.2.2.2.1 x.1.1.2.2.2.2.2.2.2.1 x.1.1.2.2.2.2.2.2.2.2.1 x.1.1.2.2.2.2.2.2.2.2.2.1⟩
noncomputable def C_spec_ObsText : Ctx := ⟨116, tiOf Tryd.prog, gl, sgOf [(28, g_spec_ObsOk), (29, g_spec_l2Pad), (30, g_spec_l5Tenths), (31, g_spec_l5Signed), (32, g_spec_l5Is), (33, g_spec_l1Dec)], []⟩
noncomputable def r_spec_ObsText : AExit → Env → Option (ByteArray) := retK C_spec_ObsText 0 o_spec_ObsText (fun y => y.1.1) Tryd.f11.results.toList
theorem e_spec_ObsText : Sound Tryd.prog gl 11 g_spec_ObsText :=
  sound_cuts (C := C_spec_ObsText) ⟨fun _ _ h => h, by kernel_rfl⟩ (sgOf_all' ⟨.inl ⟨by kernel_rfl, e_spec_ObsOk⟩, .inl ⟨by kernel_rfl, (Sound.mono gl_DT (by rfl) e_spec_l2Pad)⟩, .inl ⟨by kernel_rfl, e_spec_l5Tenths⟩, .inl ⟨by kernel_rfl, e_spec_l5Signed⟩, .inl ⟨by kernel_rfl, e_spec_l5Is⟩, .inl ⟨by kernel_rfl, (Sound.mono gl_DT (by rfl) e_spec_l1Dec)⟩, trivial⟩) 11 Tryd.f11 g_spec_ObsText (fun y => y.1.1) j_spec_ObsText 7 (by kernel_rfl) (by kernel_rfl) (by kernel_rfl) (by kernel_rfl) (by kernel_rfl) (by kernel_rfl) (fun _ => rfl) (by kernel_rfl) (by kernel_rfl)
    ⟨⟨⟨⟨⟨⟨⟨trivial, s_spec_ObsText_7, fun k x => spec_ObsText_L7 k x.1.2.1 x.2.1.1 x.2.1.2.1 x.2.1.2.2.1 x.2.1.2.2.2.1 x.2.1.2.2.2.2.1 x.2.1.2.2.2.2.2.1 x.2.1.2.2.2.2.2.2.1 x.2.1.2.2.2.2.2.2.2.1 x.2.1.2.2.2.2.2.2.2.2.1 x.2.1.2.2.2.2.2.2.2.2.2.1, ⟨fun k => by kernel_rfl, fun k y => by kernel_rfl, fun y => by kernel_rfl⟩⟩, s_spec_ObsText_10, fun k x => spec_ObsText_L10 k x.1.2.1 x.2.1.1 x.2.1.2.1 x.2.1.2.2.1 x.2.1.2.2.2.1 x.2.1.2.2.2.2.1 x.2.1.2.2.2.2.2.1 x.2.1.2.2.2.2.2.2.1 x.2.1.2.2.2.2.2.2.2.1 x.2.1.2.2.2.2.2.2.2.2.1 x.2.1.2.2.2.2.2.2.2.2.2.1, ⟨fun k => by kernel_rfl, fun k y => by kernel_rfl, fun y => by kernel_rfl⟩⟩, s_spec_ObsText_13, fun k x => spec_ObsText_L13 k x.1.2.1 x.2.1.1 x.2.1.2.1 x.2.1.2.2.1 x.2.1.2.2.2.1 x.2.1.2.2.2.2.1 x.2.1.2.2.2.2.2.1 x.2.1.2.2.2.2.2.2.1 x.2.1.2.2.2.2.2.2.2.1 x.2.1.2.2.2.2.2.2.2.2.1 x.2.1.2.2.2.2.2.2.2.2.2.1, ⟨fun k => by kernel_rfl, fun k y => by kernel_rfl, fun y => by kernel_rfl⟩⟩, s_spec_ObsText_16, fun k x => spec_ObsText_L16 k x.1.2.1 x.2.1.1 x.2.1.2.1 x.2.1.2.2.1 x.2.1.2.2.2.1 x.2.1.2.2.2.2.1 x.2.1.2.2.2.2.2.1 x.2.1.2.2.2.2.2.2.1 x.2.1.2.2.2.2.2.2.2.1 x.2.1.2.2.2.2.2.2.2.2.1 x.2.1.2.2.2.2.2.2.2.2.2.1, ⟨fun k => by kernel_rfl, fun k y => by kernel_rfl, fun y => by kernel_rfl⟩⟩, s_spec_ObsText_19, fun k x => spec_ObsText_L19 k x.1.2.1 x.2.1.1 x.2.1.2.1 x.2.1.2.2.1 x.2.1.2.2.2.1 x.2.1.2.2.2.2.1 x.2.1.2.2.2.2.2.1 x.2.1.2.2.2.2.2.2.1 x.2.1.2.2.2.2.2.2.2.1 x.2.1.2.2.2.2.2.2.2.2.1 x.2.1.2.2.2.2.2.2.2.2.2.1, ⟨fun k => by kernel_rfl, fun k y => by kernel_rfl, fun y => by kernel_rfl⟩⟩, s_spec_ObsText_22, fun k x => spec_ObsText_L22 k x.1.2.1 x.2.1.1 x.2.1.2.1 x.2.1.2.2.1 x.2.1.2.2.2.1 x.2.1.2.2.2.2.1 x.2.1.2.2.2.2.2.1 x.2.1.2.2.2.2.2.2.1 x.2.1.2.2.2.2.2.2.2.1 x.2.1.2.2.2.2.2.2.2.2.1 x.2.1.2.2.2.2.2.2.2.2.2.1, ⟨fun k => by kernel_rfl, fun k y => by kernel_rfl, fun y => by kernel_rfl⟩⟩, s_spec_ObsText_24, fun k x => spec_ObsText_L24 k x.1.1, ⟨fun k => by kernel_rfl, fun k y => by kernel_rfl, fun y => by kernel_rfl⟩⟩
    (fun k x => spec_ObsText_F k x.1.1.1 x.1.1.2.1 x.1.1.2.2.1 x.1.1.2.2.2.1 x.1.1.2.2.2.2.1 x.1.1.2.2.2.2.2.1 x.1.1.2.2.2.2.2.2.1 x.1.1.2.2.2.2.2.2.2.1 x.1.1.2.2.2.2.2.2.2.2.1 x.1.1.2.2.2.2.2.2.2.2.2.1) (fun x => rfl) (fun k x => by kernel_rfl)
-- loop.example/g00051/impl.inTenths
noncomputable def i_impl_inTenths : Shape := ⟨[(0, .c (.flt)), (1, .c (.int .i64)), (2, .c (.int .i64))], []⟩
noncomputable def o_impl_inTenths : Shape := ⟨[(0, .tup [(false, [.int .i64]), (false, [.bool])])], []⟩
noncomputable def impl_inTenths (a0 : Nat) (a1 : Int) (a2 : Int) : Option (Int × Bool) :=
  (impl_Known a0).bind fun val => bif !val then some (0, false) else (math_Abs a0).bind fun val => bif fgt val 4681608360884174848 then some (0, false) else (math_Round (fmul a0 4621819117588971520)).bind fun val => (floatToIntVal FloatKind.f64 val IntKind.i64).bind fun val => (impl_in val a1 a2).bind fun val_1 => bif val_1 then (impl_Same (fdiv (fofi val) 4621819117588971520) a0).bind fun val_2 => some (val, val_2) else some (val, false)
noncomputable def g_impl_inTenths : Sg := ⟨i_impl_inTenths, o_impl_inTenths, Int × Bool, fun y => ((((y.1, ()), (y.2, ()), ()), ()), ()), fun x => impl_inTenths x.1.1 x.1.2.1 x.1.2.2.1⟩
noncomputable def C_impl_inTenths : Ctx := ⟨33, tiOf Tryd.prog, gl, sgOf [(56, g_impl_Known), (57, g_math_Abs), (58, g_math_Round), (18, g_impl_in), (59, g_impl_Same)], []⟩
noncomputable def r_impl_inTenths : AExit → Env → Option (Int × Bool) := retK C_impl_inTenths 0 o_impl_inTenths (fun y => (y.1.1.1.1, y.1.1.2.1.1)) Tryd.f38.results.toList
theorem e_impl_inTenths : Sound Tryd.prog gl 38 g_impl_inTenths :=
  sound_plain (C := C_impl_inTenths) ⟨fun _ _ h => h, by kernel_rfl⟩ (sgOf_all' ⟨.inl ⟨by kernel_rfl, (Sound.mono gl_NR (by rfl) e_impl_Known)⟩, .inl ⟨by kernel_rfl, (Sound.mono gl_NR (by rfl) e_math_Abs)⟩, .inl ⟨by kernel_rfl, (Sound.mono gl_NR (by rfl) e_math_Round)⟩, .inl ⟨by kernel_rfl, (Sound.mono gl_DT (by rfl) e_impl_in)⟩, .inl ⟨by kernel_rfl, (Sound.mono gl_NR (by rfl) e_impl_Same)⟩, trivial⟩) 38 Tryd.f38 g_impl_inTenths (fun y => (y.1.1.1.1, y.1.1.2.1.1)) (by kernel_rfl) (by kernel_rfl) (by kernel_rfl) (by kernel_rfl) (by kernel_rfl) (by kernel_rfl) (fun _ => rfl) (fun x => by kernel_rfl)
-- loop.example/g00051/impl.ObsOk$1
noncomputable def i_impl_ObsOk_1 : Shape := ⟨[(0, .c (.flt)), (1, .c (.int .i64)), (2, .c (.int .i64))], []⟩
noncomputable def o_impl_ObsOk_1 : Shape := ⟨[(0, .c (.bool))], []⟩
noncomputable def impl_ObsOk_1 (a0 : Nat) (a1 : Int) (a2 : Int) : Option (Bool) :=
  (impl_inTenths a0 a1 a2).bind fun val => (impl_missing a0).bind fun val_1 => bif val_1 then some true else some val.snd
noncomputable def g_impl_ObsOk_1 : Sg := ⟨i_impl_ObsOk_1, o_impl_ObsOk_1, Bool, fun y => ((y, ()), ()), fun x => impl_ObsOk_1 x.1.1 x.1.2.1 x.1.2.2.1⟩
noncomputable def C_impl_ObsOk_1 : Ctx := ⟨21, tiOf Tryd.prog, gl, sgOf [(38, g_impl_inTenths), (37, g_impl_missing)], []⟩
noncomputable def r_impl_ObsOk_1 : AExit → Env → Option (Bool) := retK C_impl_ObsOk_1 0 o_impl_ObsOk_1 (fun y => y.1.1) Tryd.f54.results.toList
theorem e_impl_ObsOk_1 : Sound Tryd.prog gl 54 g_impl_ObsOk_1 :=
  sound_plain (C := C_impl_ObsOk_1) ⟨fun _ _ h => h, by kernel_rfl⟩ (sgOf_all' ⟨.inl ⟨by kernel_rfl, e_impl_inTenths⟩, .inl ⟨by kernel_rfl, (Sound.mono gl_NR (by rfl) e_impl_missing)⟩, trivial⟩) 54 Tryd.f54 g_impl_ObsOk_1 (fun y => y.1.1) (by kernel_rfl) (by kernel_rfl) (by kernel_rfl) (by kernel_rfl) (by kernel_rfl) (by kernel_rfl) (fun _ => rfl) (fun x => by kernel_rfl)
-- loop.example/g00051/impl.wholeOf
noncomputable def i_impl_wholeOf : Shape := ⟨[(0, .c (.flt)), (1, .c (.int .i64)), (2, .c (.int .i64))], []⟩
noncomputable def o_impl_wholeOf : Shape := ⟨[(0, .tup [(false, [.int .i64]), (false, [.bool])])], []⟩
noncomputable def impl_wholeOf (a0 : Nat) (a1 : Int) (a2 : Int) : Option (Int × Bool) :=
  (impl_Known a0).bind fun val => bif !val then some (0, false) else (math_Abs a0).bind fun val => bif fgt val 4831355200913801216 then some (0, false) else (floatToIntVal FloatKind.f64 a0 IntKind.i64).bind fun val => (impl_in val a1 a2).bind fun val_1 => bif val_1 then (impl_Same (fofi val) a0).bind fun val_2 => some (val, val_2) else some (val, false)
noncomputable def g_impl_wholeOf : Sg := ⟨i_impl_wholeOf, o_impl_wholeOf, Int × Bool, fun y => ((((y.1, ()), (y.2, ()), ()), ()), ()), fun x => impl_wholeOf x.1.1 x.1.2.1 x.1.2.2.1⟩
noncomputable def C_impl_wholeOf : Ctx := ⟨30, tiOf Tryd.prog, gl, sgOf [(56, g_impl_Known), (57, g_math_Abs), (18, g_impl_in), (59, g_impl_Same)], []⟩
noncomputable def r_impl_wholeOf : AExit → Env → Option (Int × Bool) := retK C_impl_wholeOf 0 o_impl_wholeOf (fun y => (y.1.1.1.1, y.1.1.2.1.1)) Tryd.f39.results.toList
theorem e_impl_wholeOf : Sound Tryd.prog gl 39 g_impl_wholeOf :=
  sound_plain (C := C_impl_wholeOf) ⟨fun _ _ h => h, by kernel_rfl⟩ (sgOf_all' ⟨.inl ⟨by kernel_rfl, (Sound.mono gl_NR (by rfl) e_impl_Known)⟩, .inl ⟨by kernel_rfl, (Sound.mono gl_NR (by rfl) e_math_Abs)⟩, .inl ⟨by kernel_rfl, (Sound.mono gl_DT (by rfl) e_impl_in)⟩, .inl ⟨by kernel_rfl, (Sound.mono gl_NR (by rfl) e_impl_Same)⟩, trivial⟩) 39 Tryd.f39 g_impl_wholeOf (fun y => (y.1.1.1.1, y.1.1.2.1.1)) (by kernel_rfl) (by kernel_rfl) (by kernel_rfl) (by kernel_rfl) (by kernel_rfl) (by kernel_rfl) (fun _ => rfl) (fun x => by kernel_rfl)
-- loop.example/g00051/impl.ObsOk
noncomputable def i_impl_ObsOk : Shape := ⟨[(0, .agg [.int .i64, .flt, .flt, .flt, .int .i64, .flt, .flt, .flt, .int .i64, .int .i64])], []⟩
noncomputable def o_impl_ObsOk : Shape := ⟨[(0, .c (.bool))], []⟩
noncomputable def s_impl_ObsOk_10 : Shape := ⟨[(1, .c (.ptr 0 0))], [.box 34 [.int .i64, .flt, .flt, .flt, .int .i64, .flt, .flt, .flt, .int .i64, .int .i64]]⟩
noncomputable def impl_ObsOk_L10 : Nat → Int → Nat → Nat → Nat → Int → Nat → Nat → Nat → Int → Int → Option (Bool)
  | 0, _, _, _, _, _, _, _, _, _, _ => none
  | k + 1, a0, a1, a2, a3, a4, a5, a6, a7, a8, a9 =>
  (impl_wholeOf a6 0 99990).bind fun val => (impl_missing a6).bind fun val_1 => bif !val_1 then bif !val.snd then some false else bif val.fst.tmod 10 != 0 then some false else bif a8 == -1 then bif a9 == -1 then some true else (impl_in a8 0 99).bind fun val => bif val then (impl_in a9 0 8).bind fun val => some val else some false else (impl_in a8 0 99).bind fun val => bif val then (impl_in a9 0 8).bind fun val => some val else some false else bif a8 == -1 then bif a9 == -1 then some true else (impl_in a8 0 99).bind fun val => bif val then (impl_in a9 0 8).bind fun val => some val else some false else (impl_in a8 0 99).bind fun val => bif val then (impl_in a9 0 8).bind fun val => some val else some false
noncomputable def j_impl_ObsOk : List (Nat × (Nat → Cut (Bool))) := [(10, fun k => ⟨s_impl_ObsOk_10, fun x => impl_ObsOk_L10 k x.2.1.1 x.2.1.2.1 x.2.1.2.2.1 x.2.1.2.2.2.1 x.2.1.2.2.2.2.1 x.2.1.2.2.2.2.2.1 x.2.1.2.2.2.2.2.2.1 x.2.1.2.2.2.2.2.2.2.1 x.2.1.2.2.2.2.2.2.2.2.1 x.2.1.2.2.2.2.2.2.2.2.2.1⟩)]
noncomputable def impl_ObsOk_F (k : Nat) (a0 : Int) (a1 : Nat) (a2 : Nat) (a3 : Nat) (a4 : Int) (a5 : Nat) (a6 : Nat) (a7 : Nat) (a8 : Int) (a9 : Int) : Option (Bool) :=
  (impl_in a0 1 99999).bind fun val => bif !val then some false else (impl_ObsOk_1 a1 (-999) 999).bind fun val => bif !val then some false else (impl_ObsOk_1 a2 (-999) 999).bind fun val => bif !val then some false else (impl_ObsOk_1 a3 5000 14999).bind fun val => bif !val then some false else (impl_ObsOk_1 a7 0 9999).bind fun val => bif !val then some false else bif a4 == -1 then (impl_missing a5).bind fun val => bif !val then some false else impl_ObsOk_L10 k a0 a1 a2 a3 a4 a5 a6 a7 a8 a9 else (impl_wholeOf a5 0 99).bind fun val => bif !val.snd then some false else (impl_in a4 0 36).bind fun val_1 => bif !val_1 then some false else bif !(val.fst == 0) == (a4 == 0) then some false else impl_ObsOk_L10 k a0 a1 a2 a3 a4 a5 a6 a7 a8 a9
noncomputable def impl_ObsOk (a0 : Int) (a1 : Nat) (a2 : Nat) (a3 : Nat) (a4 : Int) (a5 : Nat) (a6 : Nat) (a7 : Nat) (a8 : Int) (a9 : Int) : Option (Bool) := evF fun k => impl_ObsOk_F k a0 a1 a2 a3 a4 a5 a6 a7 a8 a9
noncomputable def g_impl_ObsOk : Sg := ⟨i_impl_ObsOk, o_impl_ObsOk, Bool, fun y => ((y, ()), ()), fun x => impl_ObsOk x.1.1.1 x.1.1.2.1 x.1.1.2.2.1 x.1.1.2.2.2.1 x.1.1.2.2.2.2.1 x.1.1.2.2.2.2.2.1 x.1.1.2.2.2.2.2.2.1 x.1.1.2.2.2.2.2.2.2.1 x.1.1.2.2.2.2.2.2.2.2.1 x.1.1.2.2.2.2.2.2.2.2.2.1⟩
noncomputable def C_impl_ObsOk : Ctx := ⟨106, tiOf Tryd.prog, gl, sgOf [(54, g_impl_ObsOk_1), (18, g_impl_in), (37, g_impl_missing), (39, g_impl_wholeOf)], []⟩
noncomputable def r_impl_ObsOk : AExit → Env → Option (Bool) := retK C_impl_ObsOk 0 o_impl_ObsOk (fun y => y.1.1) Tryd.f34.results.toList
theorem e_impl_ObsOk : Sound Tryd.prog gl 34 g_impl_ObsOk :=
  sound_cuts (C := C_impl_ObsOk) ⟨fun _ _ h => h, by kernel_rfl⟩ (sgOf_all' ⟨.inl ⟨by kernel_rfl, e_impl_ObsOk_1⟩, .inl ⟨by kernel_rfl, (Sound.mono gl_DT (by rfl) e_impl_in)⟩, .inl ⟨by kernel_rfl, (Sound.mono gl_NR (by rfl) e_impl_missing)⟩, .inl ⟨by kernel_rfl, e_impl_wholeOf⟩, trivial⟩) 34 Tryd.f34 g_impl_ObsOk (fun y => y.1.1) j_impl_ObsOk 1 (by kernel_rfl) (by kernel_rfl) (by kernel_rfl) (by kernel_rfl) (by kernel_rfl) (by kernel_rfl) (fun _ => rfl) (by kernel_rfl) (by kernel_rfl)
    ⟨trivial, s_impl_ObsOk_10, fun k x => impl_ObsOk_L10 k x.2.1.1 x.2.1.2.1 x.2.1.2.2.1 x.2.1.2.2.2.1 x.2.1.2.2.2.2.1 x.2.1.2.2.2.2.2.1 x.2.1.2.2.2.2.2.2.1 x.2.1.2.2.2.2.2.2.2.1 x.2.1.2.2.2.2.2.2.2.2.1 x.2.1.2.2.2.2.2.2.2.2.2.1, ⟨fun k => by kernel_rfl, fun k y => by kernel_rfl, fun y => by kernel_rfl⟩⟩
    (fun k x => impl_ObsOk_F k x.1.1.1 x.1.1.2.1 x.1.1.2.2.1 x.1.1.2.2.2.1 x.1.1.2.2.2.2.1 x.1.1.2.2.2.2.2.1 x.1.1.2.2.2.2.2.2.1 x.1.1.2.2.2.2.2.2.2.1 x.1.1.2.2.2.2.2.2.2.2.1 x.1.1.2.2.2.2.2.2.2.2.2.1) (fun x => rfl) (fun k x => by kernel_rfl)
-- loop.example/g00051/impl.ObsText$1
noncomputable def i_impl_ObsText_1 : Shape := ⟨[(0, .c (.str)), (1, .c (.flt)), (2, .c (.ptr 0 0))], [.box 9 [.str]]⟩
noncomputable def o_impl_ObsText_1 : Shape := ⟨[(0, .tup [])], [.box 9 [.str]]⟩
noncomputable def s_impl_ObsText_1_5 : Shape := ⟨[(0, .c (.str)), (2, .c (.ptr 0 0)), (5, .c (.int .i64)), (7, .c (.str))], [.box 9 [.str]]⟩
noncomputable def impl_ObsText_1_L5 : Nat → ByteArray → Int → ByteArray → ByteArray → Option (ByteArray)
  | 0, _, _, _, _ => none
  | k + 1, a0, a1, a2, a3 =>
  bif decide ((bs [32]).size + a0.size ≤ 9223372036854775807) then bif decide ((bs [32] ++ a0).size + a2.size ≤ 9223372036854775807) then (impl_fill a1 3).bind fun val => bif decide ((bs [32] ++ a0 ++ a2).size + ByteArray.size val ≤ 9223372036854775807) then bif decide (a3.size + (bs [32] ++ a0 ++ a2 ++ val).size ≤ 9223372036854775807) then some (a3 ++ (bs [32] ++ a0 ++ a2 ++ val)) else none else none else none else none
noncomputable def j_impl_ObsText_1 : List (Nat × (Nat → Cut (ByteArray))) := [(5, fun k => ⟨s_impl_ObsText_1_5, fun x => impl_ObsText_1_L5 k x.1.1 x.1.2.2.1 x.1.2.2.2.1 x.2.1.1⟩)]
noncomputable def impl_ObsText_1_F (k : Nat) (a0 : ByteArray) (a1 : Nat) (a2 : ByteArray) : Option (ByteArray) :=
  (impl_missing a1).bind fun val => bif val then some a2 else (impl_inTenths a1 (-999) 999).bind fun val => bif decide (val.fst < 0) then impl_ObsText_1_L5 k a0 (IntKind.i64.wrap (0 - val.fst)) (bs [49]) a2 else impl_ObsText_1_L5 k a0 val.fst (bs [48]) a2
noncomputable def impl_ObsText_1 (a0 : ByteArray) (a1 : Nat) (a2 : ByteArray) : Option (ByteArray) := evF fun k => impl_ObsText_1_F k a0 a1 a2
noncomputable def g_impl_ObsText_1 : Sg := ⟨i_impl_ObsText_1, o_impl_ObsText_1, ByteArray, fun y => (((), ()), ((y, ()), ())), fun x => impl_ObsText_1 x.1.1 x.1.2.1 x.2.1.1⟩
noncomputable def C_impl_ObsText_1 : Ctx := ⟨28, tiOf Tryd.prog, gl, sgOf [(37, g_impl_missing), (38, g_impl_inTenths), (35, g_impl_fill)], []⟩
noncomputable def r_impl_ObsText_1 : AExit → Env → Option (ByteArray) := retK C_impl_ObsText_1 1 o_impl_ObsText_1 (fun y => y.2.1.1) Tryd.f36.results.toList
theorem e_impl_ObsText_1 : Sound Tryd.prog gl 36 g_impl_ObsText_1 :=
  sound_cuts (C := C_impl_ObsText_1) ⟨fun _ _ h => h, by kernel_rfl⟩ (sgOf_all' ⟨.inl ⟨by kernel_rfl, (Sound.mono gl_NR (by rfl) e_impl_missing)⟩, .inl ⟨by kernel_rfl, e_impl_inTenths⟩, .inl ⟨by kernel_rfl, (Sound.mono gl_DT (by rfl) e_impl_fill)⟩, trivial⟩) 36 Tryd.f36 g_impl_ObsText_1 (fun y => y.2.1.1) j_impl_ObsText_1 1 (by kernel_rfl) (by kernel_rfl) (by kernel_rfl) (by kernel_rfl) (by kernel_rfl) (by kernel_rfl) (fun _ => rfl) (by kernel_rfl) (by kernel_rfl)
    ⟨trivial, s_impl_ObsText_1_5, fun k x => impl_ObsText_1_L5 k x.1.1 x.1.2.2.1 x.1.2.2.2.1 x.2.1.1, ⟨fun k => by kernel_rfl, fun k y => by kernel_rfl, fun y => by kernel_rfl⟩⟩
    (fun k x => impl_ObsText_1_F k x.1.1 x.1.2.1 x.2.1.1) (fun x => rfl) (fun k x => by kernel_rfl)
-- loop.example/g00051/impl.ObsText
noncomputable def i_impl_ObsText : Shape := ⟨[(0, .agg [.int .i64, .flt, .flt, .flt, .int .i64, .flt, .flt, .flt, .int .i64, .int .i64])], []⟩
noncomputable def o_impl_ObsText : Shape := ⟨[(0, .c (.str))], []⟩
noncomputable def s_impl_ObsText_7 : Shape := ⟨[(1, .c (.ptr 0 0)), (3, .c (.ptr 1 0))], [.box 34 [.int .i64, .flt, .flt, .flt, .int .i64, .flt, .flt, .flt, .int .i64, .int .i64], .box 9 [.str]]⟩
noncomputable def s_impl_ObsText_10 : Shape := ⟨[(1, .c (.ptr 0 0)), (3, .c (.ptr 1 0))], [.box 34 [.int .i64, .flt, .flt, .flt, .int .i64, .flt, .flt, .flt, .int .i64, .int .i64], .box 9 [.str]]⟩
noncomputable def s_impl_ObsText_13 : Shape := ⟨[(1, .c (.ptr 0 0)), (3, .c (.ptr 1 0))], [.box 34 [.int .i64, .flt, .flt, .flt, .int .i64, .flt, .flt, .flt, .int .i64, .int .i64], .box 9 [.str]]⟩
noncomputable def s_impl_ObsText_16 : Shape := ⟨[(1, .c (.ptr 0 0)), (3, .c (.ptr 1 0))], [.box 34 [.int .i64, .flt, .flt, .flt, .int .i64, .flt, .flt, .flt, .int .i64, .int .i64], .box 9 [.str]]⟩
noncomputable def s_impl_ObsText_19 : Shape := ⟨[(1, .c (.ptr 0 0)), (3, .c (.ptr 1 0))], [.box 34 [.int .i64, .flt, .flt, .flt, .int .i64, .flt, .flt, .flt, .int .i64, .int .i64], .box 9 [.str]]⟩
noncomputable def s_impl_ObsText_21 : Shape := ⟨[(3, .c (.ptr 0 0))], [.box 9 [.str]]⟩
mutual
noncomputable def impl_ObsText_L7 : Nat → Int → Nat → Nat → Nat → Int → Nat → Nat → Nat → Int → Int → ByteArray → Option (ByteArray)
  | 0, _, _, _, _, _, _, _, _, _, _, _ => none
  | k + 1, a0, a1, a2, a3, a4, a5, a6, a7, a8, a9, a10 =>
  (impl_inTenths a3 5000 14999).bind fun val => bif val.snd then (impl_fill (val.fst.tmod 10000) 4).bind fun val => bif decide ((bs [32, 51]).size + ByteArray.size val ≤ 9223372036854775807) then bif decide (a10.size + (bs [32, 51] ++ val).size ≤ 9223372036854775807) then impl_ObsText_L10 k a0 a1 a2 a3 a4 a5 a6 a7 a8 a9 (a10 ++ (bs [32, 51] ++ val)) else none else none else impl_ObsText_L10 k a0 a1 a2 a3 a4 a5 a6 a7 a8 a9 a10
noncomputable def impl_ObsText_L10 : Nat → Int → Nat → Nat → Nat → Int → Nat → Nat → Nat → Int → Int → ByteArray → Option (ByteArray)
  | 0, _, _, _, _, _, _, _, _, _, _, _ => none
  | k + 1, a0, a1, a2, a3, a4, a5, a6, a7, a8, a9, a10 =>
  (impl_wholeOf a5 0 99).bind fun val => bif val.snd then (impl_fill a4 2).bind fun val_1 => bif decide ((bs [32, 52]).size + ByteArray.size val_1 ≤ 9223372036854775807) then (impl_fill val.fst 2).bind fun val => bif decide ((bs [32, 52] ++ val_1).size + ByteArray.size val ≤ 9223372036854775807) then bif decide (a10.size + (bs [32, 52] ++ val_1 ++ val).size ≤ 9223372036854775807) then impl_ObsText_L13 k a0 a1 a2 a3 a4 a5 a6 a7 a8 a9 (a10 ++ (bs [32, 52] ++ val_1 ++ val)) else none else none else none else impl_ObsText_L13 k a0 a1 a2 a3 a4 a5 a6 a7 a8 a9 a10
noncomputable def impl_ObsText_L13 : Nat → Int → Nat → Nat → Nat → Int → Nat → Nat → Nat → Int → Int → ByteArray → Option (ByteArray)
  | 0, _, _, _, _, _, _, _, _, _, _, _ => none
  | k + 1, a0, a1, a2, a3, a4, a5, a6, a7, a8, a9, a10 =>
  (impl_wholeOf a6 0 99990).bind fun val => bif val.snd then (impl_fill (IntKind.i64.wrap (val.fst.tdiv 10)) 4).bind fun val => bif decide ((bs [32, 53]).size + ByteArray.size val ≤ 9223372036854775807) then bif decide (a10.size + (bs [32, 53] ++ val).size ≤ 9223372036854775807) then impl_ObsText_L16 k a0 a1 a2 a3 a4 a5 a6 a7 a8 a9 (a10 ++ (bs [32, 53] ++ val)) else none else none else impl_ObsText_L16 k a0 a1 a2 a3 a4 a5 a6 a7 a8 a9 a10
noncomputable def impl_ObsText_L16 : Nat → Int → Nat → Nat → Nat → Int → Nat → Nat → Nat → Int → Int → ByteArray → Option (ByteArray)
  | 0, _, _, _, _, _, _, _, _, _, _, _ => none
  | k + 1, a0, a1, a2, a3, a4, a5, a6, a7, a8, a9, a10 =>
  (impl_inTenths a7 0 9999).bind fun val => bif val.snd then (impl_fill val.fst 4).bind fun val => bif decide ((bs [32, 54]).size + ByteArray.size val ≤ 9223372036854775807) then bif decide (a10.size + (bs [32, 54] ++ val).size ≤ 9223372036854775807) then impl_ObsText_L19 k a0 a1 a2 a3 a4 a5 a6 a7 a8 a9 (a10 ++ (bs [32, 54] ++ val)) else none else none else impl_ObsText_L19 k a0 a1 a2 a3 a4 a5 a6 a7 a8 a9 a10
noncomputable def impl_ObsText_L19 : Nat → Int → Nat → Nat → Nat → Int → Nat → Nat → Nat → Int → Int → ByteArray → Option (ByteArray)
  | 0, _, _, _, _, _, _, _, _, _, _, _ => none
  | k + 1, a0, a1, a2, a3, a4, a5, a6, a7, a8, a9, a10 =>
  bif decide (a8 ≥ 0) then (impl_fill a8 2).bind fun val => bif decide ((bs [32, 55]).size + ByteArray.size val ≤ 9223372036854775807) then (impl_dec a9).bind fun val_1 => bif decide ((bs [32, 55] ++ val).size + ByteArray.size val_1 ≤ 9223372036854775807) then bif decide ((bs [32, 55] ++ val ++ val_1).size + (bs [48]).size ≤ 9223372036854775807) then bif decide (a10.size + (bs [32, 55] ++ val ++ val_1 ++ bs [48]).size ≤ 9223372036854775807) then impl_ObsText_L21 k (a10 ++ (bs [32, 55] ++ val ++ val_1 ++ bs [48])) else none else none else none else none else impl_ObsText_L21 k a10
noncomputable def impl_ObsText_L21 : Nat → ByteArray → Option (ByteArray)
  | 0, _ => none
  | k + 1, a0 =>
  bif decide (a0.size + (bs [61]).size ≤ 9223372036854775807) then some (a0 ++ bs [61]) else none
end
noncomputable def j_impl_ObsText : List (Nat × (Nat → Cut (ByteArray))) := [(7, fun k => ⟨s_impl_ObsText_7, fun x => impl_ObsText_L7 k x.2.1.1 x.2.1.2.1 x.2.1.2.2.1 x.2.1.2.2.2.1 x.2.1.2.2.2.2.1 x.2.1.2.2.2.2.2.1 x.2.1.2.2.2.2.2.2.1 x.2.1.2.2.2.2.2.2.2.1 x.2.1.2.2.2.2.2.2.2.2.1 x.2.1.2.2.2.2.2.2.2.2.2.1 x.2.2.1.1⟩), (10, fun k => ⟨s_impl_ObsText_10, fun x => impl_ObsText_L10 k x.2.1.1 x.2.1.2.1 x.2.1.2.2.1 x.2.1.2.2.2.1 x.2.1.2.2.2.2.1 x.2.1.2.2.2.2.2.1 x.2.1.2.2.2.2.2.2.1 x.2.1.2.2.2.2.2.2.2.1 x.2.1.2.2.2.2.2.2.2.2.1 x.2.1.2.2.2.2.2.2.2.2.2.1 x.2.2.1.1⟩), (13, fun k => ⟨s_impl_ObsText_13, fun x => impl_ObsText_L13 k x.2.1.1 x.2.1.2.1 x.2.1.2.2.1 x.2.1.2.2.2.1 x.2.1.2.2.2.2.1 x.2.1.2.2.2.2.2.1 x.2.1.2.2.2.2.2.2.1 x.2.1.2.2.2.2.2.2.2.1 x.2.1.2.2.2.2.2.2.2.2.1 x.2.1.2.2.2.2.2.2.2.2.2.1 x.2.2.1.1⟩), (16, fun k => ⟨s_impl_ObsText_16, fun x => impl_ObsText_L16 k x.2.1.1 x.2.1.2.1 x.2.1.2.2.1 x.2.1.2.2.2.1 x.2.1.2.2.2.2.1 x.2.1.2.2.2.2.2.1 x.2.1.2.2.2.2.2.2.1 x.2.1.2.2.2.2.2.2.2.1 x.2.1.2.2.2.2.2.2.2.2.1 x.2.1.2.2.2.2.2.2.2.2.2.1 x.2.2.1.1⟩), (19, fun k => ⟨s_impl_ObsText_19, fun x => impl_ObsText_L19 k x.2.1.1 x.2.1.2.1 x.2.1.2.2.1 x.2.1.2.2.2.1 x.2.1.2.2.2.2.1 x.2.1.2.2.2.2.2.1 x.2.1.2.2.2.2.2.2.1 x.2.1.2.2.2.2.2.2.2.1 x.2.1.2.2.2.2.2.2.2.2.1 x.2.1.2.2.2.2.2.2.2.2.2.1 x.2.2.1.1⟩), (21, fun k => ⟨s_impl_ObsText_21, fun x => impl_ObsText_L21 k x.2.1.1⟩)]
noncomputable def impl_ObsText_F (k : Nat) (a0 : Int) (a1 : Nat) (a2 : Nat) (a3 : Nat) (a4 : Int) (a5 : Nat) (a6 : Nat) (a7 : Nat) (a8 : Int) (a9 : Int) : Option (ByteArray) :=
  (impl_ObsOk a0 a1 a2 a3 a4 a5 a6 a7 a8 a9).bind fun val => bif !val then some (bs []) else (impl_fill a0 5).bind fun val => (impl_ObsText_1 (bs [49]) a1 val).bind fun val => (impl_ObsText_1 (bs [50]) a2 val).bind fun val => impl_ObsText_L7 k a0 a1 a2 a3 a4 a5 a6 a7 a8 a9 val
noncomputable def impl_ObsText (a0 : Int) (a1 : Nat) (a2 : Nat) (a3 : Nat) (a4 : Int) (a5 : Nat) (a6 : Nat) (a7 : Nat) (a8 : Int) (a9 : Int) : Option (ByteArray) := evF fun k => impl_ObsText_F k a0 a1 a2 a3 a4 a5 a6 a7 a8 a9
noncomputable def g_impl_ObsText : Sg := ⟨i_impl_ObsText, o_impl_ObsText, ByteArray, fun y => ((y, ()), ()), fun x => impl_ObsText x.1.1.1 x.1.1.2.1 x.1.1.2.2.1 x.1.1.2.2.2.1 x.1.1.2.2.2.2.1 x.1.1.2.2.2.2.2.1 x.1.1.2.2.2.2.2.2.1 x.1.1.2.2.2.2.2.2.2.1 x.1.1.2.2.2.2.2.2.2.2.1 x.1.1.2.2.2.2.2.2.2.2.2.1⟩
noncomputable def C_impl_ObsText : Ctx := ⟨98, tiOf Tryd.prog, gl, sgOf [(34, g_impl_ObsOk), (35, g_impl_fill), (36, g_impl_ObsText_1), (38, g_impl_inTenths), (39, g_impl_wholeOf), (40, g_impl_dec)], []⟩
noncomputable def r_impl_ObsText : AExit → Env → Option (ByteArray) := retK C_impl_ObsText 0 o_impl_ObsText (fun y => y.1.1) Tryd.f13.results.toList
theorem e_impl_ObsText : Sound Tryd.prog gl 13 g_impl_ObsText :=
  sound_cuts (C := C_impl_ObsText) ⟨fun _ _ h => h, by kernel_rfl⟩ (sgOf_all' ⟨.inl ⟨by kernel_rfl, e_impl_ObsOk⟩, .inl ⟨by kernel_rfl, (Sound.mono gl_DT (by rfl) e_impl_fill)⟩, .inl ⟨by kernel_rfl, e_impl_ObsText_1⟩, .inl ⟨by kernel_rfl, e_impl_inTenths⟩, .inl ⟨by kernel_rfl, e_impl_wholeOf⟩, .inl ⟨by kernel_rfl, (Sound.mono gl_DT (by rfl) e_impl_dec)⟩, trivial⟩) 13 Tryd.f13 g_impl_ObsText (fun y => y.1.1) j_impl_ObsText 6 (by kernel_rfl) (by kernel_rfl) (by kernel_rfl) (by kernel_rfl) (by kernel_rfl) (by kernel_rfl) (fun _ => rfl) (by kernel_rfl) (by kernel_rfl)
    ⟨⟨⟨⟨⟨⟨trivial, s_impl_ObsText_7, fun k x => impl_ObsText_L7 k x.2.1.1 x.2.1.2.1 x.2.1.2.2.1 x.2.1.2.2.2.1 x.2.1.2.2.2.2.1 x.2.1.2.2.2.2.2.1 x.2.1.2.2.2.2.2.2.1 x.2.1.2.2.2.2.2.2.2.1 x.2.1.2.2.2.2.2.2.2.2.1 x.2.1.2.2.2.2.2.2.2.2.2.1 x.2.2.1.1, ⟨fun k => by kernel_rfl, fun k y => by kernel_rfl, fun y => by kernel_rfl⟩⟩, s_impl_ObsText_10, fun k x => impl_ObsText_L10 k x.2.1.1 x.2.1.2.1 x.2.1.2.2.1 x.2.1.2.2.2.1 x.2.1.2.2.2.2.1 x.2.1.2.2.2.2.2.1 x.2.1.2.2.2.2.2.2.1 x.2.1.2.2.2.2.2.2.2.1 x.2.1.2.2.2.2.2.2.2.2.1 x.2.1.2.2.2.2.2.2.2.2.2.1 x.2.2.1.1, ⟨fun k => by kernel_rfl, fun k y => by kernel_rfl, fun y => by kernel_rfl⟩⟩, s_impl_ObsText_13, fun k x => impl_ObsText_L13 k x.2.1.1 x.2.1.2.1 x.2.1.2.2.1 x.2.1.2.2.2.1 x.2.1.2.2.2.2.1 x.2.1.2.2.2.2.2.1 x.2.1.2.2.2.2.2.2.1 x.2.1.2.2.2.2.2.2.2.1 x.2.1.2.2.2.2.2.2.2.2.1 x.2.1.2.2.2.2.2.2.2.2.2.1 x.2.2.1.1, ⟨fun k => by kernel_rfl, fun k y => by kernel_rfl, fun y => by kernel_rfl⟩⟩, s_impl_ObsText_16, fun k x => impl_ObsText_L16 k x.2.1.1 x.2.1.2.1 x.2.1.2.2.1 x.2.1.2.2.2.1 x.2.1.2.2.2.2.1 x.2.1.2.2.2.2.2.1 x.2.1.2.2.2.2.2.2.1 x.2.1.2.2.2.2.2.2.2.1 x.2.1.2.2.2.2.2.2.2.2.1 x.2.1.2.2.2.2.2.2.2.2.2.1 x.2.2.1.1, ⟨fun k => by kernel_rfl, fun k y => by kernel_rfl, fun y => by kernel_rfl⟩⟩, s_impl_ObsText_19, fun k x => impl_ObsText_L19 k x.2.1.1 x.2.1.2.1 x.2.1.2.2.1 x.2.1.2.2.2.1 x.2.1.2.2.2.2.1 x.2.1.2.2.2.2.2.1 x.2.1.2.2.2.2.2.2.1 x.2.1.2.2.2.2.2.2.2.1 x.2.1.2.2.2.2.2.2.2.2.1 x.2.1.2.2.2.2.2.2.2.2.2.1 x.2.2.1.1, ⟨fun k => by kernel_rfl, fun k y => by kernel_rfl, fun y => by kernel_rfl⟩⟩, s_impl_ObsText_21, fun k x => impl_ObsText_L21 k x.2.1.1, ⟨fun k => by kernel_rfl, fun k y => by kernel_rfl, fun y => by kernel_rfl⟩⟩
    (fun k x => impl_ObsText_F k x.1.1.1 x.1.1.2.1 x.1.1.2.2.1 x.1.1.2.2.2.1 x.1.1.2.2.2.2.1 x.1.1.2.2.2.2.2.1 x.1.1.2.2.2.2.2.2.1 x.1.1.2.2.2.2.2.2.2.1 x.1.1.2.2.2.2.2.2.2.2.1 x.1.1.2.2.2.2.2.2.2.2.2.1) (fun x => rfl) (fun k x => by kernel_rfl)
-- loop.example/g00051/laws.FnExactObsText
noncomputable def i_laws_FnExactObsText : Shape := ⟨[(0, .agg [.int .i64, .flt, .flt, .flt, .int .i64, .flt, .flt, .flt, .int .i64, .int .i64])], []⟩
noncomputable def o_laws_FnExactObsText : Shape := ⟨[(0, .c (.bool))], []⟩
noncomputable def laws_FnExactObsText (a0 : Int) (a1 : Nat) (a2 : Nat) (a3 : Nat) (a4 : Int) (a5 : Nat) (a6 : Nat) (a7 : Nat) (a8 : Int) (a9 : Int) : Option (Bool) :=
  (laws_toObs a0 a1 a2 a3 a4 a5 a6 a7 a8 a9).bind fun val => (spec_ObsText val.fst val.snd.fst val.snd.snd.fst val.snd.snd.snd.fst val.snd.snd.snd.snd.fst val.snd.snd.snd.snd.snd.fst val.snd.snd.snd.snd.snd.snd.fst val.snd.snd.snd.snd.snd.snd.snd.fst val.snd.snd.snd.snd.snd.snd.snd.snd.fst val.snd.snd.snd.snd.snd.snd.snd.snd.snd).bind fun val => (laws_toObs a0 a1 a2 a3 a4 a5 a6 a7 a8 a9).bind fun val_1 => (impl_ObsText val_1.fst val_1.snd.fst val_1.snd.snd.fst val_1.snd.snd.snd.fst val_1.snd.snd.snd.snd.fst val_1.snd.snd.snd.snd.snd.fst val_1.snd.snd.snd.snd.snd.snd.fst val_1.snd.snd.snd.snd.snd.snd.snd.fst val_1.snd.snd.snd.snd.snd.snd.snd.snd.fst val_1.snd.snd.snd.snd.snd.snd.snd.snd.snd).bind fun val_2 => bif !ByteArray.toList val_2 == ByteArray.toList val then some false else some true
noncomputable def g_laws_FnExactObsText : Sg := ⟨i_laws_FnExactObsText, o_laws_FnExactObsText, Bool, fun y => ((y, ()), ()), fun x => laws_FnExactObsText x.1.1.1 x.1.1.2.1 x.1.1.2.2.1 x.1.1.2.2.2.1 x.1.1.2.2.2.2.1 x.1.1.2.2.2.2.2.1 x.1.1.2.2.2.2.2.2.1 x.1.1.2.2.2.2.2.2.2.1 x.1.1.2.2.2.2.2.2.2.2.1 x.1.1.2.2.2.2.2.2.2.2.2.1⟩
noncomputable def C_laws_FnExactObsText : Ctx := ⟨14, tiOf Tryd.prog, gl, sgOf [(12, g_laws_toObs), (11, g_spec_ObsText), (13, g_impl_ObsText)], []⟩
noncomputable def r_laws_FnExactObsText : AExit → Env → Option (Bool) := retK C_laws_FnExactObsText 0 o_laws_FnExactObsText (fun y => y.1.1) Tryd.f4.results.toList
theorem e_laws_FnExactObsText : Sound Tryd.prog gl 4 g_laws_FnExactObsText :=
  sound_plain (C := C_laws_FnExactObsText) ⟨fun _ _ h => h, by kernel_rfl⟩ (sgOf_all' ⟨.inl ⟨by kernel_rfl, e_laws_toObs⟩, .inl ⟨by kernel_rfl, e_spec_ObsText⟩, .inl ⟨by kernel_rfl, e_impl_ObsText⟩, trivial⟩) 4 Tryd.f4 g_laws_FnExactObsText (fun y => y.1.1) (by kernel_rfl) (by kernel_rfl) (by kernel_rfl) (by kernel_rfl) (by kernel_rfl) (by kernel_rfl) (fun _ => rfl) (fun x => by kernel_rfl)
end Go.Proofs.YtondfjckadlabaaDoor.OT
