/-
  Part of a proof by the engine: texts that a program of ours printed, or plain lemmas on them. No condition but what each theorem says.
-/
import Derived.Test.YtgkejafaggaocaaPO
import Derived.Test.YtgkejafaggaocaaDE
import Derived.Test.YtgkejafaggaocaaLH
import Derived.Test.YtgkejafaggaocaaEng5
import Derived.Test.YtgkejafaggaocaaProg
import Derived.KernelRfl
import Derived.Test.YtgkejafaggaocaaDoorsF
set_option linter.unusedVariables false
set_option linter.unusedSimpArgs false
set_option maxRecDepth 100000
namespace Go.Proofs.Ytgkejafaggaocaa.DL
open Go Go.Eng Go.Proofs
open Go.Proofs.Ytgkejafaggaocaa.EX
open Go.Proofs.Ytgkejafaggaocaa.PO hiding gl
open Go.Proofs.Ytgkejafaggaocaa.DE hiding gl
open Go.Proofs.Ytgkejafaggaocaa.LH hiding gl
noncomputable def gl : Nat → Option (List Cell) := glOf []
theorem gl_PO : ∀ g cs, Go.Proofs.Ytgkejafaggaocaa.PO.gl g = some cs → gl g = some cs := glOf_mono (by intro p hp; cases hp)
theorem gl_DE : ∀ g cs, Go.Proofs.Ytgkejafaggaocaa.DE.gl g = some cs → gl g = some cs := glOf_mono (by intro p hp; cases hp)
theorem gl_LH : ∀ g cs, Go.Proofs.Ytgkejafaggaocaa.LH.gl g = some cs → gl g = some cs := glOf_mono (by intro p hp; cases hp)
-- loop.example/g00051/laws.FnExactDecode
noncomputable def i_laws_FnExactDecode : Shape := ⟨[(0, .c (.sl (.pair (.int .i64) (.pair (.int .i64) (.pair (.int .i64) (.int .i64)))))), (1, .c (.sl (.int .i64))), (2, .c (.sl (.int .u8)))], []⟩
noncomputable def o_laws_FnExactDecode : Shape := ⟨[(0, .c (.bool))], []⟩
noncomputable def laws_FnExactDecode (a0 : List (Int × Int × Int × Int)) (a1 : List Int) (a2 : List Int) : Option (Bool) :=
  bif decide ((↑a1.length : Int) > 1048576) then some true
  else
   bif decide ((↑a2.length : Int) > 1048576) then some true
   else
    (laws_szElemS a0 1048576).bind fun val =>
     bif decide (val < 0) then some true
     else
      (laws_toElemS a0).bind fun val =>
       (laws_toInt64S a1).bind fun val_1 =>
        (laws_toByteS a2).bind fun val_2 =>
         (spec_Decode val val_1 val_2).bind fun val =>
          (laws_toElemS a0).bind fun val_3 =>
           (laws_toInt64S a1).bind fun val_4 =>
            (laws_toByteS a2).bind fun val_5 =>
             (impl_Decode val_3 val_4 val_5).bind fun val_6 =>
              (laws_eqFloat64S val_6.snd val.fst).bind fun val_7 => bif !val_7 then some false else bif val_6.fst != val.snd then some false else (laws_toElemS a0).bind fun val_8 => (laws_eqElemS val_3 val_8).bind fun val_9 => bif !val_9 then some false else (laws_toInt64S a1).bind fun val_10 => (laws_eqInt64S val_4 val_10).bind fun val_11 => bif !val_11 then some false else (laws_toByteS a2).bind fun val_12 => (laws_eqByteS val_5 val_12).bind fun val_13 => bif !val_13 then some false else (laws_markElemS 1 val_3).bind fun val_14 => (laws_markInt64S val_14.fst val_4).bind fun val_15 => (laws_markByteS val_15.fst val_5).bind fun val_16 => bif decide (val_16.fst < 0) then some false else (laws_eqFloat64S val_6.snd val.fst).bind fun val_17 => bif !val_17 then some false else bif val_6.fst != val.snd then some false else (laws_markFloat64S 1 val_6.snd).bind fun val_18 => (laws_heldFloat64S val_18.snd 1).bind fun val_19 => bif decide (val_19 < 0) then some false else bif val_19 != val_18.fst then some false else (laws_toElemS a0).bind fun val_20 => (laws_toInt64S a1).bind fun val_21 => (laws_toByteS a2).bind fun val_22 => (impl_Decode val_20 val_21 val_22).bind fun val_23 => (laws_eqFloat64S val_23.snd val.fst).bind fun val_24 => bif !val_24 then some false else bif val_23.fst != val.snd then some false else (laws_heldFloat64S val_18.snd 1).bind fun val => bif decide (val < 0) then some false else bif val != val_18.fst then some false else some true
noncomputable def g_laws_FnExactDecode : Sg := ⟨i_laws_FnExactDecode, o_laws_FnExactDecode, Bool, fun y => ((y, ()), ()), fun x => laws_FnExactDecode x.1.1 x.1.2.1 x.1.2.2.1⟩
noncomputable def C_laws_FnExactDecode : Ctx := ⟨138, tiOf Try.prog, gl, sgOf [(23, g_laws_szElemS), (25, g_laws_toElemS), (26, g_laws_toInt64S), (27, g_laws_toByteS), (24, g_spec_Decode), (28, g_impl_Decode), (29, g_laws_eqFloat64S), (30, g_laws_eqElemS), (14, g_laws_eqInt64S), (31, g_laws_eqByteS), (32, g_laws_markElemS), (17, g_laws_markInt64S), (33, g_laws_markByteS), (34, g_laws_markFloat64S), (35, g_laws_heldFloat64S)], []⟩
noncomputable def r_laws_FnExactDecode : AExit → Env → Option (Bool) := retK C_laws_FnExactDecode 0 o_laws_FnExactDecode (fun y => y.1.1) Try.f6.results.toList
theorem e_laws_FnExactDecode : Sound Try.prog gl 6 g_laws_FnExactDecode :=
  sound_plain (C := C_laws_FnExactDecode) ⟨fun _ _ h => h, by kernel_rfl⟩ (sgOf_all' ⟨.inl ⟨by kernel_rfl, (Sound.mono gl_LH (by rfl) e_laws_szElemS)⟩, .inl ⟨by kernel_rfl, (Sound.mono gl_LH (by rfl) e_laws_toElemS)⟩, .inl ⟨by kernel_rfl, (Sound.mono gl_LH (by rfl) e_laws_toInt64S)⟩, .inl ⟨by kernel_rfl, (Sound.mono gl_LH (by rfl) e_laws_toByteS)⟩, .inl ⟨by kernel_rfl, (Sound.mono gl_DE (by rfl) e_spec_Decode)⟩, .inl ⟨by kernel_rfl, (Sound.mono gl_DE (by rfl) e_impl_Decode)⟩, .inl ⟨by kernel_rfl, (Sound.mono gl_LH (by rfl) e_laws_eqFloat64S)⟩, .inl ⟨by kernel_rfl, (Sound.mono gl_LH (by rfl) e_laws_eqElemS)⟩, .inl ⟨by kernel_rfl, (Sound.mono gl_LH (by rfl) e_laws_eqInt64S)⟩, .inl ⟨by kernel_rfl, (Sound.mono gl_LH (by rfl) e_laws_eqByteS)⟩, .inl ⟨by kernel_rfl, (Sound.mono gl_LH (by rfl) e_laws_markElemS)⟩, .inl ⟨by kernel_rfl, (Sound.mono gl_LH (by rfl) e_laws_markInt64S)⟩, .inl ⟨by kernel_rfl, (Sound.mono gl_LH (by rfl) e_laws_markByteS)⟩, .inl ⟨by kernel_rfl, (Sound.mono gl_LH (by rfl) e_laws_markFloat64S)⟩, .inl ⟨by kernel_rfl, (Sound.mono gl_LH (by rfl) e_laws_heldFloat64S)⟩, trivial⟩) 6 Try.f6 g_laws_FnExactDecode (fun y => y.1.1) (by kernel_rfl) (by kernel_rfl) (by kernel_rfl) (by kernel_rfl) (by kernel_rfl) (by kernel_rfl) (fun _ => rfl) (fun x => by kernel_rfl)
end Go.Proofs.Ytgkejafaggaocaa.DL
