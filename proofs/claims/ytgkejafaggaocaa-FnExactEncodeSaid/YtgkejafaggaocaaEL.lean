/-
  Part of a proof by the engine: texts that a program of ours printed, or plain lemmas on them. No condition but what each theorem says.
-/
import Derived.Test.YtgkejafaggaocaaPO
import Derived.Test.YtgkejafaggaocaaES
import Derived.Test.YtgkejafaggaocaaEU
import Derived.Test.YtgkejafaggaocaaLH
import Derived.Test.YtgkejafaggaocaaEng5
import Derived.Test.YtgkejafaggaocaaProg
import Derived.KernelRfl
import Derived.Test.YtgkejafaggaocaaDoorsF
set_option linter.unusedVariables false
set_option linter.unusedSimpArgs false
set_option maxRecDepth 100000
namespace Go.Proofs.Ytgkejafaggaocaa.EL
open Go Go.Eng Go.Proofs
open Go.Proofs.Ytgkejafaggaocaa.EX
open Go.Proofs.Ytgkejafaggaocaa.PO hiding gl
open Go.Proofs.Ytgkejafaggaocaa.ES hiding gl
open Go.Proofs.Ytgkejafaggaocaa.EU hiding gl
open Go.Proofs.Ytgkejafaggaocaa.LH hiding gl
noncomputable def gl : Nat → Option (List Cell) := glOf []
theorem gl_PO : ∀ g cs, Go.Proofs.Ytgkejafaggaocaa.PO.gl g = some cs → gl g = some cs := glOf_mono (by intro p hp; cases hp)
theorem gl_ES : ∀ g cs, Go.Proofs.Ytgkejafaggaocaa.ES.gl g = some cs → gl g = some cs := glOf_mono (by intro p hp; cases hp)
theorem gl_EU : ∀ g cs, Go.Proofs.Ytgkejafaggaocaa.EU.gl g = some cs → gl g = some cs := glOf_mono (by intro p hp; cases hp)
theorem gl_LH : ∀ g cs, Go.Proofs.Ytgkejafaggaocaa.LH.gl g = some cs → gl g = some cs := glOf_mono (by intro p hp; cases hp)
-- loop.example/g00051/laws.FnExactEncode
noncomputable def i_laws_FnExactEncode : Shape := ⟨[(0, .c (.sl (.pair (.int .i64) (.pair (.int .i64) (.pair (.int .i64) (.int .i64)))))), (1, .c (.sl (.int .i64))), (2, .c (.sl .flt))], []⟩
noncomputable def o_laws_FnExactEncode : Shape := ⟨[(0, .c (.bool))], []⟩
noncomputable def laws_FnExactEncode (a0 : List (Int × Int × Int × Int)) (a1 : List Int) (a2 : List Nat) : Option (Bool) :=
  bif decide ((↑a1.length : Int) > 1048576) then some true
  else
   bif decide ((↑a2.length : Int) > 1048576) then some true
   else
    (laws_szElemS a0 1048576).bind fun val =>
     bif decide (val < 0) then some true
     else
      (laws_toElemS a0).bind fun val =>
       (laws_toInt64S a1).bind fun val_1 =>
        (laws_toFloat64S a2).bind fun val_2 =>
         (spec_Encode val val_1 val_2).bind fun val =>
          (laws_toElemS a0).bind fun val_3 =>
           (laws_toInt64S a1).bind fun val_4 =>
            (laws_toFloat64S a2).bind fun val_5 =>
             (impl_Encode val_3 val_4 val_5).bind fun val_6 =>
              (laws_eqByteS val_6.snd val.snd).bind fun val_7 => bif !val_7 then some false else bif val_6.fst != val.fst then some false else (laws_toElemS a0).bind fun val_8 => (laws_eqElemS val_3 val_8).bind fun val_9 => bif !val_9 then some false else (laws_toInt64S a1).bind fun val_10 => (laws_eqInt64S val_4 val_10).bind fun val_11 => bif !val_11 then some false else (laws_toFloat64S a2).bind fun val_12 => (laws_eqFloat64S val_5 val_12).bind fun val_13 => bif !val_13 then some false else (laws_markElemS 1 val_3).bind fun val_14 => (laws_markInt64S val_14.fst val_4).bind fun val_15 => (laws_markFloat64S val_15.fst val_5).bind fun val_16 => bif decide (val_16.fst < 0) then some false else (laws_eqByteS val_6.snd val.snd).bind fun val_17 => bif !val_17 then some false else bif val_6.fst != val.fst then some false else (laws_markByteS 1 val_6.snd).bind fun val_18 => (laws_heldByteS val_18.snd 1).bind fun val_19 => bif decide (val_19 < 0) then some false else bif val_19 != val_18.fst then some false else (laws_toElemS a0).bind fun val_20 => (laws_toInt64S a1).bind fun val_21 => (laws_toFloat64S a2).bind fun val_22 => (impl_Encode val_20 val_21 val_22).bind fun val_23 => (laws_eqByteS val_23.snd val.snd).bind fun val_24 => bif !val_24 then some false else bif val_23.fst != val.fst then some false else (laws_heldByteS val_18.snd 1).bind fun val => bif decide (val < 0) then some false else bif val != val_18.fst then some false else some true
noncomputable def g_laws_FnExactEncode : Sg := ⟨i_laws_FnExactEncode, o_laws_FnExactEncode, Bool, fun y => ((y, ()), ()), fun x => laws_FnExactEncode x.1.1 x.1.2.1 x.1.2.2.1⟩
noncomputable def C_laws_FnExactEncode : Ctx := ⟨138, tiOf Try.prog, gl, sgOf [(23, g_laws_szElemS), (25, g_laws_toElemS), (26, g_laws_toInt64S), (37, g_laws_toFloat64S), (36, g_spec_Encode), (38, g_impl_Encode), (31, g_laws_eqByteS), (30, g_laws_eqElemS), (14, g_laws_eqInt64S), (29, g_laws_eqFloat64S), (32, g_laws_markElemS), (17, g_laws_markInt64S), (34, g_laws_markFloat64S), (33, g_laws_markByteS), (39, g_laws_heldByteS)], []⟩
noncomputable def r_laws_FnExactEncode : AExit → Env → Option (Bool) := retK C_laws_FnExactEncode 0 o_laws_FnExactEncode (fun y => y.1.1) Try.f7.results.toList
theorem e_laws_FnExactEncode : Sound Try.prog gl 7 g_laws_FnExactEncode :=
  sound_plain (C := C_laws_FnExactEncode) ⟨fun _ _ h => h, by kernel_rfl⟩ (sgOf_all' ⟨.inl ⟨by kernel_rfl, (Sound.mono gl_LH (by rfl) e_laws_szElemS)⟩, .inl ⟨by kernel_rfl, (Sound.mono gl_LH (by rfl) e_laws_toElemS)⟩, .inl ⟨by kernel_rfl, (Sound.mono gl_LH (by rfl) e_laws_toInt64S)⟩, .inl ⟨by kernel_rfl, (Sound.mono gl_LH (by rfl) e_laws_toFloat64S)⟩, .inl ⟨by kernel_rfl, (Sound.mono gl_ES (by rfl) e_spec_Encode)⟩, .inl ⟨by kernel_rfl, (Sound.mono gl_EU (by rfl) e_impl_Encode)⟩, .inl ⟨by kernel_rfl, (Sound.mono gl_LH (by rfl) e_laws_eqByteS)⟩, .inl ⟨by kernel_rfl, (Sound.mono gl_LH (by rfl) e_laws_eqElemS)⟩, .inl ⟨by kernel_rfl, (Sound.mono gl_LH (by rfl) e_laws_eqInt64S)⟩, .inl ⟨by kernel_rfl, (Sound.mono gl_LH (by rfl) e_laws_eqFloat64S)⟩, .inl ⟨by kernel_rfl, (Sound.mono gl_LH (by rfl) e_laws_markElemS)⟩, .inl ⟨by kernel_rfl, (Sound.mono gl_LH (by rfl) e_laws_markInt64S)⟩, .inl ⟨by kernel_rfl, (Sound.mono gl_LH (by rfl) e_laws_markFloat64S)⟩, .inl ⟨by kernel_rfl, (Sound.mono gl_LH (by rfl) e_laws_markByteS)⟩, .inl ⟨by kernel_rfl, (Sound.mono gl_LH (by rfl) e_laws_heldByteS)⟩, trivial⟩) 7 Try.f7 g_laws_FnExactEncode (fun y => y.1.1) (by kernel_rfl) (by kernel_rfl) (by kernel_rfl) (by kernel_rfl) (by kernel_rfl) (by kernel_rfl) (fun _ => rfl) (fun x => by kernel_rfl)
end Go.Proofs.Ytgkejafaggaocaa.EL
