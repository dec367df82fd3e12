/-
  Part of a proof by the engine: texts that a program of ours printed, or plain lemmas on them. No condition but what each theorem says.
-/
import Derived.Test.YtgkejafaggaocaaRows
import Derived.Test.YtgkejafaggaocaaEng5
import Derived.Test.YtgkejafaggaocaaEL
import Derived.Test.YtgkejafaggaocaaELPlain
import Derived.WalkKit
import Derived.ProofKit
import Derived.OpenShut
import Derived.OpenVars
import Derived.ShutString
import Derived.ChangeOld
import Derived.Below
import Derived.LaidMore
import Derived.Stop.Joined
import Derived.Stop.LaidErr
import Derived.SevenTiedAt
import Derived.MakeChecks
set_option linter.unusedVariables false
set_option linter.unusedSimpArgs false
-- By row2.py, a program of ours.
namespace Go.Proofs.Ytgkejafaggaocaa.LawFnExactEncode
open Go.ChangeShapes Go.WideShapes Go.ChangeAt Go.RowKit
open Go.Eng (St0 GlOk GlOne glOf_ok glOne_strs glOne_arrS glOne_arrI RepAs avOf aggOf openA law_true kindsOf lineOk denKs wfKs vars_cons vars_nil) 
open Go.Proofs.Ytgkejafaggaocaa.EL
theorem own : ownKnob Try.prog.godebug = none := by kernel_rfl
theorem laidOut : laidOutB Try.prog = true := by kernel_rfl
theorem walk (W : World) (z0 : denKs [.sl (.pair (.int .i64) (.pair (.int .i64) (.pair (.int .i64) (.int .i64))))]) (z1 : denKs [.sl (.int .i64)]) (z2 : denKs [.sl .flt]) (h0 : wfKs [.sl (.pair (.int .i64) (.pair (.int .i64) (.pair (.int .i64) (.int .i64))))] z0) (h1 : wfKs [.sl (.int .i64)] z1) (h2 : wfKs [.sl .flt] z2) (hg : GlOk gl W (St0 W)) (v0 : Value) (v1 : Value) (v2 : Value) (r0 : Go.Eng.RepA W (St0 W) (avOf false [.sl (.pair (.int .i64) (.pair (.int .i64) (.pair (.int .i64) (.int .i64))))] z0) v0) (r1 : Go.Eng.RepA W (St0 W) (avOf false [.sl (.int .i64)] z1) v1) (r2 : Go.Eng.RepA W (St0 W) (avOf false [.sl .flt] z2) v2) :
    Calls Try.prog 7 #[v0, v1, v2] W fun e w' => e = .returned (.bool true) ∧ Below W.heap.size W w' :=
  law_true (g := g_laws_FnExactEncode) e_laws_FnExactEncode hg (x := ((z0.1, z1.1, z2.1, ()), ())) (y := true) rfl ⟨r0, r1, r2, trivial⟩ (pure z0 z1 z2 h0 h1 h2) rfl
set_option maxRecDepth 100000 in
theorem lifted (os : Os) (started : os.Started) (H : Type) (enc : TypeId × Value → H) :
    ReturnsInHanded {} Try.checked os 7 .any (Rows.fnExactEncodeSpec.pre6 enc Try.prog Try.f7 Rows.fnExactEncodeRow.domain false) (Rows.fnExactEncodeSpec.post enc Try.prog Try.f7 false true false false) := by
  refine returnsInHanded_of_change (C := Try.checked) own started (by kernel_rfl) Try.func7
    (ChangeSpec.witness6 (enc := enc) (C := Try.checked) false ⟨#[], #[.slice none 0 0, .slice none 0 0, .slice none 0 0], []⟩ 12 (by kernel_rfl) (by kernel_rfl) (by kernel_rfl) (by kernel_rfl)) ?_
  intro W base args ds gs before hval0 hW hcnd _
  have hval : ∀ (j : Nat) t v, Try.f7.params[j]? = some t → args[j]? = some v → Value.okWide Try.prog W .any base t v := hval0
  have hW' := hW
  obtain ⟨p, q, hA0, hV, rfl, hfz, hnd⟩ := hW
  have hA : DataW.TrodAll enc Try.prog W 0 (fun _ => true) true Try.f7.params.toList args.toList ds p := hA0
  rw [Try.params7] at hA hval
  obtain ⟨v0, vs0, d0, ds0, p0, q0, hargs, rfl, rfl, h0, r0⟩ := trodAll_cons hA
  obtain ⟨v1, vs1, d1, ds1, p1, q1, rfl, rfl, rfl, h1, r1⟩ := trodAll_cons r0
  obtain ⟨v2, vs2, d2, ds2, p2, q2, rfl, rfl, rfl, h2, r2⟩ := trodAll_cons r1
  obtain ⟨rfl, rfl, rfl⟩ := trodAll_nil r2
  obtain rfl : args = #[v0, v1, v2] := by cases args; simp_all
  obtain ⟨rfl, rfl⟩ := trodVars_none hV
  have k0 := h0
  have lt0 : ∀ x ∈ p0, x.block < W.heap.size := by obtain ⟨m, hm⟩ := k0; exact DataW.trod_lt m _ _ _ hm
  obtain ⟨z0, hr0, hw0⟩ := openA (d := 8) (t := 43) (ks := [.sl (.pair (.int .i64) (.pair (.int .i64) (.pair (.int .i64) (.int .i64))))]) (by kernel_rfl) (by kernel_rfl) (by kernel_rfl) (hval 0 43 v0 rfl rfl) h0
  have k1 := h1
  have lt1 : ∀ x ∈ p1, x.block < W.heap.size := by obtain ⟨m, hm⟩ := k1; exact DataW.trod_lt m _ _ _ hm
  obtain ⟨z1, hr1, hw1⟩ := openA (d := 8) (t := 25) (ks := [.sl (.int .i64)]) (by kernel_rfl) (by kernel_rfl) (by kernel_rfl) (hval 1 25 v1 rfl rfl) h1
  have k2 := h2
  have lt2 : ∀ x ∈ p2, x.block < W.heap.size := by obtain ⟨m, hm⟩ := k2; exact DataW.trod_lt m _ _ _ hm
  obtain ⟨z2, hr2, hw2⟩ := openA (d := 8) (t := 45) (ks := [.sl .flt]) (by kernel_rfl) (by kernel_rfl) (by kernel_rfl) (hval 2 45 v2 rfl rfl) h2
  have hg : GlOk gl W (St0 W) := fun g cs h => by cases h
  clear hA0 hval0
  refine (walk W z0 z1 z2 hw0 hw1 hw2 hg v0 v1 v2 hr0 hr1 hr2).mono fun e W' ⟨he, bel⟩ => ?_
  subst he
  exact ⟨_, rfl, _, _, _, [], _, [], hW', trodAll_mk1 (shut_bool Try.underlying4 _), (trodAll_cons_mk (Below.trod laidOut (by kernel_rfl) (of_decide_eq_true (by kernel_rfl)) k0 bel lt0) (trodAll_cons_mk (Below.trod laidOut (by kernel_rfl) (of_decide_eq_true (by kernel_rfl)) k1 bel lt1) (trodAll_cons_mk (Below.trod laidOut (by kernel_rfl) (of_decide_eq_true (by kernel_rfl)) k2 bel lt2) trodAll_mk0))), rfl, bel.frame _, fun h => by cases h⟩
theorem j1 : (Rows.fnExactEncodeRow.inPlace == Try.prog.inPlace 7) = true := by kernel_rfl
theorem j2 : (Rows.fnExactEncodeRow.unfollowed == Try.prog.unfollowed 7) = true := by kernel_rfl
theorem j3 : (Rows.fnExactEncodeRow.recurses == Try.prog.recurses 7) = true := by kernel_rfl
theorem j4 : (Rows.fnExactEncodeRow.named == Try.prog.varsNamed 7) = true := by kernel_rfl
theorem j5 : Rows.fnExactEncodeRow.wf (OpenSpec.ofChange Rows.fnExactEncodeSpec) = true := by kernel_rfl
theorem j6 : mapsRowed Try.prog = true := by kernel_rfl
theorem j7 : (Rows.fnExactEncodeRow.plainKeys == Try.prog.plainKeys) = true := by kernel_rfl
theorem j8 : Try.prog.mayEnter = true := by kernel_rfl
theorem j9 : (Rows.fnExactEncodeRow.lifted == Try.prog.liftsFinal) = true := by kernel_rfl
theorem jj : joinedFacts Try.prog 7 Try.f7 Rows.fnExactEncodeSpec Rows.fnExactEncodeRow = true := by
  unfold joinedFacts
  rw [j1, j2, j3, j4, j5, j6, j7, j8, j9, laidOut]
  kernel_rfl
theorem over : Rows.FnExactEncodeSaid :=
  OpenClaim.holds_of_wide 7 Try.f7 rfl rfl rfl rfl rfl rfl rfl ⟨rfl, rfl, rfl, rfl, rfl⟩ rfl rfl rfl rfl rfl (by kernel_rfl) Try.func7 jj
    (of_decide_eq_true (by kernel_rfl)) (by unfold Func.isWrapper; first | (rw [if_pos (by decide +kernel)]; kernel_rfl) | (rw [if_neg (by decide +kernel)]; exact ⟨rfl, rfl⟩))
    (fun os started H enc _ => lifted os started H enc)
end Go.Proofs.Ytgkejafaggaocaa.LawFnExactEncode
namespace Go.Proofs.Ytgkejafaggaocaa
theorem fnExactEncode_holds : Rows.FnExactEncodeSaid := LawFnExactEncode.over
#print axioms fnExactEncode_holds
end Go.Proofs.Ytgkejafaggaocaa
