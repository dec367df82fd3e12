/-
  Part of a proof by the engine: texts that a program of ours printed, or plain lemmas on them. No condition but what each theorem says.
-/
import Derived.Test.YtgkejafaggaocaaRows
import Derived.Test.YtgkejafaggaocaaEng5
import Derived.Test.YtgkejafaggaocaaTN
import Derived.Test.YtgkejafaggaocaaTNPlain
import Derived.WalkKit
import Derived.ProofKit
import Derived.OpenShut
import Derived.OpenVars
import Derived.ShutString
import Derived.ChangeOld
import Derived.Below
import Derived.LaidMore
import Derived.Stop.Joined
import Derived.Stop.LaidErr
import Derived.SevenTiedAt
import Derived.MakeChecks
set_option linter.unusedVariables false
set_option linter.unusedSimpArgs false
-- By row2.py, a program of ours.
namespace Go.Proofs.Ytgkejafaggaocaa.LawFnTablesBack
open Go.ChangeShapes Go.WideShapes Go.ChangeAt Go.RowKit
open Go.Eng (St0 GlOk GlOne glOf_ok glOne_strs glOne_arrS glOne_arrI RepAs avOf aggOf openA law_true kindsOf lineOk denKs wfKs vars_cons vars_nil) 
open Go.Proofs.Ytgkejafaggaocaa.TN
theorem own : ownKnob Try.prog.godebug = none := by kernel_rfl
theorem laidOut : laidOutB Try.prog = true := by kernel_rfl
theorem walk (W : World) (z0 : denKs [.sl (.int .u8)]) (h0 : wfKs [.sl (.int .u8)] z0) (hg : GlOk gl W (St0 W)) (v0 : Value) (r0 : Go.Eng.RepA W (St0 W) (avOf false [.sl (.int .u8)] z0) v0) :
    Calls Try.prog 8 #[v0] W fun e w' => e = .returned (.bool true) ∧ Below W.heap.size W w' :=
  law_true (g := g_laws_FnTablesBack) e_laws_FnTablesBack hg (x := ((z0.1, ()), ())) (y := true) rfl ⟨r0, trivial⟩ (pure z0 h0) rfl
set_option maxRecDepth 100000 in
theorem lifted (os : Os) (started : os.Started) (H : Type) (enc : TypeId × Value → H) :
    ReturnsInHanded {} Try.checked os 8 .any (Rows.fnTablesBackSpec.pre6 enc Try.prog Try.f8 Rows.fnTablesBackRow.domain false) (Rows.fnTablesBackSpec.post enc Try.prog Try.f8 false true false false) := by
  refine returnsInHanded_of_change (C := Try.checked) own started (by kernel_rfl) Try.func8
    (ChangeSpec.witness6 (enc := enc) (C := Try.checked) false ⟨#[], #[.slice none 0 0], []⟩ 12 (by kernel_rfl) (by kernel_rfl) (by kernel_rfl) (by kernel_rfl)) ?_
  intro W base args ds gs before hval0 hW hcnd _
  have hval : ∀ (j : Nat) t v, Try.f8.params[j]? = some t → args[j]? = some v → Value.okWide Try.prog W .any base t v := hval0
  have hW' := hW
  obtain ⟨p, q, hA0, hV, rfl, hfz, hnd⟩ := hW
  have hA : DataW.TrodAll enc Try.prog W 0 (fun _ => true) true Try.f8.params.toList args.toList ds p := hA0
  rw [Try.params8] at hA hval
  obtain ⟨v0, vs0, d0, ds0, p0, q0, hargs, rfl, rfl, h0, r0⟩ := trodAll_cons hA
  obtain ⟨rfl, rfl, rfl⟩ := trodAll_nil r0
  obtain rfl : args = #[v0] := by cases args; simp_all
  obtain ⟨rfl, rfl⟩ := trodVars_none hV
  have k0 := h0
  have lt0 : ∀ x ∈ p0, x.block < W.heap.size := by obtain ⟨m, hm⟩ := k0; exact DataW.trod_lt m _ _ _ hm
  obtain ⟨z0, hr0, hw0⟩ := openA (d := 8) (t := 34) (ks := [.sl (.int .u8)]) (by kernel_rfl) (by kernel_rfl) (by kernel_rfl) (hval 0 34 v0 rfl rfl) h0
  have hg : GlOk gl W (St0 W) := fun g cs h => by cases h
  clear hA0 hval0
  refine (walk W z0 hw0 hg v0 hr0).mono fun e W' ⟨he, bel⟩ => ?_
  subst he
  exact ⟨_, rfl, _, _, _, [], _, [], hW', trodAll_mk1 (shut_bool Try.underlying4 _), (trodAll_cons_mk (Below.trod laidOut (by kernel_rfl) (of_decide_eq_true (by kernel_rfl)) k0 bel lt0) trodAll_mk0), rfl, bel.frame _, fun h => by cases h⟩
theorem j1 : (Rows.fnTablesBackRow.inPlace == Try.prog.inPlace 8) = true := by kernel_rfl
theorem j2 : (Rows.fnTablesBackRow.unfollowed == Try.prog.unfollowed 8) = true := by kernel_rfl
theorem j3 : (Rows.fnTablesBackRow.recurses == Try.prog.recurses 8) = true := by kernel_rfl
theorem j4 : (Rows.fnTablesBackRow.named == Try.prog.varsNamed 8) = true := by kernel_rfl
theorem j5 : Rows.fnTablesBackRow.wf (OpenSpec.ofChange Rows.fnTablesBackSpec) = true := by kernel_rfl
theorem j6 : mapsRowed Try.prog = true := by kernel_rfl
theorem j7 : (Rows.fnTablesBackRow.plainKeys == Try.prog.plainKeys) = true := by kernel_rfl
theorem j8 : Try.prog.mayEnter = true := by kernel_rfl
theorem j9 : (Rows.fnTablesBackRow.lifted == Try.prog.liftsFinal) = true := by kernel_rfl
theorem jj : joinedFacts Try.prog 8 Try.f8 Rows.fnTablesBackSpec Rows.fnTablesBackRow = true := by
  unfold joinedFacts
  rw [j1, j2, j3, j4, j5, j6, j7, j8, j9, laidOut]
  kernel_rfl
theorem over : Rows.FnTablesBackSaid :=
  OpenClaim.holds_of_wide 8 Try.f8 rfl rfl rfl rfl rfl rfl rfl ⟨rfl, rfl, rfl, rfl, rfl⟩ rfl rfl rfl rfl rfl (by kernel_rfl) Try.func8 jj
    (of_decide_eq_true (by kernel_rfl)) (by unfold Func.isWrapper; first | (rw [if_pos (by decide +kernel)]; kernel_rfl) | (rw [if_neg (by decide +kernel)]; exact ⟨rfl, rfl⟩))
    (fun os started H enc _ => lifted os started H enc)
end Go.Proofs.Ytgkejafaggaocaa.LawFnTablesBack
namespace Go.Proofs.Ytgkejafaggaocaa
theorem fnTablesBack_holds : Rows.FnTablesBackSaid := LawFnTablesBack.over
#print axioms fnTablesBack_holds
end Go.Proofs.Ytgkejafaggaocaa
