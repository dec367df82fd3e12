/-
  Part of a proof by the engine: texts that a program of ours printed, or plain lemmas on them. No condition but what each theorem says.
-/
import Derived.Test.YtondfjckadlabaaDoorRows
import Derived.Test.YtondfjckadlabaaDoorTie
import Derived.Test.YtondfjckadlabaaDoorCards
import Derived.Test.YtondfjckadlabaaDoorEng5
import Derived.Test.YtondfjckadlabaaDoorOT
import Derived.Test.YtondfjckadlabaaDoorOTPlain
import Derived.WalkKit
import Derived.ProofKit
import Derived.OpenShut
import Derived.OpenVars
import Derived.ShutString
import Derived.ChangeOld
import Derived.Below
import Derived.LaidMore
import Derived.Stop.Joined
import Derived.Stop.LaidErr
import Derived.SevenTiedAt
import Derived.MakeChecks
set_option linter.unusedVariables false
set_option linter.unusedSimpArgs false
-- By row2.py, a program of ours.
namespace Go.Proofs.YtondfjckadlabaaDoor.LawFnExactObsText
open Go.ChangeShapes Go.WideShapes Go.ChangeAt Go.RowKit
open Go.Eng (St0 GlOk GlOne glOf_ok glOne_strs glOne_err glOne_arrS glOne_arrI RepAs avOf aggOf openA law_true kindsOf lineOk denKs wfKs vars_cons vars_nil) 
open Go.Proofs.YtondfjckadlabaaDoor.OT
open Go.Proofs.YtondfjckadlabaaDoor.DT (L_strconv_uint64pow10)
theorem own : ownKnob Tryd.prog.godebug = none := by kernel_rfl
theorem laidOut : laidOutB Tryd.prog = true := by kernel_rfl
theorem walk (W : World) (z0 : denKs [.int .i64, .flt, .flt, .flt, .int .i64, .flt, .flt, .flt, .int .i64, .int .i64]) (h0 : wfKs [.int .i64, .flt, .flt, .flt, .int .i64, .flt, .flt, .flt, .int .i64, .int .i64] z0) (hg : GlOk gl W (St0 W)) (v0 : Value) (r0 : Go.Eng.RepA W (St0 W) (avOf true [.int .i64, .flt, .flt, .flt, .int .i64, .flt, .flt, .flt, .int .i64, .int .i64] z0) v0) :
    Calls Tryd.prog 4 #[v0] W fun e w' => e = .returned (.bool true) ∧ Below W.heap.size W w' :=
  law_true (g := g_laws_FnExactObsText) e_laws_FnExactObsText hg (x := ((z0, ()), ())) (y := true) rfl ⟨r0, trivial⟩ (pure z0 h0) rfl
theorem door_met (os : Os) (args : Array Value) : laidMetH Tryd.prog Rows.fnExactObsTextRow.laid ((World.doorLaid Tryd.prog 4000 os).forCall (fun _ _ => 0) ⟨#[], args, []⟩).memory :=
  laidMetH_of_parts3 (fuel := 12) (laidMet_of_run' 12 (by kernel_rfl) (by kernel_rfl)) (by kernel_rfl) (by kernel_rfl)
set_option maxRecDepth 100000 in
theorem lifted (os : Os) (started : os.Started) (H : Type) (enc : TypeId × Value → H) :
    ReturnsInHanded {} Tryd.checked os 4 .any (fun w args => (Rows.fnExactObsTextSpec.pre enc Tryd.prog Tryd.f4 [] false w args ∧ laidMetH Tryd.prog Rows.fnExactObsTextRow.laid w) ∧ sizedMet enc Tryd.prog Tryd.f4 (OpenSpec.ofChange Rows.fnExactObsTextSpec) false w args)
      (Rows.fnExactObsTextSpec.post enc Tryd.prog Tryd.f4 false true false false) := by
  refine returnsInHanded_of_change_and (C := Tryd.checked) (X := fun w _ => laidMetH Tryd.prog Rows.fnExactObsTextRow.laid w) (fun _ _ _ hh h => h.of_heap hh) own started (by kernel_rfl) Tryd.func4
    (ChangeSpec.witness_shaped (enc := enc) (C := Tryd.checked) (os := os) (X := fun w _ => laidMetH Tryd.prog Rows.fnExactObsTextRow.laid w) false (World.doorLaid Tryd.prog 4000 os) #[.agg #[(.int .i64 0), (.float .f64 0), (.float .f64 0), (.float .f64 0), (.int .i64 0), (.float .f64 0), (.float .f64 0), (.float .f64 0), (.int .i64 0), (.int .i64 0)]] 12 rfl (World.shaped_of_RefB (by kernel_rfl) (by kernel_rfl)) (by kernel_rfl) (by kernel_rfl) (by kernel_rfl) (door_met os _)) ?_
  intro W base args ds gs before hval0 hW _ _ hL _
  have hval : ∀ (j : Nat) t v, Tryd.f4.params[j]? = some t → args[j]? = some v → Value.okWide Tryd.prog W .any base t v := hval0
  have hW' := hW
  obtain ⟨p, q, hA0, hV, rfl, hfz, hnd⟩ := hW
  have hA : DataW.TrodAll enc Tryd.prog W 0 (fun _ => true) true Tryd.f4.params.toList args.toList ds p := hA0
  rw [Tryd.params4] at hA hval
  obtain ⟨v0, vs0, d0, ds0, p0, q0, hargs, rfl, rfl, h0, r0⟩ := trodAll_cons hA
  obtain ⟨rfl, rfl, rfl⟩ := trodAll_nil r0
  obtain rfl : args = #[v0] := by cases args; simp_all
  obtain ⟨rfl, rfl⟩ := trodVars_none hV
  have k0 := h0
  have lt0 : ∀ x ∈ p0, x.block < W.heap.size := by obtain ⟨m, hm⟩ := k0; exact DataW.trod_lt m _ _ _ hm
  obtain ⟨z0, hr0, hw0⟩ := openA (d := 8) (t := 32) (ks := [.int .i64, .flt, .flt, .flt, .int .i64, .flt, .flt, .flt, .int .i64, .int .i64]) (by kernel_rfl) (by kernel_rfl) (by kernel_rfl) (hval 0 32 v0 rfl rfl) h0
  rw [MakeChecks.laidMetH_plain _ _ _ (by kernel_rfl)] at hL
  have hg : GlOk gl W (St0 W) := glOf_ok (by
    intro x hx
    simp only [List.mem_cons, List.not_mem_nil, or_false] at hx
    subst hx
    · exact glOne_arrI .u64 L_strconv_uint64pow10 (t := 117) (e := 85) (by kernel_rfl) (by kernel_rfl) Tryd.underlying117 Tryd.underlying85 (by kernel_rfl) (by kernel_rfl) (hL.tail.tail))
  clear hA0 hval0
  refine (walk W z0 hw0 hg v0 hr0).mono fun e W' ⟨he, bel⟩ => ?_
  subst he
  exact ⟨_, rfl, _, _, _, [], _, [], hW', trodAll_mk1 (shut_bool Tryd.underlying4 _), (trodAll_cons_mk (Below.trod laidOut (by kernel_rfl) (of_decide_eq_true (by kernel_rfl)) k0 bel lt0) trodAll_mk0), rfl, bel.frame _, fun h => by cases h⟩
theorem j1 : (Rows.fnExactObsTextRow.inPlace == Tryd.prog.inPlace 4) = true := by kernel_rfl
theorem j2 : (Rows.fnExactObsTextRow.unfollowed == Tryd.prog.unfollowed 4) = true := by kernel_rfl
theorem j3 : (Rows.fnExactObsTextRow.recurses == Tryd.prog.recurses 4) = true := by kernel_rfl
theorem j4 : (Rows.fnExactObsTextRow.named == Tryd.prog.varsNamed 4) = true := by kernel_rfl
theorem j5 : Rows.fnExactObsTextRow.wf (OpenSpec.ofChange Rows.fnExactObsTextSpec) = true := by kernel_rfl
theorem j6 : mapsRowed Tryd.prog = true := by kernel_rfl
theorem j7 : (Rows.fnExactObsTextRow.plainKeys == Tryd.prog.plainKeys) = true := by kernel_rfl
theorem j8 : Tryd.prog.mayEnter = true := by kernel_rfl
theorem j9 : (Rows.fnExactObsTextRow.lifted == Tryd.prog.liftsFinal) = true := by kernel_rfl
theorem jj : joinedFacts Tryd.prog 4 Tryd.f4 Rows.fnExactObsTextSpec Rows.fnExactObsTextRow = true := by
  unfold joinedFacts
  rw [j1, j2, j3, j4, j5, j6, j7, j8, j9, laidOut]
  kernel_rfl
theorem over : Rows.FnExactObsTextSaid :=
  OpenClaim.holds_of_wide 4 Tryd.f4 rfl rfl rfl rfl rfl rfl rfl ⟨rfl, rfl, rfl, rfl, rfl⟩ rfl rfl rfl rfl rfl (by kernel_rfl) Tryd.func4 jj
    (of_decide_eq_true (by kernel_rfl)) (by unfold Func.isWrapper; first | (rw [if_pos (by decide +kernel)]; kernel_rfl) | (rw [if_neg (by decide +kernel)]; exact ⟨rfl, rfl⟩))
    (fun os started H enc _ => lifted os started H enc)
theorem card : Rows.FnExactObsTextCardSaid :=
  Claim7.holds_tied_plain_at .later [] [.data, .data, .data] true (true, "12fb5d6a554232e0d6d8141d152058a861e3f366fdf39fe19d3a74ccb4099ab3") false
    over (fun _ h => by cases h) (by as_aux_lemma => kernel_rfl) (fun _ h => by cases h) fnExactObsText_row_tie rfl ⟨rfl, rfl⟩ (by as_aux_lemma => kernel_rfl) rfl
    (fun f fn hf hfn => by
      obtain rfl : f = 4 := Option.some.inj ((show Tryd.prog.funcNamed Rows.fnExactObsTextRow.func = some 4 by as_aux_lemma => kernel_rfl).symm.trans hf) |>.symm
      obtain rfl : fn = Tryd.f4 := (Option.some.inj (Tryd.func4.symm.trans hfn)).symm
      exact ⟨by as_aux_lemma => kernel_rfl, fun j t ht => by
        rw [Tryd.params4] at ht
        have hm : t ∈ [32] := by simpa using Array.mem_of_getElem? ht
        have hall : ([32].all fun u => !Tryd.prog.wantsStandIn u) = true := by as_aux_lemma => kernel_rfl
        exact (show Tryd.prog.wantsStandIn t = false by simpa using List.all_eq_true.1 hall t hm)⟩)
    (by as_aux_lemma => kernel_rfl)
end Go.Proofs.YtondfjckadlabaaDoor.LawFnExactObsText
namespace Go.Proofs.YtondfjckadlabaaDoor
theorem fnExactObsText_holds : Rows.FnExactObsTextCardSaid := LawFnExactObsText.card
#print axioms fnExactObsText_holds
end Go.Proofs.YtondfjckadlabaaDoor
