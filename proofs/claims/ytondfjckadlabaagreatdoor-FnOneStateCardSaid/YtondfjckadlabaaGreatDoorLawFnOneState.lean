/-
  Part of a proof by the engine: texts that a program of ours printed, or plain lemmas on them. No condition but what each theorem says.
-/
import Derived.Test.YtondfjckadlabaaGreatDoorRows
import Derived.Test.YtondfjckadlabaaGreatDoorTie
import Derived.Test.YtondfjckadlabaaGreatDoorCards
import Derived.Test.YtondfjckadlabaaGreatDoorEng5
import Derived.Test.YtondfjckadlabaaGreatDoorON
import Derived.Test.YtondfjckadlabaaGreatDoorONPlain
import Derived.Lay
import Derived.WalkKit
import Derived.ProofKit
import Derived.OpenShut
import Derived.OpenVars
import Derived.ShutString
import Derived.ChangeOld
import Derived.Below
import Derived.LaidMore
import Derived.Stop.Joined
import Derived.Stop.LaidErr
import Derived.SevenTiedAt
import Derived.MakeChecks
set_option linter.unusedVariables false
set_option linter.unusedSimpArgs false
-- By row2.py, a program of ours.
namespace Go.Proofs.YtondfjckadlabaaGreatDoor.LawFnOneState
open Go.ChangeShapes Go.WideShapes Go.ChangeAt Go.RowKit
open Go.Eng (St0 GlOk GlOne glOf_ok glOne_strs glOne_err glOne_arrS glOne_arrI RepAs avOf aggOf openA law_true kindsOf lineOk denKs wfKs vars_cons vars_nil) 
open Go.Proofs.YtondfjckadlabaaGreatDoor.ON
open Go.Proofs.YtondfjckadlabaaGreatDoor.DT (L_strconv_uint64pow10)
open Go.Proofs.YtondfjckadlabaaGreatDoor.SA (L_impl_weathers L_impl_covers)
open Go.Proofs.YtondfjckadlabaaGreatDoor.TT (L_impl_changeWords)
theorem own : ownKnob Tryz.prog.godebug = none := by kernel_rfl
theorem laidOut : laidOutB Tryz.prog = true := by kernel_rfl
theorem walk (W : World) (z0 : denKs [.sl (.int .u8)]) (h0 : wfKs [.sl (.int .u8)] z0) (hg : GlOk gl W (St0 W)) (v0 : Value) (r0 : Go.Eng.RepA W (St0 W) (avOf false [.sl (.int .u8)] z0) v0) :
    Calls Tryz.prog 5 #[v0] W fun e w' => e = .returned (.bool true) ∧ Below W.heap.size W w' :=
  law_true (g := g_laws_FnOneState) e_laws_FnOneState hg (x := ((z0.1, ()), ())) (y := true) rfl ⟨r0, trivial⟩ (pure z0 h0) rfl
theorem door_met (os : Os) (args : Array Value) : laidMetH Tryz.prog Rows.fnOneStateRow.laid ((World.laidAll Tryz.prog os Rows.fnOneStateRow.laid).forCall (fun _ _ => 0) ⟨#[], args, []⟩).memory := by
  rw [MakeChecks.laidMetH_plain _ _ _ (by kernel_rfl)]
  exact laidMet_laidAll _ (by kernel_rfl) (by kernel_rfl)
set_option maxRecDepth 100000 in
theorem lifted (os : Os) (started : os.Started) (H : Type) (enc : TypeId × Value → H) :
    ReturnsInHanded {} Tryz.checked os 5 .any (fun w args => (Rows.fnOneStateSpec.pre enc Tryz.prog Tryz.f5 [] false w args ∧ laidMetH Tryz.prog Rows.fnOneStateRow.laid w) ∧ sizedMet enc Tryz.prog Tryz.f5 (OpenSpec.ofChange Rows.fnOneStateSpec) false w args)
      (Rows.fnOneStateSpec.post enc Tryz.prog Tryz.f5 false true false false) := by
  refine returnsInHanded_of_change_and (C := Tryz.checked) (X := fun w _ => laidMetH Tryz.prog Rows.fnOneStateRow.laid w) (fun _ _ _ hh h => h.of_heap hh) own started (by kernel_rfl) Tryz.func5
    (ChangeSpec.witness_shaped (enc := enc) (C := Tryz.checked) (os := os) (X := fun w _ => laidMetH Tryz.prog Rows.fnOneStateRow.laid w) false (World.laidAll Tryz.prog os Rows.fnOneStateRow.laid) #[.slice none 0 0] 12 (World.laidAll_os _ _ _) (World.shaped_of_ZipB (by kernel_rfl) (by kernel_rfl)) (by kernel_rfl) (by kernel_rfl) (by kernel_rfl) (door_met os _)) ?_
  intro W base args ds gs before hval0 hW _ _ hL _
  have hval : ∀ (j : Nat) t v, Tryz.f5.params[j]? = some t → args[j]? = some v → Value.okWide Tryz.prog W .any base t v := hval0
  have hW' := hW
  obtain ⟨p, q, hA0, hV, rfl, hfz, hnd⟩ := hW
  have hA : DataW.TrodAll enc Tryz.prog W 0 (fun _ => true) true Tryz.f5.params.toList args.toList ds p := hA0
  rw [Tryz.params5] at hA hval
  obtain ⟨v0, vs0, d0, ds0, p0, q0, hargs, rfl, rfl, h0, r0⟩ := trodAll_cons hA
  obtain ⟨rfl, rfl, rfl⟩ := trodAll_nil r0
  obtain rfl : args = #[v0] := by cases args; simp_all
  obtain ⟨y0, gs0, pv0, rfl, hV0⟩ := vars_cons hV
  obtain ⟨y1, gs1, pv1, rfl, hV1⟩ := vars_cons hV0
  obtain ⟨y2, gs2, pv2, rfl, hV2⟩ := vars_cons hV1
  obtain rfl := vars_nil hV2
  have k0 := h0
  have lt0 : ∀ x ∈ p0, x.block < W.heap.size := by obtain ⟨m, hm⟩ := k0; exact DataW.trod_lt m _ _ _ hm
  obtain ⟨z0, hr0, hw0⟩ := openA (d := 8) (t := 34) (ks := [.sl (.int .u8)]) (by kernel_rfl) (by kernel_rfl) (by kernel_rfl) (hval 0 34 v0 rfl rfl) h0
  rw [MakeChecks.laidMetH_plain _ _ _ (by kernel_rfl)] at hL
  have hg : GlOk gl W (St0 W) := glOf_ok (by
    intro x hx
    simp only [List.mem_cons, List.not_mem_nil, or_false] at hx
    rcases hx with rfl | rfl | rfl | rfl
    · exact glOne_arrS L_impl_changeWords (t := 97) (e := 9) (by kernel_rfl) (by kernel_rfl) Tryz.underlying97 Tryz.underlying9 (by kernel_rfl) (by kernel_rfl) (hL.tail.tail.tail.tail.tail.tail.tail.tail)
    · exact glOne_strs L_impl_weathers (t := 51) (e := 9) (by kernel_rfl) (by kernel_rfl) Tryz.underlying51 Tryz.underlying9 (by kernel_rfl) (hL.tail.tail.tail.tail.tail.tail)
    · exact glOne_strs L_impl_covers (t := 51) (e := 9) (by kernel_rfl) (by kernel_rfl) Tryz.underlying51 Tryz.underlying9 (by kernel_rfl) (hL.tail.tail.tail.tail.tail.tail.tail)
    · exact glOne_arrI .u64 L_strconv_uint64pow10 (t := 284) (e := 183) (by kernel_rfl) (by kernel_rfl) Tryz.underlying284 Tryz.underlying183 (by kernel_rfl) (by kernel_rfl) (hL.tail.tail))
  clear hA0 hval0
  refine (walk W z0 hw0 hg v0 hr0).mono fun e W' ⟨he, bel⟩ => ?_
  subst he
  exact ⟨_, rfl, _, _, _, [], _, _, hW', trodAll_mk1 (shut_bool Tryz.underlying4 _), (trodAll_cons_mk (Below.trod laidOut (by kernel_rfl) (of_decide_eq_true (by kernel_rfl)) k0 bel lt0) trodAll_mk0), Below.trodVars laidOut bel (by kernel_rfl) hV, bel.frame _, fun h => by cases h⟩
theorem j1 : (Rows.fnOneStateRow.inPlace == Tryz.prog.inPlace 5) = true := by kernel_rfl
theorem j2 : (Rows.fnOneStateRow.unfollowed == Tryz.prog.unfollowed 5) = true := by kernel_rfl
theorem j3 : (Rows.fnOneStateRow.recurses == Tryz.prog.recurses 5) = true := by kernel_rfl
theorem j4 : (Rows.fnOneStateRow.named == Tryz.prog.varsNamed 5) = true := by kernel_rfl
theorem j5 : Rows.fnOneStateRow.wf (OpenSpec.ofChange Rows.fnOneStateSpec) = true := by kernel_rfl
theorem j6 : mapsRowed Tryz.prog = true := by kernel_rfl
theorem j7 : (Rows.fnOneStateRow.plainKeys == Tryz.prog.plainKeys) = true := by kernel_rfl
theorem j8 : Tryz.prog.mayEnter = true := by kernel_rfl
theorem j9 : (Rows.fnOneStateRow.lifted == Tryz.prog.liftsFinal) = true := by kernel_rfl
theorem jj : joinedFacts Tryz.prog 5 Tryz.f5 Rows.fnOneStateSpec Rows.fnOneStateRow = true := by
  unfold joinedFacts
  rw [j1, j2, j3, j4, j5, j6, j7, j8, j9, laidOut]
  kernel_rfl
theorem over : Rows.FnOneStateSaid :=
  OpenClaim.holds_of_wide 5 Tryz.f5 rfl rfl rfl rfl rfl rfl rfl ⟨rfl, rfl, rfl, rfl, rfl⟩ rfl rfl rfl rfl rfl (by kernel_rfl) Tryz.func5 jj
    (of_decide_eq_true (by kernel_rfl)) (by unfold Func.isWrapper; first | (rw [if_pos (by decide +kernel)]; kernel_rfl) | (rw [if_neg (by decide +kernel)]; exact ⟨rfl, rfl⟩))
    (fun os started H enc _ => lifted os started H enc)
theorem card : Rows.FnOneStateCardSaid :=
  Claim7.holds_tied_plain_at .later [] [.data, .data, .data, .data, .sentinel, .sentinel, .widerDeep, .widerDeep, .widerDeep, .pinned] true (true, "3082645d0461e532b4f0977c5ad154d3677a3fdcd6b2cbd18c114a62ea021d07") true
    over (fun _ h => by cases h) (by as_aux_lemma => kernel_rfl) (fun _ h => by cases h) fnOneState_row_tie rfl ⟨rfl, rfl⟩ (by as_aux_lemma => kernel_rfl) rfl
    (fun f fn hf hfn => by
      obtain rfl : f = 5 := Option.some.inj ((show Tryz.prog.funcNamed Rows.fnOneStateRow.func = some 5 by as_aux_lemma => kernel_rfl).symm.trans hf) |>.symm
      obtain rfl : fn = Tryz.f5 := (Option.some.inj (Tryz.func5.symm.trans hfn)).symm
      exact ⟨by as_aux_lemma => kernel_rfl, fun j t ht => by
        rw [Tryz.params5] at ht
        have hm : t ∈ [34] := by simpa using Array.mem_of_getElem? ht
        have hall : ([34].all fun u => !Tryz.prog.wantsStandIn u) = true := by as_aux_lemma => kernel_rfl
        exact (show Tryz.prog.wantsStandIn t = false by simpa using List.all_eq_true.1 hall t hm)⟩)
    (by as_aux_lemma => kernel_rfl)
end Go.Proofs.YtondfjckadlabaaGreatDoor.LawFnOneState
namespace Go.Proofs.YtondfjckadlabaaGreatDoor
theorem fnOneState_holds : Rows.FnOneStateCardSaid := LawFnOneState.card
#print axioms fnOneState_holds
end Go.Proofs.YtondfjckadlabaaGreatDoor
