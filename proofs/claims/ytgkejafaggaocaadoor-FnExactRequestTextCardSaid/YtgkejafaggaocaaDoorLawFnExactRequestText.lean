/-
  Part of a proof by the engine: texts that a program of ours printed, or plain lemmas on them. No condition but what each theorem says.
-/
import Derived.Test.YtgkejafaggaocaaDoorRows
import Derived.Test.YtgkejafaggaocaaDoorTie
import Derived.Test.YtgkejafaggaocaaDoorCards
import Derived.Test.YtgkejafaggaocaaDoorEng5
import Derived.Test.YtgkejafaggaocaaDoorRQ
import Derived.Test.YtgkejafaggaocaaDoorRQPlain
import Derived.WalkKit
import Derived.ProofKit
import Derived.OpenShut
import Derived.OpenVars
import Derived.ShutString
import Derived.ChangeOld
import Derived.Below
import Derived.LaidMore
import Derived.Stop.Joined
import Derived.Stop.LaidErr
import Derived.SevenTiedAt
import Derived.MakeChecks
set_option linter.unusedVariables false
set_option linter.unusedSimpArgs false
-- By row2.py, a program of ours.
namespace Go.Proofs.YtgkejafaggaocaaDoor.LawFnExactRequestText
open Go.ChangeShapes Go.WideShapes Go.ChangeAt Go.RowKit
open Go.Eng (St0 GlOk GlOne glOf_ok glOne_strs glOne_err glOne_arrS glOne_arrI RepAs avOf aggOf openA law_true kindsOf lineOk denKs wfKs vars_cons vars_nil) 
open Go.Proofs.YtgkejafaggaocaaDoor.RQ
open Go.Proofs.YtgkejafaggaocaaDoor.DT (L_strconv_uint64pow10)
theorem own : ownKnob Tryd.prog.godebug = none := by kernel_rfl
theorem laidOut : laidOutB Tryd.prog = true := by kernel_rfl
theorem walk (W : World) (z0 : denKs [.sl .str, .sl (.int .i64), .sl (.int .i64), .sl (.int .i64)]) (h0 : wfKs [.sl .str, .sl (.int .i64), .sl (.int .i64), .sl (.int .i64)] z0) (hg : GlOk gl W (St0 W)) (v0 : Value) (r0 : Go.Eng.RepA W (St0 W) (avOf true [.sl .str, .sl (.int .i64), .sl (.int .i64), .sl (.int .i64)] z0) v0) :
    Calls Tryd.prog 5 #[v0] W fun e w' => e = .returned (.bool true) ∧ Below W.heap.size W w' :=
  law_true (g := g_laws_FnExactRequestText) e_laws_FnExactRequestText hg (x := ((z0, ()), ())) (y := true) rfl ⟨r0, trivial⟩ (pure z0 h0) rfl
theorem door_met (os : Os) (args : Array Value) : laidMetH Tryd.prog Rows.fnExactRequestTextRow.laid ((World.doorLaid Tryd.prog 4000 os).forCall (fun _ _ => 0) ⟨#[], args, []⟩).memory :=
  laidMetH_of_parts3 (fuel := 12) (laidMet_of_run' 12 (by kernel_rfl) (by kernel_rfl)) (by kernel_rfl) (by kernel_rfl)
set_option maxRecDepth 100000 in
theorem lifted (os : Os) (started : os.Started) (H : Type) (enc : TypeId × Value → H) :
    ReturnsInHanded {} Tryd.checked os 5 .any (fun w args => (Rows.fnExactRequestTextSpec.pre enc Tryd.prog Tryd.f5 [] false w args ∧ laidMetH Tryd.prog Rows.fnExactRequestTextRow.laid w) ∧ sizedMet enc Tryd.prog Tryd.f5 (OpenSpec.ofChange Rows.fnExactRequestTextSpec) false w args)
      (Rows.fnExactRequestTextSpec.post enc Tryd.prog Tryd.f5 false true false false) := by
  refine returnsInHanded_of_change_and (C := Tryd.checked) (X := fun w _ => laidMetH Tryd.prog Rows.fnExactRequestTextRow.laid w) (fun _ _ _ hh h => h.of_heap hh) own started (by kernel_rfl) Tryd.func5
    (ChangeSpec.witness_shaped (enc := enc) (C := Tryd.checked) (os := os) (X := fun w _ => laidMetH Tryd.prog Rows.fnExactRequestTextRow.laid w) false (World.doorLaid Tryd.prog 4000 os) #[.agg #[(.slice none 0 0), (.slice none 0 0), (.slice none 0 0), (.slice none 0 0)]] 12 rfl (World.shaped_of_RefB (by kernel_rfl) (by kernel_rfl)) (by kernel_rfl) (by kernel_rfl) (by kernel_rfl) (door_met os _)) ?_
  intro W base args ds gs before hval0 hW _ _ hL _
  have hval : ∀ (j : Nat) t v, Tryd.f5.params[j]? = some t → args[j]? = some v → Value.okWide Tryd.prog W .any base t v := hval0
  have hW' := hW
  obtain ⟨p, q, hA0, hV, rfl, hfz, hnd⟩ := hW
  have hA : DataW.TrodAll enc Tryd.prog W 0 (fun _ => true) true Tryd.f5.params.toList args.toList ds p := hA0
  rw [Tryd.params5] at hA hval
  obtain ⟨v0, vs0, d0, ds0, p0, q0, hargs, rfl, rfl, h0, r0⟩ := trodAll_cons hA
  obtain ⟨rfl, rfl, rfl⟩ := trodAll_nil r0
  obtain rfl : args = #[v0] := by cases args; simp_all
  obtain ⟨rfl, rfl⟩ := trodVars_none hV
  have k0 := h0
  have lt0 : ∀ x ∈ p0, x.block < W.heap.size := by obtain ⟨m, hm⟩ := k0; exact DataW.trod_lt m _ _ _ hm
  obtain ⟨z0, hr0, hw0⟩ := openA (d := 8) (t := 37) (ks := [.sl .str, .sl (.int .i64), .sl (.int .i64), .sl (.int .i64)]) (by kernel_rfl) (by kernel_rfl) (by kernel_rfl) (hval 0 37 v0 rfl rfl) h0
  rw [MakeChecks.laidMetH_plain _ _ _ (by kernel_rfl)] at hL
  have hg : GlOk gl W (St0 W) := glOf_ok (by
    intro x hx
    simp only [List.mem_cons, List.not_mem_nil, or_false] at hx
    subst hx
    · exact glOne_arrI .u64 L_strconv_uint64pow10 (t := 160) (e := 112) (by kernel_rfl) (by kernel_rfl) Tryd.underlying160 Tryd.underlying112 (by kernel_rfl) (by kernel_rfl) (hL.tail.tail))
  clear hA0 hval0
  refine (walk W z0 hw0 hg v0 hr0).mono fun e W' ⟨he, bel⟩ => ?_
  subst he
  exact ⟨_, rfl, _, _, _, [], _, [], hW', trodAll_mk1 (shut_bool Tryd.underlying4 _), (trodAll_cons_mk (Below.trod laidOut (by kernel_rfl) (of_decide_eq_true (by kernel_rfl)) k0 bel lt0) trodAll_mk0), rfl, bel.frame _, fun h => by cases h⟩
theorem j1 : (Rows.fnExactRequestTextRow.inPlace == Tryd.prog.inPlace 5) = true := by kernel_rfl
theorem j2 : (Rows.fnExactRequestTextRow.unfollowed == Tryd.prog.unfollowed 5) = true := by kernel_rfl
theorem j3 : (Rows.fnExactRequestTextRow.recurses == Tryd.prog.recurses 5) = true := by kernel_rfl
theorem j4 : (Rows.fnExactRequestTextRow.named == Tryd.prog.varsNamed 5) = true := by kernel_rfl
theorem j5 : Rows.fnExactRequestTextRow.wf (OpenSpec.ofChange Rows.fnExactRequestTextSpec) = true := by kernel_rfl
theorem j6 : mapsRowed Tryd.prog = true := by kernel_rfl
theorem j7 : (Rows.fnExactRequestTextRow.plainKeys == Tryd.prog.plainKeys) = true := by kernel_rfl
theorem j8 : Tryd.prog.mayEnter = true := by kernel_rfl
theorem j9 : (Rows.fnExactRequestTextRow.lifted == Tryd.prog.liftsFinal) = true := by kernel_rfl
theorem jj : joinedFacts Tryd.prog 5 Tryd.f5 Rows.fnExactRequestTextSpec Rows.fnExactRequestTextRow = true := by
  unfold joinedFacts
  rw [j1, j2, j3, j4, j5, j6, j7, j8, j9, laidOut]
  kernel_rfl
theorem over : Rows.FnExactRequestTextSaid :=
  OpenClaim.holds_of_wide 5 Tryd.f5 rfl rfl rfl rfl rfl rfl rfl ⟨rfl, rfl, rfl, rfl, rfl⟩ rfl rfl rfl rfl rfl (by kernel_rfl) Tryd.func5 jj
    (of_decide_eq_true (by kernel_rfl)) (by unfold Func.isWrapper; first | (rw [if_pos (by decide +kernel)]; kernel_rfl) | (rw [if_neg (by decide +kernel)]; exact ⟨rfl, rfl⟩))
    (fun os started H enc _ => lifted os started H enc)
theorem card : Rows.FnExactRequestTextCardSaid :=
  Claim7.holds_tied_plain_at .later [] [.data, .data, .data] true (true, "c29019619ee5e2b329a797d0e3f8e1e26d011ccf5c261be484bca26e6e172b24") true
    over (fun _ h => by cases h) (by kernel_rfl) (fun _ h => by cases h) fnExactRequestText_row_tie rfl ⟨rfl, rfl⟩ (by kernel_rfl) rfl
    (fun f fn hf hfn => by
      obtain rfl : f = 5 := Option.some.inj ((show Tryd.prog.funcNamed Rows.fnExactRequestTextRow.func = some 5 by kernel_rfl).symm.trans hf) |>.symm
      obtain rfl : fn = Tryd.f5 := (Option.some.inj (Tryd.func5.symm.trans hfn)).symm
      exact ⟨by kernel_rfl, fun j t ht => by
        rw [Tryd.params5] at ht
        have hm : t ∈ [37] := by simpa using Array.mem_of_getElem? ht
        have hall : ([37].all fun u => !Tryd.prog.wantsStandIn u) = true := by kernel_rfl
        exact (show Tryd.prog.wantsStandIn t = false by simpa using List.all_eq_true.1 hall t hm)⟩)
    (by kernel_rfl)
end Go.Proofs.YtgkejafaggaocaaDoor.LawFnExactRequestText
namespace Go.Proofs.YtgkejafaggaocaaDoor
theorem fnExactRequestText_holds : Rows.FnExactRequestTextCardSaid := LawFnExactRequestText.card
#print axioms fnExactRequestText_holds
end Go.Proofs.YtgkejafaggaocaaDoor
