/-
  Part of a proof by the engine: texts that a program of ours printed, or plain lemmas on them. No condition but what each theorem says.
-/
import Derived.Test.YtmcmkdiefpepnaaDoorRows
import Derived.Test.YtmcmkdiefpepnaaDoorTie
import Derived.Test.YtmcmkdiefpepnaaDoorCards
import Derived.Test.YtmcmkdiefpepnaaDoorEng5
import Derived.Test.YtmcmkdiefpepnaaDoorTD
import Derived.Test.YtmcmkdiefpepnaaDoorTDPlain
import Derived.WalkKit
import Derived.ProofKit
import Derived.OpenShut
import Derived.OpenVars
import Derived.ShutString
import Derived.ChangeOld
import Derived.Below
import Derived.LaidMore
import Derived.Stop.Joined
import Derived.Stop.LaidErr
import Derived.SevenTiedAt
import Derived.MakeChecks
set_option linter.unusedVariables false
set_option linter.unusedSimpArgs false
-- By row2.py, a program of ours.
namespace Go.Proofs.YtmcmkdiefpepnaaDoor.LawFnExactTold
open Go.ChangeShapes Go.WideShapes Go.ChangeAt Go.RowKit
open Go.Eng (St0 GlOk GlOne glOf_ok glOne_strs glOne_arrS glOne_arrI RepAs avOf aggOf openA law_true kindsOf lineOk denKs wfKs vars_cons vars_nil) 
open Go.Proofs.YtmcmkdiefpepnaaDoor.TD
open Go.Proofs.YtmcmkdiefpepnaaDoor.DT (L_strconv_uint64pow10)
theorem own : ownKnob Tryd.prog.godebug = none := by kernel_rfl
theorem laidOut : laidOutB Tryd.prog = true := by kernel_rfl
theorem walk (W : World) (z0 : denKs [.flt]) (z1 : denKs [.int .i64]) (h0 : wfKs [.flt] z0) (h1 : wfKs [.int .i64] z1) (hg : GlOk gl W (St0 W)) (v0 : Value) (v1 : Value) (r0 : Go.Eng.RepA W (St0 W) (avOf false [.flt] z0) v0) (r1 : Go.Eng.RepA W (St0 W) (avOf false [.int .i64] z1) v1) :
    Calls Tryd.prog 4 #[v0, v1] W fun e w' => e = .returned (.bool true) ∧ Below W.heap.size W w' :=
  law_true (g := g_laws_FnExactTold) e_laws_FnExactTold hg (x := ((z0.1, z1.1, ()), ())) (y := true) rfl ⟨r0, r1, trivial⟩ (pure z0 z1 h0 h1) rfl
theorem door_met (os : Os) (args : Array Value) : laidMetH Tryd.prog Rows.fnExactToldRow.laid ((World.doorLaid Tryd.prog 4000 os).forCall (fun _ _ => 0) ⟨#[], args, []⟩).memory :=
  laidMetH_of_parts3 (fuel := 12) (laidMet_of_run' 12 (by kernel_rfl) (by kernel_rfl)) (by kernel_rfl) (by kernel_rfl)
set_option maxRecDepth 100000 in
theorem lifted (os : Os) (started : os.Started) (H : Type) (enc : TypeId × Value → H) :
    ReturnsInHanded {} Tryd.checked os 4 .any (fun w args => (Rows.fnExactToldSpec.pre enc Tryd.prog Tryd.f4 [] false w args ∧ laidMetH Tryd.prog Rows.fnExactToldRow.laid w) ∧ sizedMet enc Tryd.prog Tryd.f4 (OpenSpec.ofChange Rows.fnExactToldSpec) false w args)
      (Rows.fnExactToldSpec.post enc Tryd.prog Tryd.f4 false true false false) := by
  refine returnsInHanded_of_change_and (C := Tryd.checked) (X := fun w _ => laidMetH Tryd.prog Rows.fnExactToldRow.laid w) (fun _ _ _ hh h => h.of_heap hh) own started (by kernel_rfl) Tryd.func4
    (ChangeSpec.witness_shaped (enc := enc) (C := Tryd.checked) (os := os) (X := fun w _ => laidMetH Tryd.prog Rows.fnExactToldRow.laid w) false (World.doorLaid Tryd.prog 4000 os) #[.float .f64 0, .int .i64 0] 12 rfl (World.shaped_of_RefB (by kernel_rfl) (by kernel_rfl)) (by kernel_rfl) (by kernel_rfl) (by kernel_rfl) (door_met os _)) ?_
  intro W base args ds gs before hval0 hW _ _ hL _
  have hval : ∀ (j : Nat) t v, Tryd.f4.params[j]? = some t → args[j]? = some v → Value.okWide Tryd.prog W .any base t v := hval0
  have hW' := hW
  obtain ⟨p, q, hA0, hV, rfl, hfz, hnd⟩ := hW
  have hA : DataW.TrodAll enc Tryd.prog W 0 (fun _ => true) true Tryd.f4.params.toList args.toList ds p := hA0
  rw [Tryd.params4] at hA hval
  obtain ⟨v0, vs0, d0, ds0, p0, q0, hargs, rfl, rfl, h0, r0⟩ := trodAll_cons hA
  obtain ⟨v1, vs1, d1, ds1, p1, q1, rfl, rfl, rfl, h1, r1⟩ := trodAll_cons r0
  obtain ⟨rfl, rfl, rfl⟩ := trodAll_nil r1
  obtain rfl : args = #[v0, v1] := by cases args; simp_all
  obtain ⟨rfl, rfl⟩ := trodVars_none hV
  have k0 := h0
  have lt0 : ∀ x ∈ p0, x.block < W.heap.size := by obtain ⟨m, hm⟩ := k0; exact DataW.trod_lt m _ _ _ hm
  obtain ⟨z0, hr0, hw0⟩ := openA (d := 8) (t := 45) (ks := [.flt]) (by kernel_rfl) (by kernel_rfl) (by kernel_rfl) (hval 0 45 v0 rfl rfl) h0
  have k1 := h1
  have lt1 : ∀ x ∈ p1, x.block < W.heap.size := by obtain ⟨m, hm⟩ := k1; exact DataW.trod_lt m _ _ _ hm
  obtain ⟨z1, hr1, hw1⟩ := openA (d := 8) (t := 2) (ks := [.int .i64]) (by kernel_rfl) (by kernel_rfl) (by kernel_rfl) (hval 1 2 v1 rfl rfl) h1
  rw [MakeChecks.laidMetH_plain _ _ _ (by kernel_rfl)] at hL
  have hg : GlOk gl W (St0 W) := glOf_ok (by
    intro x hx
    simp only [List.mem_cons, List.not_mem_nil, or_false] at hx
    subst hx
    · exact glOne_arrI .u64 L_strconv_uint64pow10 (t := 215) (e := 162) (by kernel_rfl) (by kernel_rfl) Tryd.underlying215 Tryd.underlying162 (by kernel_rfl) (by kernel_rfl) (hL.tail.tail))
  clear hA0 hval0
  refine (walk W z0 z1 hw0 hw1 hg v0 v1 hr0 hr1).mono fun e W' ⟨he, bel⟩ => ?_
  subst he
  exact ⟨_, rfl, _, _, _, [], _, [], hW', trodAll_mk1 (shut_bool Tryd.underlying4 _), (trodAll_cons_mk (Below.trod laidOut (by kernel_rfl) (of_decide_eq_true (by kernel_rfl)) k0 bel lt0) (trodAll_cons_mk (Below.trod laidOut (by kernel_rfl) (of_decide_eq_true (by kernel_rfl)) k1 bel lt1) trodAll_mk0)), rfl, bel.frame _, fun h => by cases h⟩
theorem j1 : (Rows.fnExactToldRow.inPlace == Tryd.prog.inPlace 4) = true := by kernel_rfl
theorem j2 : (Rows.fnExactToldRow.unfollowed == Tryd.prog.unfollowed 4) = true := by kernel_rfl
theorem j3 : (Rows.fnExactToldRow.recurses == Tryd.prog.recurses 4) = true := by kernel_rfl
theorem j4 : (Rows.fnExactToldRow.named == Tryd.prog.varsNamed 4) = true := by kernel_rfl
theorem j5 : Rows.fnExactToldRow.wf (OpenSpec.ofChange Rows.fnExactToldSpec) = true := by kernel_rfl
theorem j6 : mapsRowed Tryd.prog = true := by kernel_rfl
theorem j7 : (Rows.fnExactToldRow.plainKeys == Tryd.prog.plainKeys) = true := by kernel_rfl
theorem j8 : Tryd.prog.mayEnter = true := by kernel_rfl
theorem j9 : (Rows.fnExactToldRow.lifted == Tryd.prog.liftsFinal) = true := by kernel_rfl
theorem jj : joinedFacts Tryd.prog 4 Tryd.f4 Rows.fnExactToldSpec Rows.fnExactToldRow = true := by
  unfold joinedFacts
  rw [j1, j2, j3, j4, j5, j6, j7, j8, j9, laidOut]
  kernel_rfl
theorem over : Rows.FnExactToldSaid :=
  OpenClaim.holds_of_wide 4 Tryd.f4 rfl rfl rfl rfl rfl rfl rfl ⟨rfl, rfl, rfl, rfl, rfl⟩ rfl rfl rfl rfl rfl (by kernel_rfl) Tryd.func4 jj
    (of_decide_eq_true (by kernel_rfl)) (by unfold Func.isWrapper; first | (rw [if_pos (by decide +kernel)]; kernel_rfl) | (rw [if_neg (by decide +kernel)]; exact ⟨rfl, rfl⟩))
    (fun os started H enc _ => lifted os started H enc)
theorem card : Rows.FnExactToldCardSaid :=
  Claim7.holds_tied_plain_at .later [] [.data, .data, .data] true (true, "1d2df471b49b07c46e1d595d3715bb6dd8383b6dc6c1bbf5e4cfb42480fe8246") true
    over (fun _ h => by cases h) (by kernel_rfl) (fun _ h => by cases h) fnExactTold_row_tie rfl ⟨rfl, rfl⟩ (by kernel_rfl) rfl
    (fun f fn hf hfn => by
      obtain rfl : f = 4 := Option.some.inj ((show Tryd.prog.funcNamed Rows.fnExactToldRow.func = some 4 by kernel_rfl).symm.trans hf) |>.symm
      obtain rfl : fn = Tryd.f4 := (Option.some.inj (Tryd.func4.symm.trans hfn)).symm
      exact ⟨by kernel_rfl, fun j t ht => by
        rw [Tryd.params4] at ht
        have hm : t ∈ [45, 2] := by simpa using Array.mem_of_getElem? ht
        have hall : ([45, 2].all fun u => !Tryd.prog.wantsStandIn u) = true := by kernel_rfl
        exact (show Tryd.prog.wantsStandIn t = false by simpa using List.all_eq_true.1 hall t hm)⟩)
    (by kernel_rfl)
end Go.Proofs.YtmcmkdiefpepnaaDoor.LawFnExactTold
namespace Go.Proofs.YtmcmkdiefpepnaaDoor
theorem fnExactTold_holds : Rows.FnExactToldCardSaid := LawFnExactTold.card
#print axioms fnExactTold_holds
end Go.Proofs.YtmcmkdiefpepnaaDoor
