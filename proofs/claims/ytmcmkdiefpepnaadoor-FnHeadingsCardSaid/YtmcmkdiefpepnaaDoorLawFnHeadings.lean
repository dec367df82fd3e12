/-
  Part of a proof by the engine: texts that a program of ours printed, or plain lemmas on them. No condition but what each theorem says.
-/
import Derived.Test.YtmcmkdiefpepnaaDoorRows
import Derived.Test.YtmcmkdiefpepnaaDoorTie
import Derived.Test.YtmcmkdiefpepnaaDoorCards
import Derived.Test.YtmcmkdiefpepnaaDoorEng5
import Derived.Test.YtmcmkdiefpepnaaDoorHD
import Derived.Test.YtmcmkdiefpepnaaDoorHDPlain
import Derived.Lay
import Derived.WalkKit
import Derived.ProofKit
import Derived.OpenShut
import Derived.OpenVars
import Derived.ShutString
import Derived.ChangeOld
import Derived.Below
import Derived.LaidMore
import Derived.Stop.Joined
import Derived.Stop.LaidErr
import Derived.SevenTiedAt
import Derived.MakeChecks
set_option linter.unusedVariables false
set_option linter.unusedSimpArgs false
-- By row2.py, a program of ours.
namespace Go.Proofs.YtmcmkdiefpepnaaDoor.LawFnHeadings
open Go.ChangeShapes Go.WideShapes Go.ChangeAt Go.RowKit
open Go.Eng (St0 GlOk GlOne glOf_ok glOne_strs glOne_arrS glOne_arrI RepAs avOf aggOf openA law_true kindsOf lineOk denKs wfKs vars_cons vars_nil) 
open Go.Proofs.YtmcmkdiefpepnaaDoor.HD
open Go.Proofs.YtmcmkdiefpepnaaDoor.DT (L_strconv_uint64pow10)
theorem own : ownKnob Tryd.prog.godebug = none := by kernel_rfl
theorem laidOut : laidOutB Tryd.prog = true := by kernel_rfl
theorem walk (W : World) (z0 : denKs [.sl (.int .u8)]) (z1 : denKs [.sl (.int .u8)]) (h0 : wfKs [.sl (.int .u8)] z0) (h1 : wfKs [.sl (.int .u8)] z1) (hg : GlOk gl W (St0 W)) (v0 : Value) (v1 : Value) (r0 : Go.Eng.RepA W (St0 W) (avOf false [.sl (.int .u8)] z0) v0) (r1 : Go.Eng.RepA W (St0 W) (avOf false [.sl (.int .u8)] z1) v1) :
    Calls Tryd.prog 13 #[v0, v1] W fun e w' => e = .returned (.bool true) ∧ Below W.heap.size W w' :=
  law_true (g := g_laws_FnHeadings) e_laws_FnHeadings hg (x := ((z0.1, z1.1, ()), ())) (y := true) rfl ⟨r0, r1, trivial⟩ (pure z0 z1 h0 h1) rfl
theorem door_met (os : Os) (args : Array Value) : laidMetH Tryd.prog Rows.fnHeadingsRow.laid ((World.laidAll Tryd.prog os Rows.fnHeadingsRow.laid).forCall (fun _ _ => 0) ⟨#[], args, []⟩).memory := by
  rw [MakeChecks.laidMetH_plain _ _ _ (by kernel_rfl)]
  exact laidMet_laidAll _ (by kernel_rfl) (by kernel_rfl)
set_option maxRecDepth 100000 in
theorem lifted (os : Os) (started : os.Started) (H : Type) (enc : TypeId × Value → H) :
    ReturnsInHanded {} Tryd.checked os 13 .any (fun w args => (Rows.fnHeadingsSpec.pre enc Tryd.prog Tryd.f13 [] false w args ∧ laidMetH Tryd.prog Rows.fnHeadingsRow.laid w) ∧ sizedMet enc Tryd.prog Tryd.f13 (OpenSpec.ofChange Rows.fnHeadingsSpec) false w args)
      (Rows.fnHeadingsSpec.post enc Tryd.prog Tryd.f13 false true false false) := by
  refine returnsInHanded_of_change_and (C := Tryd.checked) (X := fun w _ => laidMetH Tryd.prog Rows.fnHeadingsRow.laid w) (fun _ _ _ hh h => h.of_heap hh) own started (by kernel_rfl) Tryd.func13
    (ChangeSpec.witness_shaped (enc := enc) (C := Tryd.checked) (os := os) (X := fun w _ => laidMetH Tryd.prog Rows.fnHeadingsRow.laid w) false (World.laidAll Tryd.prog os Rows.fnHeadingsRow.laid) #[.slice none 0 0, .slice none 0 0] 12 (World.laidAll_os _ _ _) (World.shaped_of_ZipB (by kernel_rfl) (by kernel_rfl)) (by kernel_rfl) (by kernel_rfl) (by kernel_rfl) (door_met os _)) ?_
  intro W base args ds gs before hval0 hW _ _ hL _
  have hval : ∀ (j : Nat) t v, Tryd.f13.params[j]? = some t → args[j]? = some v → Value.okWide Tryd.prog W .any base t v := hval0
  have hW' := hW
  obtain ⟨p, q, hA0, hV, rfl, hfz, hnd⟩ := hW
  have hA : DataW.TrodAll enc Tryd.prog W 0 (fun _ => true) true Tryd.f13.params.toList args.toList ds p := hA0
  rw [Tryd.params13] at hA hval
  obtain ⟨v0, vs0, d0, ds0, p0, q0, hargs, rfl, rfl, h0, r0⟩ := trodAll_cons hA
  obtain ⟨v1, vs1, d1, ds1, p1, q1, rfl, rfl, rfl, h1, r1⟩ := trodAll_cons r0
  obtain ⟨rfl, rfl, rfl⟩ := trodAll_nil r1
  obtain rfl : args = #[v0, v1] := by cases args; simp_all
  obtain ⟨rfl, rfl⟩ := trodVars_none hV
  have k0 := h0
  have lt0 : ∀ x ∈ p0, x.block < W.heap.size := by obtain ⟨m, hm⟩ := k0; exact DataW.trod_lt m _ _ _ hm
  obtain ⟨z0, hr0, hw0⟩ := openA (d := 8) (t := 60) (ks := [.sl (.int .u8)]) (by kernel_rfl) (by kernel_rfl) (by kernel_rfl) (hval 0 60 v0 rfl rfl) h0
  have k1 := h1
  have lt1 : ∀ x ∈ p1, x.block < W.heap.size := by obtain ⟨m, hm⟩ := k1; exact DataW.trod_lt m _ _ _ hm
  obtain ⟨z1, hr1, hw1⟩ := openA (d := 8) (t := 60) (ks := [.sl (.int .u8)]) (by kernel_rfl) (by kernel_rfl) (by kernel_rfl) (hval 1 60 v1 rfl rfl) h1
  rw [MakeChecks.laidMetH_plain _ _ _ (by kernel_rfl)] at hL
  have hg : GlOk gl W (St0 W) := glOf_ok (by
    intro x hx
    simp only [List.mem_cons, List.not_mem_nil, or_false] at hx
    subst hx
    · exact glOne_arrI .u64 L_strconv_uint64pow10 (t := 215) (e := 162) (by kernel_rfl) (by kernel_rfl) Tryd.underlying215 Tryd.underlying162 (by kernel_rfl) (by kernel_rfl) (hL.tail.tail))
  clear hA0 hval0
  refine (walk W z0 z1 hw0 hw1 hg v0 v1 hr0 hr1).mono fun e W' ⟨he, bel⟩ => ?_
  subst he
  exact ⟨_, rfl, _, _, _, [], _, [], hW', trodAll_mk1 (shut_bool Tryd.underlying4 _), (trodAll_cons_mk (Below.trod laidOut (by kernel_rfl) (of_decide_eq_true (by kernel_rfl)) k0 bel lt0) (trodAll_cons_mk (Below.trod laidOut (by kernel_rfl) (of_decide_eq_true (by kernel_rfl)) k1 bel lt1) trodAll_mk0)), rfl, bel.frame _, fun h => by cases h⟩
theorem j1 : (Rows.fnHeadingsRow.inPlace == Tryd.prog.inPlace 13) = true := by kernel_rfl
theorem j2 : (Rows.fnHeadingsRow.unfollowed == Tryd.prog.unfollowed 13) = true := by kernel_rfl
theorem j3 : (Rows.fnHeadingsRow.recurses == Tryd.prog.recurses 13) = true := by kernel_rfl
theorem j4 : (Rows.fnHeadingsRow.named == Tryd.prog.varsNamed 13) = true := by kernel_rfl
theorem j5 : Rows.fnHeadingsRow.wf (OpenSpec.ofChange Rows.fnHeadingsSpec) = true := by kernel_rfl
theorem j6 : mapsRowed Tryd.prog = true := by kernel_rfl
theorem j7 : (Rows.fnHeadingsRow.plainKeys == Tryd.prog.plainKeys) = true := by kernel_rfl
theorem j8 : Tryd.prog.mayEnter = true := by kernel_rfl
theorem j9 : (Rows.fnHeadingsRow.lifted == Tryd.prog.liftsFinal) = true := by kernel_rfl
theorem jj : joinedFacts Tryd.prog 13 Tryd.f13 Rows.fnHeadingsSpec Rows.fnHeadingsRow = true := by
  unfold joinedFacts
  rw [j1, j2, j3, j4, j5, j6, j7, j8, j9, laidOut]
  kernel_rfl
theorem over : Rows.FnHeadingsSaid :=
  OpenClaim.holds_of_wide 13 Tryd.f13 rfl rfl rfl rfl rfl rfl rfl ⟨rfl, rfl, rfl, rfl, rfl⟩ rfl rfl rfl rfl rfl (by kernel_rfl) Tryd.func13 jj
    (of_decide_eq_true (by kernel_rfl)) (by unfold Func.isWrapper; first | (rw [if_pos (by decide +kernel)]; kernel_rfl) | (rw [if_neg (by decide +kernel)]; exact ⟨rfl, rfl⟩))
    (fun os started H enc _ => lifted os started H enc)
theorem card : Rows.FnHeadingsCardSaid :=
  Claim7.holds_tied_plain_at .later [] [.data, .data, .data, .data, .sentinel, .sentinel, .pinned] true (true, "1d2df471b49b07c46e1d595d3715bb6dd8383b6dc6c1bbf5e4cfb42480fe8246") true
    over (fun _ h => by cases h) (by kernel_rfl) (fun _ h => by cases h) fnHeadings_row_tie rfl ⟨rfl, rfl⟩ (by kernel_rfl) rfl
    (fun f fn hf hfn => by
      obtain rfl : f = 13 := Option.some.inj ((show Tryd.prog.funcNamed Rows.fnHeadingsRow.func = some 13 by kernel_rfl).symm.trans hf) |>.symm
      obtain rfl : fn = Tryd.f13 := (Option.some.inj (Tryd.func13.symm.trans hfn)).symm
      exact ⟨by kernel_rfl, fun j t ht => by
        rw [Tryd.params13] at ht
        have hm : t ∈ [60] := by simpa using Array.mem_of_getElem? ht
        have hall : ([60].all fun u => !Tryd.prog.wantsStandIn u) = true := by kernel_rfl
        exact (show Tryd.prog.wantsStandIn t = false by simpa using List.all_eq_true.1 hall t hm)⟩)
    (by kernel_rfl)
end Go.Proofs.YtmcmkdiefpepnaaDoor.LawFnHeadings
namespace Go.Proofs.YtmcmkdiefpepnaaDoor
theorem fnHeadings_holds : Rows.FnHeadingsCardSaid := LawFnHeadings.card
#print axioms fnHeadings_holds
end Go.Proofs.YtmcmkdiefpepnaaDoor
