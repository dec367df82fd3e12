-- By xrow.py, a program of ours.
import Derived.Test.YtmcmkdiefpepnaaDoorRows
import Derived.Test.YtmcmkdiefpepnaaDoorTie
import Derived.Test.YtmcmkdiefpepnaaDoorCards
import Derived.Test.YtmcmkdiefpepnaaDoorOpen
import Derived.Test.YtmcmkdiefpepnaaDoorXSK8
import Derived.Test.YtmcmkdiefpepnaaDoorDFnExactSkyText
import Derived.Test.YtmcmkdiefpepnaaDoorPureFnExactSkyText
import Derived.Test.YtmcmkdiefpepnaaDoorGround
import Derived.Test.YtmcmkdiefpepnaaDoorGroundSky
import Derived.WalkKit
import Derived.ProofKit
import Derived.OpenShut
import Derived.OpenVars
import Derived.ShutString
import Derived.ChangeOld
import Derived.Below
import Derived.LaidMore
import Derived.Stop.Joined
import Derived.Stop.LaidErr
import Derived.SevenTiedAt
import Derived.MakeChecks
namespace Go.Proofs.YtmcmkdiefpepnaaDoor.LawFnExactSkyText
open Go.ChangeShapes Go.WideShapes Go.ChangeAt Go.RowKit
open Go.ChangeMaps (open_string shut_string)
open Go.Proofs.YtmcmkdiefpepnaaDoor.Open Go.Proofs.YtmcmkdiefpepnaaDoor.DFnExactSkyText Go.Proofs.YtmcmkdiefpepnaaDoor.XSK Go.Proofs.YtmcmkdiefpepnaaDoorW.PrintWords Go.Proofs.YtmcmkdiefpepnaaDoor.Ext
set_option linter.unusedVariables false
theorem own : ownKnob Tryd.prog.godebug = none := by kernel_rfl
theorem laidOut : laidOutB Tryd.prog = true := by kernel_rfl
theorem walk (a0_0 : Int) (a0_1 : Int) (a0_2 : Int) (a0_3 : ByteArray) (a0_4 : ByteArray) (a0_5 : Int) (W : World) (hGcov : Gcov W) (hGpow : Gpow W) (hGwea : Gwea W) (hg0 : (Lit.int .i64 a0_0).wf = true) (hg1 : (Lit.int .i64 a0_1).wf = true) (hg2 : (Lit.int .i64 a0_2).wf = true) (hg3 : a0_3.size ≤ maxLen) (hg4 : a0_4.size ≤ maxLen) (hg5 : (Lit.int .i64 a0_5).wf = true) :
    Calls Tryd.prog 6 #[.agg #[.int .i64 a0_0, .int .i64 a0_1, .int .i64 a0_2, .string a0_3, .string a0_4, .int .i64 a0_5]] W fun e w' => e = .returned (.bool true) ∧ Below W.heap.size W w' := by
  obtain ⟨k, hk⟩ := Go.Proofs.YtmcmkdiefpepnaaDoor.PureFnExactSkyText.holds a0_0 a0_1 a0_2 a0_3 a0_4 a0_5 hg0 hg1 hg2 hg3 hg4 hg5
  refine (laws_FnExactSkyText.calls k a0_0 a0_1 a0_2 a0_3 a0_4 a0_5 true W hGcov hGpow hGwea hk).mono ?_
  rintro e w' ⟨rfl, hd⟩
  exact ⟨rfl, hd⟩
theorem door_met (os : Os) (args : Array Value) : laidMetH Tryd.prog Rows.fnExactSkyTextRow.laid ((World.doorLaid Tryd.prog 4000 os).forCall (fun _ _ => 0) ⟨#[], args, []⟩).memory :=
  laidMetH_of_parts3 (fuel := 12) (laidMet_of_run' 12 (by kernel_rfl) (by kernel_rfl)) (by kernel_rfl) (by kernel_rfl)
set_option maxRecDepth 100000 in
theorem lifted (os : Os) (started : os.Started) (H : Type) (enc : TypeId × Value → H) :
    ReturnsInHanded {} Tryd.checked os 6 .any (fun w args => (Rows.fnExactSkyTextSpec.pre enc Tryd.prog Tryd.f6 [] false w args ∧ laidMetH Tryd.prog Rows.fnExactSkyTextRow.laid w) ∧ sizedMet enc Tryd.prog Tryd.f6 (OpenSpec.ofChange Rows.fnExactSkyTextSpec) false w args)
      (Rows.fnExactSkyTextSpec.post enc Tryd.prog Tryd.f6 false true false false) := by
  refine returnsInHanded_of_change_and (C := Tryd.checked) (X := fun w _ => laidMetH Tryd.prog Rows.fnExactSkyTextRow.laid w) (fun _ _ _ hh h => h.of_heap hh) own started (by kernel_rfl) Tryd.func6
    (ChangeSpec.witness_shaped (enc := enc) (C := Tryd.checked) (os := os) (X := fun w _ => laidMetH Tryd.prog Rows.fnExactSkyTextRow.laid w) false (World.doorLaid Tryd.prog 4000 os) #[.agg #[(.int .i64 0), (.int .i64 0), (.int .i64 0), (.string ⟨#[]⟩), (.string ⟨#[]⟩), (.int .i64 0)]] 12 rfl (World.shaped_of_RefB (by kernel_rfl) (by kernel_rfl)) (by kernel_rfl) (by kernel_rfl) (by kernel_rfl) (door_met os _)) ?_
  intro W base args ds gs before hval0 hW _ _ hL _
  have hval : ∀ (j : Nat) t v, Tryd.f6.params[j]? = some t → args[j]? = some v → Value.okWide Tryd.prog W .any base t v := hval0
  have hW' := hW
  obtain ⟨p, q, hA0, hV, rfl, hfz, hnd⟩ := hW
  have hA : DataW.TrodAll enc Tryd.prog W 0 (fun _ => true) true Tryd.f6.params.toList args.toList ds p := hA0
  rw [Tryd.params6] at hA hval
  obtain ⟨v0, vs0, d0, ds0, p0, q0, hargs, rfl, rfl, h0, r0⟩ := trodAll_cons hA
  obtain ⟨rfl, rfl, rfl⟩ := trodAll_nil r0
  obtain rfl : args = #[v0] := by cases args; simp_all
  obtain ⟨y0, gs0, pv0, rfl, hV0⟩ := vars_cons hV
  obtain ⟨y1, gs1, pv1, rfl, hV1⟩ := vars_cons hV0
  obtain rfl := vars_nil hV1
  have k0 := h0
  have lt0 : ∀ x ∈ p0, x.block < W.heap.size := by obtain ⟨m, hm⟩ := k0; exact DataW.trod_lt m _ _ _ hm
  obtain ⟨⟨a0_0, a0_1, a0_2, a0_3, a0_4, a0_5⟩, cs0, rfl, hK0, ⟨hg0_0, hg0_1, hg0_2, hg0_3, hg0_4, hg0_5⟩⟩ := open_agg (d := Kd.pair (Kd.int .i64) (Kd.pair (Kd.int .i64) (Kd.pair (Kd.int .i64) (Kd.pair Kd.string (Kd.pair Kd.string (Kd.int .i64)))))) Tryd.underlying25 (opens_struct Tryd.underlying25 (by kernel_rfl) (opensAt_cons (by rfl) (by kernel_rfl) (opens_int Tryd.underlying2) (opensAt_cons (by rfl) (by kernel_rfl) (opens_int Tryd.underlying2) (opensAt_cons (by rfl) (by kernel_rfl) (opens_int Tryd.underlying2) (opensAt_cons (by rfl) (by kernel_rfl) (opens_string Tryd.underlying9) (opensAt_cons (by rfl) (by kernel_rfl) (opens_string Tryd.underlying9) (opensAt_one (by rfl) (by kernel_rfl) (opens_int Tryd.underlying2)))))))) (hval 0 25 v0 rfl rfl) h0
  obtain ⟨_, _, rfl, rfl, ⟨_, _, rfl, rfl, ⟨_, _, rfl, rfl, ⟨_, _, rfl, rfl, ⟨_, _, rfl, rfl, rfl⟩⟩⟩⟩⟩ := hK0
  rw [MakeChecks.laidMetH_plain _ _ _ (by kernel_rfl)] at hL
  have hGcov : Gcov W := Gcov.head (hL.tail.tail.tail.tail)
  have hGpow : Gpow W := Gpow.head (hL.tail.tail)
  have hGwea : Gwea W := Gwea.head (hL.tail.tail.tail)
  clear hA0 hval0
  refine (walk a0_0 a0_1 a0_2 a0_3 a0_4 a0_5 W hGcov hGpow hGwea hg0_0 hg0_1 hg0_2 hg0_3 hg0_4 hg0_5).mono fun e W' ⟨he, bel⟩ => ?_
  subst he
  exact ⟨_, rfl, _, _, _, [], _, _, hW', trodAll_mk1 (shut_bool Tryd.underlying4 _), (trodAll_cons_mk (Below.trod laidOut (by kernel_rfl) (of_decide_eq_true (by kernel_rfl)) k0 bel lt0) trodAll_mk0), Below.trodVars laidOut bel (by kernel_rfl) hV, bel.frame _, fun h => by cases h⟩
theorem over : Rows.FnExactSkyTextSaid :=
  OpenClaim.holds_of_wide 6 Tryd.f6 rfl rfl rfl rfl rfl rfl rfl ⟨rfl, rfl, rfl, rfl, rfl⟩ rfl rfl rfl rfl rfl (by kernel_rfl) Tryd.func6 (by kernel_rfl)
    (of_decide_eq_true (by kernel_rfl)) (by unfold Func.isWrapper; first | (rw [if_pos (by decide +kernel)]; kernel_rfl) | (rw [if_neg (by decide +kernel)]; exact ⟨rfl, rfl⟩))
    (fun os started H enc _ => lifted os started H enc)
theorem card : Rows.FnExactSkyTextCardSaid :=
  Claim7.holds_tied_plain_at .later [] [.data, .data, .data, .widerDeep, .widerDeep] true (true, "1d2df471b49b07c46e1d595d3715bb6dd8383b6dc6c1bbf5e4cfb42480fe8246") true
    over (fun _ h => by cases h) (by kernel_rfl) (fun _ h => by cases h) fnExactSkyText_row_tie rfl ⟨rfl, rfl⟩ (by kernel_rfl) rfl
    (fun f fn hf hfn => by
      obtain rfl : f = 6 := Option.some.inj ((show Tryd.prog.funcNamed Rows.fnExactSkyTextRow.func = some 6 by kernel_rfl).symm.trans hf) |>.symm
      obtain rfl : fn = Tryd.f6 := (Option.some.inj (Tryd.func6.symm.trans hfn)).symm
      exact ⟨by kernel_rfl, fun j t ht => by
        rw [Tryd.params6] at ht
        have hm : t ∈ [25] := by simpa using Array.mem_of_getElem? ht
        have hall : ([25].all fun u => !Tryd.prog.wantsStandIn u) = true := by kernel_rfl
        exact (show Tryd.prog.wantsStandIn t = false by simpa using List.all_eq_true.1 hall t hm)⟩)
    (by kernel_rfl)
end Go.Proofs.YtmcmkdiefpepnaaDoor.LawFnExactSkyText
namespace Go.Proofs.YtmcmkdiefpepnaaDoor
theorem fnExactSkyText_holds : Rows.FnExactSkyTextCardSaid := LawFnExactSkyText.card
#print axioms fnExactSkyText_holds
end Go.Proofs.YtmcmkdiefpepnaaDoor
