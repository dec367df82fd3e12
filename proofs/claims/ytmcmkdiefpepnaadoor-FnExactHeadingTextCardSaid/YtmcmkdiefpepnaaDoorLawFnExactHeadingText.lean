-- By xrow.py, a program of ours.
import Derived.Test.YtmcmkdiefpepnaaDoorRows
import Derived.Test.YtmcmkdiefpepnaaDoorTie
import Derived.Test.YtmcmkdiefpepnaaDoorCards
import Derived.Test.YtmcmkdiefpepnaaDoorOpen
import Derived.Test.YtmcmkdiefpepnaaDoorXHT6
import Derived.Test.YtmcmkdiefpepnaaDoorDFnExactHeadingText
import Derived.Test.YtmcmkdiefpepnaaDoorPureFnExactHeadingText
import Derived.Test.YtmcmkdiefpepnaaDoorGround
import Derived.WalkKit
import Derived.ProofKit
import Derived.OpenShut
import Derived.ShutString
import Derived.ChangeOld
import Derived.Below
import Derived.LaidMore
import Derived.Stop.Joined
import Derived.Stop.LaidErr
import Derived.SevenTiedAt
import Derived.MakeChecks
namespace Go.Proofs.YtmcmkdiefpepnaaDoor.LawFnExactHeadingText
open Go.ChangeShapes Go.WideShapes Go.ChangeAt Go.RowKit
open Go.ChangeMaps (open_string shut_string)
open Go.Proofs.YtmcmkdiefpepnaaDoor.Open Go.Proofs.YtmcmkdiefpepnaaDoor.DFnExactHeadingText Go.Proofs.YtmcmkdiefpepnaaDoor.XHT Go.Proofs.YtmcmkdiefpepnaaDoorW.PrintWords Go.Proofs.YtmcmkdiefpepnaaDoor.Ext
set_option linter.unusedVariables false
theorem own : ownKnob Tryd.prog.godebug = none := by kernel_rfl
theorem laidOut : laidOutB Tryd.prog = true := by kernel_rfl
theorem walk (a0_0 : ByteArray) (a0_1 : ByteArray) (a0_2 : Int) (a0_3 : ByteArray) (a0_4 : Int) (a0_5 : Int) (a0_6 : Int) (a0_7 : ByteArray) (W : World) (hGpow : Gpow W) (hg0 : a0_0.size ≤ maxLen) (hg1 : a0_1.size ≤ maxLen) (hg2 : (Lit.int .i64 a0_2).wf = true) (hg3 : a0_3.size ≤ maxLen) (hg4 : (Lit.int .i64 a0_4).wf = true) (hg5 : (Lit.int .i64 a0_5).wf = true) (hg6 : (Lit.int .i64 a0_6).wf = true) (hg7 : a0_7.size ≤ maxLen) :
    Calls Tryd.prog 5 #[.agg #[.string a0_0, .string a0_1, .int .i64 a0_2, .string a0_3, .int .i64 a0_4, .int .i64 a0_5, .int .i64 a0_6, .string a0_7]] W fun e w' => e = .returned (.bool true) ∧ Below W.heap.size W w' := by
  obtain ⟨k, hk⟩ := Go.Proofs.YtmcmkdiefpepnaaDoor.PureFnExactHeadingText.holds a0_0 a0_1 a0_2 a0_3 a0_4 a0_5 a0_6 a0_7 hg0 hg1 hg2 hg3 hg4 hg5 hg6 hg7
  refine (laws_FnExactHeadingText.calls k a0_0 a0_1 a0_2 a0_3 a0_4 a0_5 a0_6 a0_7 true W hGpow hk).mono ?_
  rintro e w' ⟨rfl, hd⟩
  exact ⟨rfl, hd⟩
theorem door_met (os : Os) (args : Array Value) : laidMetH Tryd.prog Rows.fnExactHeadingTextRow.laid ((World.doorLaid Tryd.prog 4000 os).forCall (fun _ _ => 0) ⟨#[], args, []⟩).memory :=
  laidMetH_of_parts3 (fuel := 12) (laidMet_of_run' 12 (by kernel_rfl) (by kernel_rfl)) (by kernel_rfl) (by kernel_rfl)
set_option maxRecDepth 100000 in
theorem lifted (os : Os) (started : os.Started) (H : Type) (enc : TypeId × Value → H) :
    ReturnsInHanded {} Tryd.checked os 5 .any (fun w args => (Rows.fnExactHeadingTextSpec.pre enc Tryd.prog Tryd.f5 [] false w args ∧ laidMetH Tryd.prog Rows.fnExactHeadingTextRow.laid w) ∧ sizedMet enc Tryd.prog Tryd.f5 (OpenSpec.ofChange Rows.fnExactHeadingTextSpec) false w args)
      (Rows.fnExactHeadingTextSpec.post enc Tryd.prog Tryd.f5 false true false false) := by
  refine returnsInHanded_of_change_and (C := Tryd.checked) (X := fun w _ => laidMetH Tryd.prog Rows.fnExactHeadingTextRow.laid w) (fun _ _ _ hh h => h.of_heap hh) own started (by kernel_rfl) Tryd.func5
    (ChangeSpec.witness_shaped (enc := enc) (C := Tryd.checked) (os := os) (X := fun w _ => laidMetH Tryd.prog Rows.fnExactHeadingTextRow.laid w) false (World.doorLaid Tryd.prog 4000 os) #[.agg #[(.string ⟨#[]⟩), (.string ⟨#[]⟩), (.int .i64 0), (.string ⟨#[]⟩), (.int .i64 0), (.int .i64 0), (.int .i64 0), (.string ⟨#[]⟩)]] 12 rfl (World.shaped_of_RefB (by kernel_rfl) (by kernel_rfl)) (by kernel_rfl) (by kernel_rfl) (by kernel_rfl) (door_met os _)) ?_
  intro W base args ds gs before hval0 hW _ _ hL _
  have hval : ∀ (j : Nat) t v, Tryd.f5.params[j]? = some t → args[j]? = some v → Value.okWide Tryd.prog W .any base t v := hval0
  have hW' := hW
  obtain ⟨p, q, hA0, hV, rfl, hfz, hnd⟩ := hW
  have hA : DataW.TrodAll enc Tryd.prog W 0 (fun _ => true) true Tryd.f5.params.toList args.toList ds p := hA0
  rw [Tryd.params5] at hA hval
  obtain ⟨v0, vs0, d0, ds0, p0, q0, hargs, rfl, rfl, h0, r0⟩ := trodAll_cons hA
  obtain ⟨rfl, rfl, rfl⟩ := trodAll_nil r0
  obtain rfl : args = #[v0] := by cases args; simp_all
  obtain ⟨rfl, rfl⟩ := trodVars_none hV
  have k0 := h0
  have lt0 : ∀ x ∈ p0, x.block < W.heap.size := by obtain ⟨m, hm⟩ := k0; exact DataW.trod_lt m _ _ _ hm
  obtain ⟨⟨a0_0, a0_1, a0_2, a0_3, a0_4, a0_5, a0_6, a0_7⟩, cs0, rfl, hK0, ⟨hg0_0, hg0_1, hg0_2, hg0_3, hg0_4, hg0_5, hg0_6, hg0_7⟩⟩ := open_agg (d := Kd.pair Kd.string (Kd.pair Kd.string (Kd.pair (Kd.int .i64) (Kd.pair Kd.string (Kd.pair (Kd.int .i64) (Kd.pair (Kd.int .i64) (Kd.pair (Kd.int .i64) Kd.string))))))) Tryd.underlying49 (opens_struct Tryd.underlying49 (by kernel_rfl) (opensAt_cons (by rfl) (by kernel_rfl) (opens_string Tryd.underlying9) (opensAt_cons (by rfl) (by kernel_rfl) (opens_string Tryd.underlying9) (opensAt_cons (by rfl) (by kernel_rfl) (opens_int Tryd.underlying2) (opensAt_cons (by rfl) (by kernel_rfl) (opens_string Tryd.underlying9) (opensAt_cons (by rfl) (by kernel_rfl) (opens_int Tryd.underlying2) (opensAt_cons (by rfl) (by kernel_rfl) (opens_int Tryd.underlying2) (opensAt_cons (by rfl) (by kernel_rfl) (opens_int Tryd.underlying2) (opensAt_one (by rfl) (by kernel_rfl) (opens_string Tryd.underlying9)))))))))) (hval 0 49 v0 rfl rfl) h0
  obtain ⟨_, _, rfl, rfl, ⟨_, _, rfl, rfl, ⟨_, _, rfl, rfl, ⟨_, _, rfl, rfl, ⟨_, _, rfl, rfl, ⟨_, _, rfl, rfl, ⟨_, _, rfl, rfl, rfl⟩⟩⟩⟩⟩⟩⟩ := hK0
  rw [MakeChecks.laidMetH_plain _ _ _ (by kernel_rfl)] at hL
  have hGpow : Gpow W := Gpow.head (hL.tail.tail)
  clear hA0 hval0
  refine (walk a0_0 a0_1 a0_2 a0_3 a0_4 a0_5 a0_6 a0_7 W hGpow hg0_0 hg0_1 hg0_2 hg0_3 hg0_4 hg0_5 hg0_6 hg0_7).mono fun e W' ⟨he, bel⟩ => ?_
  subst he
  exact ⟨_, rfl, _, _, _, [], _, [], hW', trodAll_mk1 (shut_bool Tryd.underlying4 _), (trodAll_cons_mk (Below.trod laidOut (by kernel_rfl) (of_decide_eq_true (by kernel_rfl)) k0 bel lt0) trodAll_mk0), rfl, bel.frame _, fun h => by cases h⟩
theorem over : Rows.FnExactHeadingTextSaid :=
  OpenClaim.holds_of_wide 5 Tryd.f5 rfl rfl rfl rfl rfl rfl rfl ⟨rfl, rfl, rfl, rfl, rfl⟩ rfl rfl rfl rfl rfl (by kernel_rfl) Tryd.func5 (by kernel_rfl)
    (of_decide_eq_true (by kernel_rfl)) (by unfold Func.isWrapper; first | (rw [if_pos (by decide +kernel)]; kernel_rfl) | (rw [if_neg (by decide +kernel)]; exact ⟨rfl, rfl⟩))
    (fun os started H enc _ => lifted os started H enc)
theorem card : Rows.FnExactHeadingTextCardSaid :=
  Claim7.holds_tied_plain_at .later [] [.data, .data, .data] true (true, "1d2df471b49b07c46e1d595d3715bb6dd8383b6dc6c1bbf5e4cfb42480fe8246") true
    over (fun _ h => by cases h) (by kernel_rfl) (fun _ h => by cases h) fnExactHeadingText_row_tie rfl ⟨rfl, rfl⟩ (by kernel_rfl) rfl
    (fun f fn hf hfn => by
      obtain rfl : f = 5 := Option.some.inj ((show Tryd.prog.funcNamed Rows.fnExactHeadingTextRow.func = some 5 by kernel_rfl).symm.trans hf) |>.symm
      obtain rfl : fn = Tryd.f5 := (Option.some.inj (Tryd.func5.symm.trans hfn)).symm
      exact ⟨by kernel_rfl, fun j t ht => by
        rw [Tryd.params5] at ht
        have hm : t ∈ [49] := by simpa using Array.mem_of_getElem? ht
        have hall : ([49].all fun u => !Tryd.prog.wantsStandIn u) = true := by kernel_rfl
        exact (show Tryd.prog.wantsStandIn t = false by simpa using List.all_eq_true.1 hall t hm)⟩)
    (by kernel_rfl)
end Go.Proofs.YtmcmkdiefpepnaaDoor.LawFnExactHeadingText
namespace Go.Proofs.YtmcmkdiefpepnaaDoor
theorem fnExactHeadingText_holds : Rows.FnExactHeadingTextCardSaid := LawFnExactHeadingText.card
#print axioms fnExactHeadingText_holds
end Go.Proofs.YtmcmkdiefpepnaaDoor
