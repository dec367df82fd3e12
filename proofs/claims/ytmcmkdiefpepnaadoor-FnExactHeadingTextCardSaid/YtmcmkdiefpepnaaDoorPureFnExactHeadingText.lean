/-
  The program's HeadingText answers as the reference's, for every heading: both come to one and the same text. No condition.
-/
import Derived.Test.YtmcmkdiefpepnaaDoorDFnExactHeadingText
import Derived.Test.YtmcmkdiefpepnaaDoorPureHead2HT
namespace Go.Proofs.YtmcmkdiefpepnaaDoor.PureFnExactHeadingText
open Go Go.RowKit Go.Proofs.YtmcmkdiefpepnaaDoorW.PrintWords Go.Proofs.YtmcmkdiefpepnaaDoor.PB Go.Proofs.YtmcmkdiefpepnaaDoor.XHT Go.Proofs.YtmcmkdiefpepnaaDoor.PNHT
theorem holds : DFnExactHeadingText.Pure := by
  intro a0 a1 a2 a3 a4 a5 a6 a7 h0 h1 _ _ _ _ _ h7
  refine ev_law ?_
  unfold laws_FnExactHeadingText.f laws_toHeading.f
  obtain ⟨t, ht⟩ : ∃ t, laws_szHeading.f a0 a1 a2 a3 a4 a5 a6 a7 1048576 = some t := by
    unfold laws_szHeading.f; repeat' split
    all_goals exact ⟨_, rfl⟩
  refine ev_bindc ht (ev_same (fun _ => Ev.now _) (fun _ => ?_))
  simp only [Option.bind_some]
  refine Ev.bind (htext_spec a0 a1 a2 a3 a4 a5 a6 a7 h0 h1 h7) (Ev.bind (htext_impl a0 a1 a2 a3 a4 a5 a6 a7 h0 h1 h7) ?_)
  refine ev_pos (by rfl) (ev_neg (by simp) (Ev.now _))
end Go.Proofs.YtmcmkdiefpepnaaDoor.PureFnExactHeadingText
