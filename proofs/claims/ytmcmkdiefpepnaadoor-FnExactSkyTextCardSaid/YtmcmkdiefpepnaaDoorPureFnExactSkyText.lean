/-
  The program's SkyText answers as the reference's, for every sky: both come to one and the same text. No condition.
-/
import Derived.Test.YtmcmkdiefpepnaaDoorDFnExactSkyText
import Derived.Test.YtmcmkdiefpepnaaDoorPureSkySK
namespace Go.Proofs.YtmcmkdiefpepnaaDoor.PureFnExactSkyText
open Go Go.RowKit Go.Proofs.YtmcmkdiefpepnaaDoorW.PrintWords Go.Proofs.YtmcmkdiefpepnaaDoor.PB Go.Proofs.YtmcmkdiefpepnaaDoor.XSK Go.Proofs.YtmcmkdiefpepnaaDoor.PKSK
theorem holds : DFnExactSkyText.Pure := by
  intro a0 a1 a2 a3 a4 a5 _ _ _ _ _ _
  refine ev_law ?_
  unfold laws_FnExactSkyText.f laws_toSky.f
  obtain ⟨t, ht⟩ : ∃ t, laws_szSky.f a0 a1 a2 a3 a4 a5 1048576 = some t := by
    unfold laws_szSky.f; repeat' split
    all_goals exact ⟨_, rfl⟩
  refine ev_bindc ht (ev_same (fun _ => Ev.now _) (fun _ => ?_))
  simp only [Option.bind_some]
  refine Ev.bind (text_spec a0 a1 a2 a3 a4 a5) (Ev.bind (text_impl a0 a1 a2 a3 a4 a5) ?_)
  exact ev_pos rfl (Ev.now _)
end Go.Proofs.YtmcmkdiefpepnaaDoor.PureFnExactSkyText
