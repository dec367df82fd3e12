/-
  The program's ReadStamp answers as the reference's, for every text. No condition.
-/
import Derived.Test.YtmcmkdiefpepnaaDoorDFnExactReadStamp
import Derived.Test.YtmcmkdiefpepnaaDoorPureNumberRS
namespace Go.Proofs.YtmcmkdiefpepnaaDoor.PureFnExactReadStamp
open Go Go.RowKit Go.Proofs.YtmcmkdiefpepnaaDoorW.PrintWords Go.Proofs.YtmcmkdiefpepnaaDoor.PB Go.Proofs.YtmcmkdiefpepnaaDoor.XRS Go.Proofs.YtmcmkdiefpepnaaDoor.PCRS Go.Proofs.YtmcmkdiefpepnaaDoor.Ext
set_option linter.unusedVariables false
theorem read_both (s : ByteArray) (hs : s.size ≤ 1048576) : ∃ v, Ev (fun k => spec_ReadStamp.f k s) v ∧ Ev (fun k => impl_ReadStamp.f k s) v := by
  unfold spec_ReadStamp.f impl_ReadStamp.f
  by_cases h : (s.size : Int) = 17
  · have hz : s.size = 17 := by omega
    have sp : ∀ a b : Nat, a < b → b ≤ 17 → b - a ≤ 4 → Ev (fun k => spec_l2Number.f k (s.extract a b)) (if (L (s.extract a b)).all digB = true then ((V 0 (L (s.extract a b)) : Nat) : Int) else -1) := fun a b h1 h2 h3 => by
      have : (s.extract a b).size = b - a := by rw [ByteArray.size_extract]; omega
      exact number_ev _ (by omega) (by omega)
    have im : ∀ a b : Nat, a < b → b ≤ 17 → b - a ≤ 4 → impl_ReadStamp_1.f (a : Int) (b : Int) s = some (if (L (s.extract a b)).all digB = true then ((V 0 (L (s.extract a b)) : Nat) : Int) else -1) := fun a b h1 h2 h3 => part_eq s a b h1 (by omega) h3 (by omega)
    obtain ⟨v, t1, t2, t3⟩ := time_both (if (L (s.extract 0 4)).all digB = true then ((V 0 (L (s.extract 0 4)) : Nat) : Int) else -1) (if (L (s.extract 5 7)).all digB = true then ((V 0 (L (s.extract 5 7)) : Nat) : Int) else -1) (if (L (s.extract 8 10)).all digB = true then ((V 0 (L (s.extract 8 10)) : Nat) : Int) else -1) (if (L (s.extract 11 13)).all digB = true then ((V 0 (L (s.extract 11 13)) : Nat) : Int) else -1) (if (L (s.extract 14 16)).all digB = true then ((V 0 (L (s.extract 14 16)) : Nat) : Int) else -1)
    obtain ⟨t, b⟩ := v
    have tail : ∃ r : Int × Bool, Ev (fun k => if b = true then ((spec_Stamp.f k t).bind fun t183 => (if t183.toList = s.toList then (some (t, true)) else (some (0, false)))) else (some (0, false))) r ∧ Ev (fun k => if b = true then ((impl_Stamp.f k t).bind fun t183 => (if t183.toList = s.toList then (some (t, true)) else (some (0, false)))) else (some (0, false))) r := by
      by_cases hb : b = true
      · obtain ⟨h0, h1⟩ := t3 hb
        obtain ⟨n, rfl⟩ := Int.eq_ofNat_of_zero_le h0
        obtain ⟨x, e1, e2⟩ := stamp_both n (by omega)
        by_cases hx : x.toList = s.toList
        · exact ⟨_, ev_pos hb (Ev.bind e1 (ev_pos hx (Ev.now _))), ev_pos hb (Ev.bind e2 (ev_pos hx (Ev.now _)))⟩
        · exact ⟨_, ev_pos hb (Ev.bind e1 (ev_neg hx (Ev.now _))), ev_pos hb (Ev.bind e2 (ev_neg hx (Ev.now _)))⟩
      · exact ⟨_, ev_neg hb (Ev.now _), ev_neg hb (Ev.now _)⟩
    obtain ⟨r, r1, r2⟩ := tail
    refine ⟨r, ?_, ?_⟩
    · exact ev_pos h (ev_pos (by omega) (ev_pos (by omega) (Ev.bind (sp 0 4 (by omega) (by omega) (by omega)) (ev_pos (by omega) (ev_pos (by omega) (Ev.bind (sp 5 7 (by omega) (by omega) (by omega)) (ev_pos (by omega) (ev_pos (by omega) (Ev.bind (sp 8 10 (by omega) (by omega) (by omega)) (ev_pos (by omega) (ev_pos (by omega) (Ev.bind (sp 11 13 (by omega) (by omega) (by omega)) (ev_pos (by omega) (ev_pos (by omega) (Ev.bind (sp 14 16 (by omega) (by omega) (by omega)) (Ev.bind t1 r1))))))))))))))))
    · exact ev_pos h (ev_bindc (im 0 4 (by omega) (by omega) (by omega)) (ev_bindc (im 5 7 (by omega) (by omega) (by omega)) (ev_bindc (im 8 10 (by omega) (by omega) (by omega)) (ev_bindc (im 11 13 (by omega) (by omega) (by omega)) (ev_bindc (im 14 16 (by omega) (by omega) (by omega)) (Ev.bind t2 r2))))))
  · exact ⟨_, ev_neg h (Ev.now _), ev_neg h (Ev.now _)⟩
theorem holds : DFnExactReadStamp.Pure := by
  intro a0 _
  refine ev_law ?_
  unfold laws_FnExactReadStamp.f
  by_cases h : (a0.size : Int) > 1048576
  · exact ev_pos h (Ev.now _)
  · refine ev_neg h ?_
    obtain ⟨v, h1, h2⟩ := read_both a0 (by omega)
    exact Ev.bind h1 (Ev.bind h2 (ev_pos rfl (ev_neg (by simp) (Ev.now _))))
end Go.Proofs.YtmcmkdiefpepnaaDoor.PureFnExactReadStamp
