/-
  Both stamps of a time are one text. Condition: the time is one of the calendar.
-/
import Derived.Test.YtmcmkdiefpepnaaDoorPureTimeRS
namespace Go.Proofs.YtmcmkdiefpepnaaDoor.PCRS
set_option linter.unusedSimpArgs false
set_option linter.unusedVariables false
open Go Go.RowKit Go.Proofs.YtmcmkdiefpepnaaDoorW.PrintWords Go.Proofs.YtmcmkdiefpepnaaDoor.PB Go.Proofs.YtmcmkdiefpepnaaDoor.XRS Go.Proofs.YtmcmkdiefpepnaaDoor.Ext Go.Proofs.YtmcmkdiefpepnaaDoor.PNRS

def padB (n : Int) (w : Nat) : ByteArray := ⟨(pad n w).toArray⟩
theorem padB_small (n : Int) (w : Nat) (h0 : 0 ≤ n) (h1 : n ≤ 100000) (hw : w ≤ 20) : (padB n w).size ≤ 41 := by
  have := itoa_len (n := n) (by omega) (by omega)
  unfold padB; rw [size_mk]; unfold pad; rw [List.length_append, List.length_replicate]; omega
theorem spec_pad {n : Int} {w : Nat} (h0 : 0 ≤ n) (h1 : n ≤ 100000) (hw : w ≤ 1000) : Ev (fun k => spec_l2Pad.f k n (w : Int)) (padB n w) := l2Pad_ev (by omega) (by omega) hw
theorem impl_pad {n : Int} {w : Nat} (h0 : 0 ≤ n) (h1 : n ≤ 100000) (hw : w ≤ 1000) : impl_fill.f n (w : Int) = some (padB n w) := fill_eq (by omega) (by omega) hw
theorem stamp_both (t : Nat) (ht : t ≤ 52596000) : ∃ s, Ev (fun k => spec_Stamp.f k (t : Int)) s ∧ Ev (fun k => impl_Stamp.f k (t : Int)) s := by
  obtain ⟨j, hj⟩ := month_of (t / 1440)
  have hj' : j ≤ 1200 := month_le hj.1 (by clear hj; omega)
  have hy : (0 : Int) ≤ 2000 + ((j / 12 : Nat) : Int) ∧ 2000 + ((j / 12 : Nat) : Int) ≤ 100000 := by clear hj; omega
  have hm : (0 : Int) ≤ ((j % 12 : Nat) : Int) + 1 ∧ ((j % 12 : Nat) : Int) + 1 ≤ 100000 := by clear hj; omega
  have hd : (0 : Int) ≤ ((t / 1440 - Sm j : Nat) : Int) + 1 ∧ ((t / 1440 - Sm j : Nat) : Int) + 1 ≤ 100000 := by
    generalize Sm j = s; clear hj; omega
  have hh : (0 : Int) ≤ ((t / 60 % 24 : Nat) : Int) ∧ ((t / 60 % 24 : Nat) : Int) ≤ 100000 := by clear hj; omega
  have hi : (0 : Int) ≤ ((t % 60 : Nat) : Int) ∧ ((t % 60 : Nat) : Int) ≤ 100000 := by clear hj; omega
  have e1 := date_spec t j ht hj
  have e2 := date_impl t j ht hj
  unfold dateV at e1 e2
  generalize (2000 + ((j / 12 : Nat) : Int)) = y at e1 e2 hy
  generalize (((j % 12 : Nat) : Int) + 1) = m at e1 e2 hm
  generalize (((t / 1440 - Sm j : Nat) : Int) + 1) = d at e1 e2 hd
  generalize ((t / 60 % 24 : Nat) : Int) = h at e1 e2 hh
  generalize ((t % 60 : Nat) : Int) = i at e1 e2 hi
  clear hj
  have zy := padB_small y 4 hy.1 hy.2 (by omega)
  have zm := padB_small m 2 hm.1 hm.2 (by omega)
  have zd := padB_small d 2 hd.1 hd.2 (by omega)
  have zh := padB_small h 2 hh.1 hh.2 (by omega)
  have zi := padB_small i 2 hi.1 hi.2 (by omega)
  have a45 : (⟨#[45]⟩ : ByteArray).size = 1 := rfl
  have a84 : (⟨#[84]⟩ : ByteArray).size = 1 := rfl
  have a58 : (⟨#[58]⟩ : ByteArray).size = 1 := rfl
  refine ⟨((((((((padB y 4 ++ ⟨#[45]⟩) ++ padB m 2) ++ ⟨#[45]⟩) ++ padB d 2) ++ ⟨#[84]⟩) ++ padB h 2) ++ ⟨#[58]⟩) ++ padB i 2) ++ ⟨#[90]⟩, ?_, ?_⟩
  · unfold spec_Stamp.f
    refine Ev.bind e1 (ev_pos rfl ?_)
    dsimp only
    refine (Ev.bind (spec_pad (w := 4) hy.1 hy.2 (by omega)) (ev_pos (by omega) (Ev.bind (spec_pad (w := 2) hm.1 hm.2 (by omega)) (ev_pos (by simp only [ByteArray.size_append, a45, a84, a58]; omega) (ev_pos (by simp only [ByteArray.size_append, a45, a84, a58]; omega) (Ev.bind (spec_pad (w := 2) hd.1 hd.2 (by omega)) (ev_pos (by simp only [ByteArray.size_append, a45, a84, a58]; omega) (ev_pos (by simp only [ByteArray.size_append, a45, a84, a58]; omega) (Ev.bind (spec_pad (w := 2) hh.1 hh.2 (by omega)) (ev_pos (by simp only [ByteArray.size_append, a45, a84, a58]; omega) (ev_pos (by simp only [ByteArray.size_append, a45, a84, a58]; omega) (Ev.bind (spec_pad (w := 2) hi.1 hi.2 (by omega)) (ev_pos (by simp only [ByteArray.size_append, a45, a84, a58]; omega) (ev_pos (by simp only [ByteArray.size_append, a45, a84, a58]; omega) (Ev.now _)))))))))))))))
  · unfold impl_Stamp.f
    refine Ev.bind e2 (ev_pos rfl ?_)
    dsimp only
    refine (ev_bindc (impl_pad (w := 4) hy.1 hy.2 (by omega)) (ev_pos (by omega) (ev_bindc (impl_pad (w := 2) hm.1 hm.2 (by omega)) (ev_pos (by simp only [ByteArray.size_append, a45, a84, a58]; omega) (ev_pos (by simp only [ByteArray.size_append, a45, a84, a58]; omega) (ev_bindc (impl_pad (w := 2) hd.1 hd.2 (by omega)) (ev_pos (by simp only [ByteArray.size_append, a45, a84, a58]; omega) (ev_pos (by simp only [ByteArray.size_append, a45, a84, a58]; omega) (ev_bindc (impl_pad (w := 2) hh.1 hh.2 (by omega)) (ev_pos (by simp only [ByteArray.size_append, a45, a84, a58]; omega) (ev_pos (by simp only [ByteArray.size_append, a45, a84, a58]; omega) (ev_bindc (impl_pad (w := 2) hi.1 hi.2 (by omega)) (ev_pos (by simp only [ByteArray.size_append, a45, a84, a58]; omega) (ev_pos (by simp only [ByteArray.size_append, a45, a84, a58]; omega) (Ev.now _)))))))))))))))
end Go.Proofs.YtmcmkdiefpepnaaDoor.PCRS
