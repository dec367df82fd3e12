/-
  Part of a proof by the engine: texts that a program of ours printed, or plain lemmas on them. No condition but what each theorem says.
-/
import Derived.Test.YtmcmkdiefpepnaaDoorRHP3
set_option linter.unusedVariables false
set_option linter.unusedSimpArgs false
namespace Go.Proofs.YtmcmkdiefpepnaaDoor.RH
open Go Go.Eng Go.Proofs.YtmcmkdiefpepnaaDoor.DT Go.Proofs.YtmcmkdiefpepnaaDoor.EX
theorem two_ok : ∀ a, a < 10 → ∀ b, b < 10 → (match Lib.parseIntB 64 [UInt8.ofNat (48 + a), UInt8.ofNat (48 + b)] with | .ok v => decide (v = ((10 * a + b : Nat) : Int)) | _ => false) = true := by decide +kernel
theorem dig_of {c : UInt8} (h : isDig c = true) : ∃ a, a < 10 ∧ c = UInt8.ofNat (48 + a) := by
  simp only [isDig, Bool.and_eq_true, decide_eq_true_eq] at h
  refine ⟨c.toNat - 48, by omega, ?_⟩
  rw [show 48 + (c.toNat - 48) = c.toNat by omega]
  exact (UInt8.ofNat_toNat).symm
theorem whole_eq {s : ByteArray} (h2 : s.size = 2) (hd : (L s).all isDig = true) : impl_whole s = some (spell 0 (L s)) := by
  have hl : (L s).length = 2 := by rw [L_length, h2]
  have hs : s = bs (L s) := (bs_L s).symm
  generalize L s = l at hl hd hs
  subst hs
  match l, hl with
  | [c, d], _ =>
    simp only [List.all_cons, List.all_nil, Bool.and_true, Bool.and_eq_true] at hd
    obtain ⟨a, ha, rfl⟩ := dig_of hd.1
    obtain ⟨b, hb, rfl⟩ := dig_of hd.2
    have hp := two_ok a ha b hb
    have : dPar (bs [UInt8.ofNat (48 + a), UInt8.ofNat (48 + b)]) 10 64 = some ((10 * a + b : Nat) : Int) := by
      unfold dPar
      rw [if_pos ⟨rfl, rfl, by rw [size_bs]; simp⟩]
      have e : (bs [UInt8.ofNat (48 + a), UInt8.ofNat (48 + b)]).data.toList = [UInt8.ofNat (48 + a), UInt8.ofNat (48 + b)] := by simp [bs]
      rw [e]
      cases hq : Lib.parseIntB 64 [UInt8.ofNat (48 + a), UInt8.ofNat (48 + b)] with
      | ok v => rw [hq] at hp; simp only [decide_eq_true_eq] at hp; rw [hp]
      | _ => rw [hq] at hp; cases hp
    rw [impl_whole, this, Option.bind_some]
    have t1 : (UInt8.ofNat (48 + a)).toNat = 48 + a := by rw [UInt8.toNat_ofNat']; omega
    have t2 : (UInt8.ofNat (48 + b)).toNat = 48 + b := by rw [UInt8.toNat_ofNat']; omega
    simp only [spell, t1, t2]
    congr 1
    omega
end Go.Proofs.YtmcmkdiefpepnaaDoor.RH
