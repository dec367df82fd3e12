/-
  Part of a proof by the engine: texts that a program of ours printed, or plain lemmas on them. No condition but what each theorem says.
-/
import Derived.Test.YtmcmkdiefpepnaaDoorTMP1
set_option linter.unusedVariables false
set_option linter.unusedSimpArgs false
namespace Go.Proofs.YtmcmkdiefpepnaaDoor.TM
open Go Go.Eng Go.Proofs.YtmcmkdiefpepnaaDoor.DT Go.Proofs.YtmcmkdiefpepnaaDoor.EX
def d4 (n : Nat) : List UInt8 := [UInt8.ofNat (48 + n / 1000), UInt8.ofNat (48 + n / 100 % 10), UInt8.ofNat (48 + n / 10 % 10), UInt8.ofNat (48 + n % 10)]
theorem pad4 {n : Nat} (h : n < 10000) (h' : 1000 ≤ n) : pad (n : Int) 4 = d4 n := by
  unfold pad
  rw [itoa_pos (by omega), Int.toNat_natCast, decDigits_step n (by omega), decDigits_step (n / 10) (by omega), decDigits_step (n / 10 / 10) (by omega), Lib.decDigits_one (show n / 10 / 10 / 10 < 10 by omega)]
  simp only [d4, List.length_append, List.length_singleton, List.length_cons, List.length_nil]
  rw [show n / 10 / 10 / 10 = n / 1000 by omega, show n / 10 / 10 = n / 100 by omega]
  rfl
theorem okN_two : ∀ n, n < 100 → (match Lib.parseIntB 64 (d2 n) with | .ok v => decide (v = (n : Int)) | _ => false) = true := by decide +kernel
theorem okN_four : ∀ n, n < 10000 → 2000 ≤ n → n ≤ 2100 → (match Lib.parseIntB 64 (d4 n) with | .ok v => decide (v = (n : Int)) | _ => false) = true := by
  have : ∀ k, k < 101 → (match Lib.parseIntB 64 (d4 (2000 + k)) with | .ok v => decide (v = ((2000 + k : Nat) : Int)) | _ => false) = true := by decide +kernel
  intro n _ h1 h2
  have := this (n - 2000) (by omega)
  rwa [show 2000 + (n - 2000) = n by omega] at this
theorem par_of {l : List UInt8} {n : Nat} (hl : l.length ≤ 1000) (h : (match Lib.parseIntB 64 l with | .ok v => decide (v = (n : Int)) | _ => false) = true) : dPar (bs l) 10 64 = some (n : Int) := by
  unfold dPar
  rw [if_pos ⟨rfl, rfl, by rw [size_bs]; omega⟩]
  have e : (bs l).data.toList = l := by simp [bs]
  rw [e]
  cases hp : Lib.parseIntB 64 l with
  | ok v => rw [hp] at h; simp only [decide_eq_true_eq] at h; rw [h]
  | _ => rw [hp] at h; cases h
end Go.Proofs.YtmcmkdiefpepnaaDoor.TM
