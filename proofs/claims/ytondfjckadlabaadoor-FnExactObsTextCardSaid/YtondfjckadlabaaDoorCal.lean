/-
  Part of a proof by the engine: texts that a program of ours printed, or plain lemmas on them. No condition but what each theorem says.
-/
import Derived.Test.YtondfjckadlabaaDoorPureLib
import Derived.Lib.ItoaLen
import Derived.Lib.Repeat
set_option linter.unusedVariables false
set_option linter.unusedSimpArgs false
namespace Go.Eng
/-- The days of month i, counted from 0 at January 2000. -/
def ml (i : Nat) : Nat := if i % 12 = 1 then (if (i / 12) % 4 = 0 then 29 else 28) else if i % 12 = 3 ∨ i % 12 = 5 ∨ i % 12 = 8 ∨ i % 12 = 10 then 30 else 31
/-- The days ahead of month i. -/
def Sm : Nat → Nat
  | 0 => 0
  | i + 1 => Sm i + ml i
theorem ml_pos (i : Nat) : 28 ≤ ml i ∧ ml i ≤ 31 := by unfold ml; repeat' split
                                                       all_goals omega
theorem Sm_mono {i j : Nat} (h : i ≤ j) : Sm i ≤ Sm j := by
  induction j with
  | zero => obtain rfl : i = 0 := by omega
            exact Nat.le_refl _
  | succ j ih =>
    by_cases hij : i = j + 1
    · rw [hij]; exact Nat.le_refl _
    · have := ih (by omega)
      simp only [Sm]; omega
theorem Sm_lt {i j : Nat} (h : i < j) : Sm i < Sm j := by
  have h1 := Sm_mono (show i + 1 ≤ j from h)
  have h2 := (ml_pos i).1
  simp only [Sm] at h1; omega
theorem ml_at (y k : Nat) (hk : k < 12) : ml (12 * y + k) = if k = 1 then (if y % 4 = 0 then 29 else 28) else if k = 3 ∨ k = 5 ∨ k = 8 ∨ k = 10 then 30 else 31 := by
  unfold ml
  rw [show (12 * y + k) % 12 = k by omega, show (12 * y + k) / 12 = y by omega]
theorem Sm_year (y : Nat) : Sm (12 * y) = 365 * y + (y + 3) / 4 := by
  induction y with
  | zero => rfl
  | succ y ih =>
    have e : 12 * (y + 1) = 12 * y + 11 + 1 := by omega
    have step : ∀ k, k < 12 → Sm (12 * y + k + 1) = Sm (12 * y + k) + ml (12 * y + k) := fun k _ => rfl
    rw [e, step 11 (by omega), step 10 (by omega), step 9 (by omega), step 8 (by omega), step 7 (by omega), step 6 (by omega), step 5 (by omega), step 4 (by omega), step 3 (by omega), step 2 (by omega), step 1 (by omega), step 0 (by omega)]
    simp only [ml_at y _ (show 11 < 12 by omega), ml_at y _ (show 10 < 12 by omega), ml_at y _ (show 9 < 12 by omega), ml_at y _ (show 8 < 12 by omega), ml_at y _ (show 7 < 12 by omega), ml_at y _ (show 6 < 12 by omega), ml_at y _ (show 5 < 12 by omega), ml_at y _ (show 4 < 12 by omega), ml_at y _ (show 3 < 12 by omega), ml_at y _ (show 2 < 12 by omega), ml_at y _ (show 1 < 12 by omega), ml_at y 0 (by omega)]
    rw [show 12 * y + 0 = 12 * y from rfl, ih]
    by_cases h4 : y % 4 = 0 <;> simp [h4] <;> omega
theorem Sm_1200 : Sm 1200 = 36525 := by rw [show (1200 : Nat) = 12 * 100 from rfl, Sm_year]
theorem Sm_bound {i : Nat} (h : i ≤ 1224) : Sm i ≤ 37256 := by
  have := Sm_mono h
  rw [show (1224 : Nat) = 12 * 102 from rfl, Sm_year] at this
  omega
/-- The month that a day is in. -/
theorem month_of (day : Nat) : ∃ j, Sm j ≤ day ∧ day < Sm (j + 1) := by
  have key : ∀ n, day < Sm n → ∃ j, Sm j ≤ day ∧ day < Sm (j + 1) := by
    intro n
    induction n with
    | zero => intro h; simp [Sm] at h
    | succ n ih =>
      intro h
      by_cases hn : day < Sm n
      · exact ih hn
      · exact ⟨n, by omega, h⟩
  refine key (day + 1) ?_
  have : ∀ n, n ≤ Sm n := by
    intro n
    induction n with
    | zero => exact Nat.le_refl _
    | succ n ih => have := (ml_pos n).1; simp only [Sm]; omega
  exact Nat.lt_of_lt_of_le (Nat.lt_succ_self _) (this _)
theorem month_le {day j : Nat} (h : Sm j ≤ day) (hd : day ≤ 36525) : j ≤ 1200 := by
  apply Nat.le_of_not_lt
  intro hj
  have := Sm_lt hj
  rw [Sm_1200] at this; omega

theorem tmod4 (y : Nat) : Int.tmod (2000 + (y : Int)) 4 = ((y % 4 : Nat) : Int) := by
  rw [Int.tmod_eq_emod_of_nonneg (by omega)]; omega
theorem hour_eq (t : Nat) (ht : t ≤ 52596000) : Int.tmod (IntKind.i64.wrap (Int.tdiv (t : Int) 60)) 24 = ((t / 60 % 24 : Nat) : Int) ∧ Int.tmod (t : Int) 60 = ((t % 60 : Nat) : Int) ∧ IntKind.i64.wrap (Int.tdiv (t : Int) 1440) = ((t / 1440 : Nat) : Int) := by
  rw [Int.tdiv_eq_ediv_of_nonneg (by omega), Int.tdiv_eq_ediv_of_nonneg (by omega), w64 (by omega) (by omega), w64 (by omega) (by omega), Int.tmod_eq_emod_of_nonneg (by omega), Int.tmod_eq_emod_of_nonneg (by omega)]
  omega
/-- The date of minute t, its month being j. -/
def dateV (t j : Nat) : Int × Int × Int × Int × Int × Bool := (2000 + ((j / 12 : Nat) : Int), ((j % 12 : Nat) : Int) + 1, ((t / 1440 - Sm j : Nat) : Int) + 1, ((t / 60 % 24 : Nat) : Int), ((t % 60 : Nat) : Int), true)
theorem nd_bound (u : Nat) : ∀ b, u < 10 ^ (b + 1) → Lib.nDigits u ≤ b + 1 := by
  induction u using Nat.strongRecOn with
  | _ u ih =>
    intro b hb
    rw [Lib.nDigits]
    split
    · omega
    · rename_i h
      cases b with
      | zero => omega
      | succ b =>
        have := ih (u / 10) (by omega) b (by rw [Nat.pow_succ] at hb; omega)
        omega
theorem dec_len (u : Nat) (h : u < 18446744073709551616) : (Lib.decDigits u).length ≤ 20 := by
  rw [Lib.decDigits_length]; exact nd_bound u 19 (by omega)
open Lib in
theorem decDigits_ne (u : Nat) : decDigits u ≠ [] := by
  rw [decDigits]; split <;> simp
/-- The digits as the reference makes them: the last one first, laid ahead. -/
theorem decDigits_step (u : Nat) (h : ¬ u < 10) : Lib.decDigits u = Lib.decDigits (u / 10) ++ [UInt8.ofNat (48 + u % 10)] := by
  rw [Lib.decDigits, dif_neg h]
theorem itoa_pos {n : Int} (h : 0 ≤ n) : Lib.itoa n = Lib.decDigits n.toNat := by unfold Lib.itoa; rw [if_neg (by omega)]
/-- A number with noughts ahead, in at least w signs. -/
def pad (n : Int) (w : Nat) : List UInt8 := List.replicate (w - (Lib.itoa n).length) 48 ++ Lib.itoa n
theorem repeat_one (c : Nat) : Lib.repeatL [48] c = List.replicate c (48 : UInt8) := by
  induction c with
  | zero => rfl
  | succ c ih => rw [Lib.repeatL, ih]; rfl
end Go.Eng
