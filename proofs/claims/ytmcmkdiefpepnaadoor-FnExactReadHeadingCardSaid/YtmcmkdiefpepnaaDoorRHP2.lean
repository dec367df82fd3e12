/-
  Part of a proof by the engine: texts that a program of ours printed, or plain lemmas on them. No condition but what each theorem says.
-/
import Derived.Test.YtmcmkdiefpepnaaDoorRHP1
set_option linter.unusedVariables false
set_option linter.unusedSimpArgs false
namespace Go.Proofs.YtmcmkdiefpepnaaDoor.RH
open Go Go.Eng Go.Proofs.YtmcmkdiefpepnaaDoor.DT Go.Proofs.YtmcmkdiefpepnaaDoor.EX
/-- What digits spell, behind a. -/
def spell : Int → List UInt8 → Int
  | a, [] => a
  | a, c :: l => spell (a * 10 + ((c.toNat : Int) - 48)) l
theorem number_loop (s : ByteArray) (hs : s.size ≤ 15) : ∀ (m n : Nat) (a : Int), s.size - n = m → n ≤ s.size → 0 ≤ a → a < 10 ^ n →
    Ev (fun k => spec_l2Number_L5 k s a (n : Int)) (if ((L s).drop n).all isDig = true then spell a ((L s).drop n) else -1) := by
  intro m
  induction m with
  | zero =>
    intro n a hm hn h0 h1
    obtain rfl : n = s.size := by omega
    apply ev_succ
    simp only [spec_l2Number_L5, Int.lt_irrefl, decide_false, cond_false]
    rw [List.drop_eq_nil_of_le (by rw [L_length]; omega)]
    exact ev_eq (ev_now _) (by simp [spell])
  | succ m ih =>
    intro n a hm hn h0 h1
    have hl : n < (L s).length := by rw [L_length]; omega
    have hp : (10 : Int) ^ n ≤ 10 ^ 14 := by
      have : (10 : Nat) ^ n ≤ 10 ^ 14 := Nat.pow_le_pow_right (by omega) (by omega)
      exact_mod_cast this
    have hp' : (10 : Int) ^ (n + 1) = 10 ^ n * 10 := by rw [Int.pow_succ]
    have hu := u8_lt (L s)[n]
    apply ev_succ
    simp only [spec_l2Number_L5, show (n : Int) < (s.size : Int) by omega, show (0 : Int) ≤ (n : Int) by omega, decide_true, cond_true, wsucc (show n < 9223372036854775807 by omega), bt_nat, List.getD, List.getElem?_eq_getElem hl, Option.getD_some, spec_l1Digit]
    rw [drop_cons hl, List.all_cons]
    by_cases hd : isDig (L s)[n] = true
    · have hd' := hd
      simp only [isDig, Bool.and_eq_true, decide_eq_true_eq] at hd'
      have h14 : a < 100000000000000 := by omega
      simp only [show ((L s)[n].toNat : Int) ≥ 48 by omega, show ((L s)[n].toNat : Int) ≤ 57 by omega, decide_true, cond_true, Option.bind_some, Bool.not_true, cond_false, hd, Bool.true_and,
        wu8 (n := ((L s)[n].toNat : Int) - 48) (by omega) (by omega), w64 (n := ((L s)[n].toNat : Int) - 48) (by omega) (by omega), w64 (n := a * 10) (by omega) (by omega), w64 (n := a * 10 + (((L s)[n].toNat : Int) - 48)) (by omega) (by omega)]
      exact ih (n + 1) _ (by omega) (by omega) (by omega) (by rw [hp']; omega)
    · have hd2 : isDig (L s)[n] = false := not_true_eq hd
      have hd3 := hd2
      simp only [isDig, Bool.and_eq_false_iff, decide_eq_false_iff_not] at hd3
      rw [hd2]
      by_cases h48 : ((L s)[n].toNat : Int) ≥ 48
      · simp only [h48, show ¬ ((L s)[n].toNat : Int) ≤ 57 by omega, decide_true, decide_false, cond_true, cond_false, Option.bind_some, Bool.not_false]
        exact ev_eq (ev_now _) (by simp)
      · simp only [h48, decide_false, cond_false, Option.bind_some, Bool.not_false, cond_true]
        exact ev_eq (ev_now _) (by simp)
theorem number_eq {s : ByteArray} (h0 : 0 < s.size) (h1 : s.size ≤ 15) : spec_l2Number s = some (if (L s).all isDig = true then spell 0 (L s) else -1) := by
  refine evF_eq ?_
  simp only [spec_l2Number_F, beqI, show ¬ ((s.size : Int) = 0) by omega, show ¬ ((s.size : Int) > 15) by omega, decide_false, cond_false]
  have := number_loop s h1 s.size 0 0 (by omega) (by omega) (by omega) (by decide)
  simpa using this
end Go.Proofs.YtmcmkdiefpepnaaDoor.RH
