/-
  Plain lemmas: the printed functions of a heading's signs. No condition but what each theorem says.
-/
import Derived.Test.YtmcmkdiefpepnaaDoorRH
import Derived.Test.YtmcmkdiefpepnaaDoorDTP1
set_option linter.unusedVariables false
set_option linter.unusedSimpArgs false
namespace Go.Proofs.YtmcmkdiefpepnaaDoor.RH
open Go Go.Eng Go.Proofs.YtmcmkdiefpepnaaDoor.DT Go.Proofs.YtmcmkdiefpepnaaDoor.EX
def isUp (c : UInt8) : Bool := decide (65 ≤ c.toNat) && decide (c.toNat ≤ 90)
theorem capitals_loop (s : ByteArray) (a : Int) (hs : s.size ≤ 9223372036854775807) : ∀ (m n : Nat), s.size - n = m → n ≤ s.size →
    Ev (fun k => impl_capitals_L2 k s a (n : Int)) (((L s).drop n).all isUp && decide ((s.size : Int) = a)) := by
  intro m
  induction m with
  | zero =>
    intro n hm hn
    obtain rfl : n = s.size := by omega
    apply ev_succ
    simp only [impl_capitals_L2, Int.lt_irrefl, decide_false, cond_false]
    rw [List.drop_eq_nil_of_le (by rw [L_length]; omega)]
    exact ev_eq (ev_now _) (by simp [BEq.beq])
  | succ m ih =>
    intro n hm hn
    have h1 : (n : Int) < (s.size : Int) := by omega
    have h2 : (0 : Int) ≤ (n : Int) := by omega
    have hl : n < (L s).length := by rw [L_length]; omega
    apply ev_succ
    simp only [impl_capitals_L2, h1, h2, decide_true, cond_true, wsucc (show n < 9223372036854775807 by omega), bt_nat, List.getD, List.getElem?_eq_getElem hl, Option.getD_some]
    rw [drop_cons hl, List.all_cons]
    by_cases c1 : ((L s)[n].toNat : Int) < 65
    · simp only [c1, decide_true, cond_true]
      exact ev_eq (ev_now _) (by simp [isUp]; omega)
    · by_cases c2 : ((L s)[n].toNat : Int) > 90
      · simp only [c1, c2, decide_true, decide_false, cond_true, cond_false]
        exact ev_eq (ev_now _) (by simp [isUp]; omega)
      · simp only [c1, c2, decide_false, cond_false]
        have hd : isUp (L s)[n] = true := by simp [isUp]; omega
        rw [hd, Bool.true_and]
        exact ih (n + 1) (by omega) (by omega)
theorem impl_capitals_eq {s : ByteArray} (a : Int) (hs : s.size ≤ 9223372036854775807) : impl_capitals s a = some ((L s).all isUp && decide ((s.size : Int) = a)) := by
  refine evF_eq ?_
  have := capitals_loop s a hs s.size 0 (by omega) (by omega)
  simpa [impl_capitals_F] using this
theorem letters_loop (s : ByteArray) (hs : s.size ≤ 9223372036854775807) : ∀ (m n : Nat), s.size - n = m → n ≤ s.size →
    Ev (fun k => spec_l4Letters_L2 k s (n : Int)) (((L s).drop n).all isUp) := by
  intro m
  induction m with
  | zero =>
    intro n hm hn
    obtain rfl : n = s.size := by omega
    apply ev_succ
    simp only [spec_l4Letters_L2, Int.lt_irrefl, decide_false, cond_false]
    rw [List.drop_eq_nil_of_le (by rw [L_length]; omega)]
    exact ev_eq (ev_now _) (by simp)
  | succ m ih =>
    intro n hm hn
    have h1 : (n : Int) < (s.size : Int) := by omega
    have h2 : (0 : Int) ≤ (n : Int) := by omega
    have hl : n < (L s).length := by rw [L_length]; omega
    apply ev_succ
    simp only [spec_l4Letters_L2, h1, h2, decide_true, cond_true, wsucc (show n < 9223372036854775807 by omega), bt_nat, List.getD, List.getElem?_eq_getElem hl, Option.getD_some]
    rw [drop_cons hl, List.all_cons]
    by_cases c1 : ((L s)[n].toNat : Int) < 65
    · simp only [c1, decide_true, cond_true]
      exact ev_eq (ev_now _) (by simp [isUp]; omega)
    · by_cases c2 : ((L s)[n].toNat : Int) > 90
      · simp only [c1, c2, decide_true, decide_false, cond_true, cond_false]
        exact ev_eq (ev_now _) (by simp [isUp]; omega)
      · simp only [c1, c2, decide_false, cond_false]
        have hd : isUp (L s)[n] = true := by simp [isUp]; omega
        rw [hd, Bool.true_and]
        exact ih (n + 1) (by omega) (by omega)
theorem spec_l4Letters_eq {s : ByteArray} (hs : s.size ≤ 9223372036854775807) : spec_l4Letters s = some ((L s).all isUp) := by
  refine evF_eq ?_
  have := letters_loop s hs s.size 0 (by omega) (by omega)
  simpa [spec_l4Letters_F] using this
/-! ### one byte of a text -/
theorem ext1 {s : ByteArray} {n : Nat} (h : n < s.size) : L (s.extract n (n + 1)) = [(L s)[n]'(by rw [L_length]; exact h)] := by
  rw [L_extract, Nat.add_sub_cancel_left, drop_cons (by rw [L_length]; exact h)]
  rfl
theorem ext1_size {s : ByteArray} {n : Nat} (h : n < s.size) : (s.extract n (n + 1)).size = 1 := by rw [← L_length, ext1 h]; rfl
def centreV (s : ByteArray) : Bool := decide (s.size = 4) && (((L s).take 1).all isUp && ((L s).drop 1).all fun x => isUp x || isDig x)
theorem impl_centre_loop (s : ByteArray) (hs : s.size = 4) : ∀ (m n : Nat), 4 - n = m → n ≤ 4 →
    Ev (fun k => impl_centreOk_L4 k s (n : Int)) (((L s).drop n).all fun x => isUp x || isDig x) := by
  intro m
  induction m with
  | zero =>
    intro n hm hn
    obtain rfl : n = 4 := by omega
    apply ev_succ
    simp only [impl_centreOk_L4, show ¬ ((4 : Nat) : Int) < 4 by omega, decide_false, cond_false]
    rw [List.drop_eq_nil_of_le (by rw [L_length]; omega)]
    exact ev_eq (ev_now _) (by simp)
  | succ m ih =>
    intro n hm hn
    have hl : n < (L s).length := by rw [L_length]; omega
    have e1 : (n : Int).toNat = n := by omega
    have e2 : ((n + 1 : Nat) : Int).toNat = n + 1 := by omega
    apply ev_succ
    simp only [impl_centreOk_L4, show (n : Int) < 4 by omega, show (0 : Int) ≤ (n : Int) by omega, decide_true, cond_true, wsucc (show n < 9223372036854775807 by omega), show (0 : Int) ≤ ((n + 1 : Nat) : Int) by omega,
      show ((n + 1 : Nat) : Int) ≤ (s.size : Int) by omega, show (n : Int) ≤ ((n + 1 : Nat) : Int) by omega, Bool.and_self, e1, e2]
    rw [impl_capitals_eq 1 (by rw [ext1_size (by omega)]; omega), impl_digits_eq (by rw [ext1_size (by omega)]; omega)]
    simp only [Option.bind_some, ext1_size (show n < s.size by omega), ext1 (show n < s.size by omega), List.all_cons, List.all_nil, Bool.and_true]
    rw [drop_cons hl, List.all_cons]
    cases c1 : isUp (L s)[n] with
    | true => simpa using ih (n + 1) (by omega) (by omega)
    | false =>
      cases c2 : isDig (L s)[n] with
      | true => simpa using ih (n + 1) (by omega) (by omega)
      | false => exact ev_eq (ev_of (by simp)) rfl
theorem spec_centre_loop (s : ByteArray) (hs : s.size = 4) : ∀ (m n : Nat), 4 - n = m → n ≤ 4 →
    Ev (fun k => spec_l4CentreOk_L4 k s (n : Int)) (((L s).drop n).all fun x => isUp x || isDig x) := by
  intro m
  induction m with
  | zero =>
    intro n hm hn
    obtain rfl : n = 4 := by omega
    apply ev_succ
    simp only [spec_l4CentreOk_L4, show ¬ ((4 : Nat) : Int) < 4 by omega, decide_false, cond_false]
    rw [List.drop_eq_nil_of_le (by rw [L_length]; omega)]
    exact ev_eq (ev_now _) (by simp)
  | succ m ih =>
    intro n hm hn
    have hl : n < (L s).length := by rw [L_length]; omega
    have e1 : (n : Int).toNat = n := by omega
    have e2 : ((n + 1 : Nat) : Int).toNat = n + 1 := by omega
    have hd : spec_l1Digit (bt s (n : Int)) = some (isDig (L s)[n]) := by
      simp only [spec_l1Digit, bt_nat, List.getD, List.getElem?_eq_getElem hl, Option.getD_some, isDig]
      by_cases c : 48 ≤ (L s)[n].toNat
      · simp only [show ((L s)[n].toNat : Int) ≥ 48 by omega, c, decide_true, cond_true, Bool.true_and]
        congr 1
        rw [Bool.eq_iff_iff]; simp; omega
      · simp only [show ¬ ((L s)[n].toNat : Int) ≥ 48 by omega, c, decide_false, cond_false, Bool.false_and]
    apply ev_succ
    simp only [spec_l4CentreOk_L4, show (n : Int) < 4 by omega, show (0 : Int) ≤ (n : Int) by omega, decide_true, cond_true, wsucc (show n < 9223372036854775807 by omega), show (0 : Int) ≤ ((n + 1 : Nat) : Int) by omega,
      show ((n + 1 : Nat) : Int) ≤ (s.size : Int) by omega, show (n : Int) < (s.size : Int) by omega, show (n : Int) ≤ ((n + 1 : Nat) : Int) by omega, Bool.and_self, e1, e2, hd, Option.bind_some]
    rw [spec_l4Letters_eq (by rw [ext1_size (by omega)]; omega)]
    simp only [Option.bind_some, ext1 (show n < s.size by omega), List.all_cons, List.all_nil, Bool.and_true]
    rw [drop_cons hl, List.all_cons]
    cases c1 : isDig (L s)[n] with
    | true => simpa using ih (n + 1) (by omega) (by omega)
    | false =>
      cases c2 : isUp (L s)[n] with
      | true => simpa using ih (n + 1) (by omega) (by omega)
      | false => exact ev_eq (ev_of (by simp)) rfl
theorem centre_four {s : ByteArray} (h : s.size = 4) : centreV s = (isUp ((L s)[0]'(by rw [L_length]; omega)) && ((L s).drop 1).all fun x => isUp x || isDig x) := by
  have h0 : 0 < (L s).length := by rw [L_length]; omega
  have : (L s).take 1 = [(L s)[0]] := by
    have := congrArg (List.take 1) (drop_cons h0)
    rw [List.drop_zero] at this
    exact this
  simp [centreV, h, this]
theorem centre_not {s : ByteArray} (h : ¬ s.size = 4) : centreV s = false := by simp [centreV, h]
theorem impl_centreOk_eq (s : ByteArray) : impl_centreOk s = some (centreV s) := by
  refine evF_eq ?_
  unfold impl_centreOk_F
  by_cases h : s.size = 4
  · have hb : ((s.size : Int) != 4) = false := by simp [h]
    simp only [hb, cond_false, show decide ((0 : Int) ≤ 1) = true by decide, show decide ((1 : Int) ≤ (s.size : Int)) = true by simp; omega, Bool.and_self, cond_true, show Int.toNat 0 = 0 from rfl, show Int.toNat 1 = 0 + 1 from rfl]
    rw [impl_capitals_eq 1 (by rw [ext1_size (by omega)]; omega)]
    simp only [Option.bind_some, ext1_size (show 0 < s.size by omega), ext1 (show 0 < s.size by omega), List.all_cons, List.all_nil, Bool.and_true]
    rw [centre_four h]
    cases c : isUp ((L s)[0]'(by rw [L_length]; omega)) with
    | true => simpa using impl_centre_loop s h 3 1 (by omega) (by omega)
    | false => exact ev_eq (ev_of (by simp)) rfl
  · have hb : ((s.size : Int) != 4) = true := by simp; omega
    simp only [hb, cond_true]
    exact ev_eq (ev_now _) (centre_not h).symm
theorem spec_l4CentreOk_eq (s : ByteArray) : spec_l4CentreOk s = some (centreV s) := by
  refine evF_eq ?_
  unfold spec_l4CentreOk_F
  by_cases h : s.size = 4
  · have hb : ((s.size : Int) != 4) = false := by simp [h]
    simp only [hb, cond_false, show decide ((0 : Int) ≤ 1) = true by decide, show decide ((1 : Int) ≤ (s.size : Int)) = true by simp; omega, Bool.and_self, cond_true, show Int.toNat 0 = 0 from rfl, show Int.toNat 1 = 0 + 1 from rfl]
    rw [spec_l4Letters_eq (by rw [ext1_size (by omega)]; omega)]
    simp only [Option.bind_some, ext1 (show 0 < s.size by omega), List.all_cons, List.all_nil, Bool.and_true]
    rw [centre_four h]
    cases c : isUp ((L s)[0]'(by rw [L_length]; omega)) with
    | true => simpa using spec_centre_loop s h 3 1 (by omega) (by omega)
    | false => exact ev_eq (ev_of (by simp)) rfl
  · have hb : ((s.size : Int) != 4) = true := by simp; omega
    simp only [hb, cond_true]
    exact ev_eq (ev_now _) (centre_not h).symm
end Go.Proofs.YtmcmkdiefpepnaaDoor.RH
