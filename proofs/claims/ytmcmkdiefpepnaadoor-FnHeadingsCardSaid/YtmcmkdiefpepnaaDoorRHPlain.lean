/-
  Part of a proof by the engine: texts that a program of ours printed, or plain lemmas on them. No condition but what each theorem says.
-/
import Derived.Test.YtmcmkdiefpepnaaDoorRH
import Derived.Test.YtmcmkdiefpepnaaDoorDTPlain
import Derived.Test.YtmcmkdiefpepnaaDoorDoors6
set_option linter.unusedVariables false
set_option linter.unusedSimpArgs false
namespace Go.Proofs.YtmcmkdiefpepnaaDoor.RH
open Go Go.Eng Go.Proofs.YtmcmkdiefpepnaaDoor.DT Go.Proofs.YtmcmkdiefpepnaaDoor.EX
def isUp (c : UInt8) : Bool := decide (65 ≤ c.toNat) && decide (c.toNat ≤ 90)
theorem capitals_loop (s : ByteArray) (a : Int) (hs : s.size ≤ 9223372036854775807) : ∀ (m n : Nat), s.size - n = m → n ≤ s.size →
    Ev (fun k => impl_capitals_L2 k s a (n : Int)) (((L s).drop n).all isUp && decide ((s.size : Int) = a)) := by
  intro m
  induction m with
  | zero =>
    intro n hm hn
    obtain rfl : n = s.size := by omega
    apply ev_succ
    simp only [impl_capitals_L2, Int.lt_irrefl, decide_false, cond_false]
    rw [List.drop_eq_nil_of_le (by rw [L_length]; omega)]
    exact ev_eq (ev_now _) (by simp [BEq.beq])
  | succ m ih =>
    intro n hm hn
    have h1 : (n : Int) < (s.size : Int) := by omega
    have h2 : (0 : Int) ≤ (n : Int) := by omega
    have hl : n < (L s).length := by rw [L_length]; omega
    apply ev_succ
    simp only [impl_capitals_L2, h1, h2, decide_true, cond_true, wsucc (show n < 9223372036854775807 by omega), bt_nat, List.getD, List.getElem?_eq_getElem hl, Option.getD_some]
    rw [drop_cons hl, List.all_cons]
    by_cases c1 : ((L s)[n].toNat : Int) < 65
    · simp only [c1, decide_true, cond_true]
      exact ev_eq (ev_now _) (by simp [isUp]; omega)
    · by_cases c2 : ((L s)[n].toNat : Int) > 90
      · simp only [c1, c2, decide_true, decide_false, cond_true, cond_false]
        exact ev_eq (ev_now _) (by simp [isUp]; omega)
      · simp only [c1, c2, decide_false, cond_false]
        have hd : isUp (L s)[n] = true := by simp [isUp]; omega
        rw [hd, Bool.true_and]
        exact ih (n + 1) (by omega) (by omega)
theorem impl_capitals_eq {s : ByteArray} (a : Int) (hs : s.size ≤ 9223372036854775807) : impl_capitals s a = some ((L s).all isUp && decide ((s.size : Int) = a)) := by
  refine evF_eq ?_
  have := capitals_loop s a hs s.size 0 (by omega) (by omega)
  simpa [impl_capitals_F] using this
theorem letters_loop (s : ByteArray) (hs : s.size ≤ 9223372036854775807) : ∀ (m n : Nat), s.size - n = m → n ≤ s.size →
    Ev (fun k => spec_l4Letters_L2 k s (n : Int)) (((L s).drop n).all isUp) := by
  intro m
  induction m with
  | zero =>
    intro n hm hn
    obtain rfl : n = s.size := by omega
    apply ev_succ
    simp only [spec_l4Letters_L2, Int.lt_irrefl, decide_false, cond_false]
    rw [List.drop_eq_nil_of_le (by rw [L_length]; omega)]
    exact ev_eq (ev_now _) (by simp)
  | succ m ih =>
    intro n hm hn
    have h1 : (n : Int) < (s.size : Int) := by omega
    have h2 : (0 : Int) ≤ (n : Int) := by omega
    have hl : n < (L s).length := by rw [L_length]; omega
    apply ev_succ
    simp only [spec_l4Letters_L2, h1, h2, decide_true, cond_true, wsucc (show n < 9223372036854775807 by omega), bt_nat, List.getD, List.getElem?_eq_getElem hl, Option.getD_some]
    rw [drop_cons hl, List.all_cons]
    by_cases c1 : ((L s)[n].toNat : Int) < 65
    · simp only [c1, decide_true, cond_true]
      exact ev_eq (ev_now _) (by simp [isUp]; omega)
    · by_cases c2 : ((L s)[n].toNat : Int) > 90
      · simp only [c1, c2, decide_true, decide_false, cond_true, cond_false]
        exact ev_eq (ev_now _) (by simp [isUp]; omega)
      · simp only [c1, c2, decide_false, cond_false]
        have hd : isUp (L s)[n] = true := by simp [isUp]; omega
        rw [hd, Bool.true_and]
        exact ih (n + 1) (by omega) (by omega)
theorem spec_l4Letters_eq {s : ByteArray} (hs : s.size ≤ 9223372036854775807) : spec_l4Letters s = some ((L s).all isUp) := by
  refine evF_eq ?_
  have := letters_loop s hs s.size 0 (by omega) (by omega)
  simpa [spec_l4Letters_F] using this
/-! ### one byte of a text -/
theorem ext1 {s : ByteArray} {n : Nat} (h : n < s.size) : L (s.extract n (n + 1)) = [(L s)[n]'(by rw [L_length]; exact h)] := by
  rw [L_extract, Nat.add_sub_cancel_left, drop_cons (by rw [L_length]; exact h)]
  rfl
theorem ext1_size {s : ByteArray} {n : Nat} (h : n < s.size) : (s.extract n (n + 1)).size = 1 := by rw [← L_length, ext1 h]; rfl
def centreV (s : ByteArray) : Bool := decide (s.size = 4) && (((L s).take 1).all isUp && ((L s).drop 1).all fun x => isUp x || isDig x)
theorem impl_centre_loop (s : ByteArray) (hs : s.size = 4) : ∀ (m n : Nat), 4 - n = m → n ≤ 4 →
    Ev (fun k => impl_centreOk_L4 k s (n : Int)) (((L s).drop n).all fun x => isUp x || isDig x) := by
  intro m
  induction m with
  | zero =>
    intro n hm hn
    obtain rfl : n = 4 := by omega
    apply ev_succ
    simp only [impl_centreOk_L4, show ¬ ((4 : Nat) : Int) < 4 by omega, decide_false, cond_false]
    rw [List.drop_eq_nil_of_le (by rw [L_length]; omega)]
    exact ev_eq (ev_now _) (by simp)
  | succ m ih =>
    intro n hm hn
    have hl : n < (L s).length := by rw [L_length]; omega
    have e1 : (n : Int).toNat = n := by omega
    have e2 : ((n + 1 : Nat) : Int).toNat = n + 1 := by omega
    apply ev_succ
    simp only [impl_centreOk_L4, show (n : Int) < 4 by omega, show (0 : Int) ≤ (n : Int) by omega, decide_true, cond_true, wsucc (show n < 9223372036854775807 by omega), show (0 : Int) ≤ ((n + 1 : Nat) : Int) by omega,
      show ((n + 1 : Nat) : Int) ≤ (s.size : Int) by omega, show (n : Int) ≤ ((n + 1 : Nat) : Int) by omega, Bool.and_self, e1, e2]
    rw [impl_capitals_eq 1 (by rw [ext1_size (by omega)]; omega), impl_digits_eq (by rw [ext1_size (by omega)]; omega)]
    simp only [Option.bind_some, ext1_size (show n < s.size by omega), ext1 (show n < s.size by omega), List.all_cons, List.all_nil, Bool.and_true]
    rw [drop_cons hl, List.all_cons]
    cases c1 : isUp (L s)[n] with
    | true => simpa using ih (n + 1) (by omega) (by omega)
    | false =>
      cases c2 : isDig (L s)[n] with
      | true => simpa using ih (n + 1) (by omega) (by omega)
      | false => exact ev_eq (ev_of (by simp)) rfl
theorem spec_centre_loop (s : ByteArray) (hs : s.size = 4) : ∀ (m n : Nat), 4 - n = m → n ≤ 4 →
    Ev (fun k => spec_l4CentreOk_L4 k s (n : Int)) (((L s).drop n).all fun x => isUp x || isDig x) := by
  intro m
  induction m with
  | zero =>
    intro n hm hn
    obtain rfl : n = 4 := by omega
    apply ev_succ
    simp only [spec_l4CentreOk_L4, show ¬ ((4 : Nat) : Int) < 4 by omega, decide_false, cond_false]
    rw [List.drop_eq_nil_of_le (by rw [L_length]; omega)]
    exact ev_eq (ev_now _) (by simp)
  | succ m ih =>
    intro n hm hn
    have hl : n < (L s).length := by rw [L_length]; omega
    have e1 : (n : Int).toNat = n := by omega
    have e2 : ((n + 1 : Nat) : Int).toNat = n + 1 := by omega
    have hd : spec_l1Digit (bt s (n : Int)) = some (isDig (L s)[n]) := by
      simp only [spec_l1Digit, bt_nat, List.getD, List.getElem?_eq_getElem hl, Option.getD_some, isDig]
      by_cases c : 48 ≤ (L s)[n].toNat
      · simp only [show ((L s)[n].toNat : Int) ≥ 48 by omega, c, decide_true, cond_true, Bool.true_and]
        congr 1
        rw [Bool.eq_iff_iff]; simp; omega
      · simp only [show ¬ ((L s)[n].toNat : Int) ≥ 48 by omega, c, decide_false, cond_false, Bool.false_and]
    apply ev_succ
    simp only [spec_l4CentreOk_L4, show (n : Int) < 4 by omega, show (0 : Int) ≤ (n : Int) by omega, decide_true, cond_true, wsucc (show n < 9223372036854775807 by omega), show (0 : Int) ≤ ((n + 1 : Nat) : Int) by omega,
      show ((n + 1 : Nat) : Int) ≤ (s.size : Int) by omega, show (n : Int) < (s.size : Int) by omega, show (n : Int) ≤ ((n + 1 : Nat) : Int) by omega, Bool.and_self, e1, e2, hd, Option.bind_some]
    rw [spec_l4Letters_eq (by rw [ext1_size (by omega)]; omega)]
    simp only [Option.bind_some, ext1 (show n < s.size by omega), List.all_cons, List.all_nil, Bool.and_true]
    rw [drop_cons hl, List.all_cons]
    cases c1 : isDig (L s)[n] with
    | true => simpa using ih (n + 1) (by omega) (by omega)
    | false =>
      cases c2 : isUp (L s)[n] with
      | true => simpa using ih (n + 1) (by omega) (by omega)
      | false => exact ev_eq (ev_of (by simp)) rfl
theorem centre_four {s : ByteArray} (h : s.size = 4) : centreV s = (isUp ((L s)[0]'(by rw [L_length]; omega)) && ((L s).drop 1).all fun x => isUp x || isDig x) := by
  have h0 : 0 < (L s).length := by rw [L_length]; omega
  have : (L s).take 1 = [(L s)[0]] := by
    have := congrArg (List.take 1) (drop_cons h0)
    rw [List.drop_zero] at this
    exact this
  simp [centreV, h, this]
theorem centre_not {s : ByteArray} (h : ¬ s.size = 4) : centreV s = false := by simp [centreV, h]
theorem impl_centreOk_eq (s : ByteArray) : impl_centreOk s = some (centreV s) := by
  refine evF_eq ?_
  unfold impl_centreOk_F
  by_cases h : s.size = 4
  · have hb : ((s.size : Int) != 4) = false := by simp [h]
    simp only [hb, cond_false, show decide ((0 : Int) ≤ 1) = true by decide, show decide ((1 : Int) ≤ (s.size : Int)) = true by simp; omega, Bool.and_self, cond_true, show Int.toNat 0 = 0 from rfl, show Int.toNat 1 = 0 + 1 from rfl]
    rw [impl_capitals_eq 1 (by rw [ext1_size (by omega)]; omega)]
    simp only [Option.bind_some, ext1_size (show 0 < s.size by omega), ext1 (show 0 < s.size by omega), List.all_cons, List.all_nil, Bool.and_true]
    rw [centre_four h]
    cases c : isUp ((L s)[0]'(by rw [L_length]; omega)) with
    | true => simpa using impl_centre_loop s h 3 1 (by omega) (by omega)
    | false => exact ev_eq (ev_of (by simp)) rfl
  · have hb : ((s.size : Int) != 4) = true := by simp; omega
    simp only [hb, cond_true]
    exact ev_eq (ev_now _) (centre_not h).symm
theorem spec_l4CentreOk_eq (s : ByteArray) : spec_l4CentreOk s = some (centreV s) := by
  refine evF_eq ?_
  unfold spec_l4CentreOk_F
  by_cases h : s.size = 4
  · have hb : ((s.size : Int) != 4) = false := by simp [h]
    simp only [hb, cond_false, show decide ((0 : Int) ≤ 1) = true by decide, show decide ((1 : Int) ≤ (s.size : Int)) = true by simp; omega, Bool.and_self, cond_true, show Int.toNat 0 = 0 from rfl, show Int.toNat 1 = 0 + 1 from rfl]
    rw [spec_l4Letters_eq (by rw [ext1_size (by omega)]; omega)]
    simp only [Option.bind_some, ext1 (show 0 < s.size by omega), List.all_cons, List.all_nil, Bool.and_true]
    rw [centre_four h]
    cases c : isUp ((L s)[0]'(by rw [L_length]; omega)) with
    | true => simpa using spec_centre_loop s h 3 1 (by omega) (by omega)
    | false => exact ev_eq (ev_of (by simp)) rfl
  · have hb : ((s.size : Int) != 4) = true := by simp; omega
    simp only [hb, cond_true]
    exact ev_eq (ev_now _) (centre_not h).symm
end Go.Proofs.YtmcmkdiefpepnaaDoor.RH

namespace Go.Proofs.YtmcmkdiefpepnaaDoor.RH
open Go Go.Eng Go.Proofs.YtmcmkdiefpepnaaDoor.DT Go.Proofs.YtmcmkdiefpepnaaDoor.EX
/-- What digits spell, behind a. -/
def spell : Int → List UInt8 → Int
  | a, [] => a
  | a, c :: l => spell (a * 10 + ((c.toNat : Int) - 48)) l
theorem number_loop (s : ByteArray) (hs : s.size ≤ 15) : ∀ (m n : Nat) (a : Int), s.size - n = m → n ≤ s.size → 0 ≤ a → a < 10 ^ n →
    Ev (fun k => spec_l2Number_L5 k s a (n : Int)) (if ((L s).drop n).all isDig = true then spell a ((L s).drop n) else -1) := by
  intro m
  induction m with
  | zero =>
    intro n a hm hn h0 h1
    obtain rfl : n = s.size := by omega
    apply ev_succ
    simp only [spec_l2Number_L5, Int.lt_irrefl, decide_false, cond_false]
    rw [List.drop_eq_nil_of_le (by rw [L_length]; omega)]
    exact ev_eq (ev_now _) (by simp [spell])
  | succ m ih =>
    intro n a hm hn h0 h1
    have hl : n < (L s).length := by rw [L_length]; omega
    have hp : (10 : Int) ^ n ≤ 10 ^ 14 := by
      have : (10 : Nat) ^ n ≤ 10 ^ 14 := Nat.pow_le_pow_right (by omega) (by omega)
      exact_mod_cast this
    have hp' : (10 : Int) ^ (n + 1) = 10 ^ n * 10 := by rw [Int.pow_succ]
    have hu := u8_lt (L s)[n]
    apply ev_succ
    simp only [spec_l2Number_L5, show (n : Int) < (s.size : Int) by omega, show (0 : Int) ≤ (n : Int) by omega, decide_true, cond_true, wsucc (show n < 9223372036854775807 by omega), bt_nat, List.getD, List.getElem?_eq_getElem hl, Option.getD_some, spec_l1Digit]
    rw [drop_cons hl, List.all_cons]
    by_cases hd : isDig (L s)[n] = true
    · have hd' := hd
      simp only [isDig, Bool.and_eq_true, decide_eq_true_eq] at hd'
      have h14 : a < 100000000000000 := by omega
      simp only [show ((L s)[n].toNat : Int) ≥ 48 by omega, show ((L s)[n].toNat : Int) ≤ 57 by omega, decide_true, cond_true, Option.bind_some, Bool.not_true, cond_false, hd, Bool.true_and,
        wu8 (n := ((L s)[n].toNat : Int) - 48) (by omega) (by omega), w64 (n := ((L s)[n].toNat : Int) - 48) (by omega) (by omega), w64 (n := a * 10) (by omega) (by omega), w64 (n := a * 10 + (((L s)[n].toNat : Int) - 48)) (by omega) (by omega)]
      exact ih (n + 1) _ (by omega) (by omega) (by omega) (by rw [hp']; omega)
    · have hd2 : isDig (L s)[n] = false := not_true_eq hd
      have hd3 := hd2
      simp only [isDig, Bool.and_eq_false_iff, decide_eq_false_iff_not] at hd3
      rw [hd2]
      by_cases h48 : ((L s)[n].toNat : Int) ≥ 48
      · simp only [h48, show ¬ ((L s)[n].toNat : Int) ≤ 57 by omega, decide_true, decide_false, cond_true, cond_false, Option.bind_some, Bool.not_false]
        exact ev_eq (ev_now _) (by simp)
      · simp only [h48, decide_false, cond_false, Option.bind_some, Bool.not_false, cond_true]
        exact ev_eq (ev_now _) (by simp)
theorem number_eq {s : ByteArray} (h0 : 0 < s.size) (h1 : s.size ≤ 15) : spec_l2Number s = some (if (L s).all isDig = true then spell 0 (L s) else -1) := by
  refine evF_eq ?_
  simp only [spec_l2Number_F, beqI, show ¬ ((s.size : Int) = 0) by omega, show ¬ ((s.size : Int) > 15) by omega, decide_false, cond_false]
  have := number_loop s h1 s.size 0 0 (by omega) (by omega) (by omega) (by decide)
  simpa using this
end Go.Proofs.YtmcmkdiefpepnaaDoor.RH

namespace Go.Proofs.YtmcmkdiefpepnaaDoor.RH
open Go Go.Eng Go.Proofs.YtmcmkdiefpepnaaDoor.DT Go.Proofs.YtmcmkdiefpepnaaDoor.EX
/-- The pieces between blanks. -/
def pc : List UInt8 → List UInt8 → List (List UInt8)
  | cur, [] => [cur]
  | cur, c :: l => if c = 32 then cur :: pc [] l else pc (cur ++ [c]) l
theorem pc_none : ∀ (l cur : List UInt8), (32 : UInt8) ∉ l → pc cur l = [cur ++ l]
  | [], cur, _ => by simp [pc]
  | c :: l, cur, h => by
    have hc : ¬ c = 32 := fun e => h (by rw [e]; exact List.mem_cons_self)
    rw [pc, if_neg hc, pc_none l _ fun hm => h (List.mem_cons_of_mem _ hm)]
    simp
theorem pc_some : ∀ (a r cur : List UInt8), (32 : UInt8) ∉ a → pc cur (a ++ 32 :: r) = (cur ++ a) :: pc [] r
  | [], r, cur, _ => by simp [pc]
  | c :: a, r, cur, h => by
    have hc : ¬ c = 32 := fun e => h (by rw [e]; exact List.mem_cons_self)
    rw [List.cons_append, pc, if_neg hc, pc_some a r _ fun hm => h (List.mem_cons_of_mem _ hm)]
    simp
theorem index_cases : ∀ (l : List UInt8), (Lib.indexByte l 32 = -1 ∧ (32 : UInt8) ∉ l) ∨ ∃ a r, l = a ++ 32 :: r ∧ (32 : UInt8) ∉ a ∧ Lib.indexByte l 32 = (a.length : Int)
  | [] => .inl ⟨rfl, by simp⟩
  | c :: l => by
    by_cases hc : c = 32
    · subst hc
      exact .inr ⟨[], l, rfl, by simp, by simp [Lib.indexByte]⟩
    · have hc' : (c == 32) = false := by simpa using hc
      rcases index_cases l with ⟨h1, h2⟩ | ⟨a, r, h1, h2, h3⟩
      · exact .inl ⟨by simp [Lib.indexByte, hc', h1], fun hm => by
          rcases List.mem_cons.1 hm with e | e
          · exact hc e.symm
          · exact h2 e⟩
      · refine .inr ⟨c :: a, r, by rw [h1]; rfl, fun hm => ?_, ?_⟩
        · rcases List.mem_cons.1 hm with e | e
          · exact hc e.symm
          · exact h2 e
        · have hne : ¬ Lib.indexByte l 32 = -1 := by omega
          simp [Lib.indexByte, hc', hne, h3]
theorem split_pc : ∀ (k : Nat) (s : ByteArray), (L s).count 32 ≤ k → (Lib.splitB (bs [32]) 0 k s).map L = pc [] (L s) := by
  have hi : ∀ s : ByteArray, Lib.indexB s (bs [32]) = Lib.indexByte (L s) 32 := fun s => index_byte 32 (L s)
  intro k
  induction k with
  | zero =>
    intro s h
    have : (32 : UInt8) ∉ L s := fun hm => by have := List.count_pos_iff.2 hm; omega
    rw [pc_none _ _ this]; rfl
  | succ k ih =>
    intro s h
    rcases index_cases (L s) with ⟨h1, h2⟩ | ⟨a, r, h1, h2, h3⟩
    · rw [Lib.splitB_miss _ _ _ _ (by rw [hi]; exact h1), pc_none _ _ h2]; rfl
    · rw [Lib.splitB_hit _ _ _ _ a.length (by rw [hi]; exact h3), h1, pc_some _ _ _ h2, List.map_cons]
      have e1 : L (s.extract 0 (a.length + 0)) = a := by rw [L_extract, h1]; simp
      have e2 : L (s.extract (a.length + (bs [32]).size) s.size) = r := by
        have hz : s.size = a.length + (r.length + 1) := by rw [← L_length, h1]; simp
        rw [L_extract, h1, show (bs [32]).size = 1 from rfl, hz]
        simp
        rw [show a.length + (r.length + 1) - (a.length + 1) = r.length by omega, List.take_length]
      rw [e1, ih _ (by rw [e2]; rw [h1, List.count_append, List.count_cons] at h; simp at h; omega), e2]
      rfl
theorem pieces_pc (s : ByteArray) : (pieces s (bs [32])).map L = pc [] (L s) := by
  unfold pieces
  refine split_pc _ s ?_
  have : Lib.countB s (bs [32]) = Lib.countByte (L s) 32 := Lib.count_one _ _
  rw [this]
  exact Nat.le_refl _
theorem mbs : maxBytes / 16 = 8796093022208 := by decide
theorem spec_pieces_loop (s : ByteArray) (hs : s.size ≤ 1048576) : ∀ (m n a : Nat) (out : List ByteArray), s.size - n = m → a ≤ n → n ≤ s.size → out.length ≤ n →
    Ev (fun k => spec_l4Pieces_L4 k s (a : Int) (n : Int) out) (out ++ (pc (((L s).drop a).take (n - a)) ((L s).drop n)).map bs) := by
  have hext : ∀ a n : Nat, s.extract a n = bs (((L s).drop a).take (n - a)) := fun a n => L_inj (by rw [L_extract, L_bs])
  intro m
  induction m with
  | zero =>
    intro n a out hm ha hn ho
    obtain rfl : n = s.size := by omega
    apply ev_succ
    simp only [spec_l4Pieces_L4, beqI, Int.le_refl, show (0 : Int) ≤ (s.size : Int) by omega, show (0 : Int) ≤ (a : Int) by omega, show (a : Int) ≤ (s.size : Int) by omega, decide_true, Bool.and_self, cond_true, mbs, List.length_singleton, show out.length + 1 ≤ 8796093022208 by omega, wsucc (show s.size < 9223372036854775807 by omega), Int.toNat_natCast, hext]
    apply ev_succ
    simp only [spec_l4Pieces_L4, show ¬ ((s.size + 1 : Nat) : Int) ≤ (s.size : Int) by omega, decide_false, cond_false]
    refine ev_eq (ev_now _) ?_
    have hd : (L s).drop s.size = [] := List.drop_eq_nil_of_le (by rw [L_length]; omega)
    rw [hd]
    simp [pc]
  | succ m ih =>
    intro n a out hm ha hn ho
    have hl : n < (L s).length := by rw [L_length]; omega
    apply ev_succ
    simp only [spec_l4Pieces_L4, beqI, show (n : Int) ≤ (s.size : Int) by omega, show ¬ ((n : Int) = (s.size : Int)) by omega, show (n : Int) < (s.size : Int) by omega, show (0 : Int) ≤ (n : Int) by omega, decide_true, decide_false, cond_true, cond_false, bt_nat, List.getD, List.getElem?_eq_getElem hl, Option.getD_some, wsucc (show n < 9223372036854775807 by omega)]
    rw [drop_cons hl]
    by_cases h32 : (L s)[n] = 32
    · have h32' : ((L s)[n].toNat : Int) = 32 := by rw [h32]; rfl
      simp only [h32', decide_true, Bool.and_self, cond_true, show (0 : Int) ≤ (a : Int) by omega, show (a : Int) ≤ (n : Int) by omega, mbs, List.length_singleton, show out.length + 1 ≤ 8796093022208 by omega, Int.toNat_natCast, hext]
      refine ev_eq (ih (n + 1) (n + 1) _ (by omega) (by omega) (by omega) (by rw [List.length_append]; simp; omega)) ?_
      rw [pc, if_pos h32]
      simp
    · have h32' : ¬ ((L s)[n].toNat : Int) = 32 := fun e => h32 (UInt8.toNat_inj.1 (by have : (32 : UInt8).toNat = 32 := rfl; omega))
      simp only [h32', decide_false, cond_false]
      refine ev_eq (ih (n + 1) a out (by omega) (by omega) (by omega) (by omega)) ?_
      rw [pc, if_neg h32]
      congr 3
      rw [show n + 1 - a = (n - a) + 1 by omega, List.take_add_one, List.getElem?_drop, show a + (n - a) = n by omega, List.getElem?_eq_getElem hl]
      rfl
theorem spec_pieces_eq {s : ByteArray} (hs : s.size ≤ 1048576) : spec_l4Pieces s = some (pieces s (bs [32])) := by
  refine evF_eq ?_
  have h := spec_pieces_loop s hs s.size 0 0 [] (by omega) (by omega) (by omega) (by simp)
  refine ev_eq h ?_
  rw [List.drop_zero, Nat.sub_self, List.take_zero, List.nil_append, ← pieces_pc, List.map_map]
  have : ∀ l : List ByteArray, l.map (bs ∘ L) = l := fun l => by
    induction l with
    | nil => rfl
    | cons x l ih => rw [List.map_cons, ih]; congr 1; try exact bs_L x
  exact this _
end Go.Proofs.YtmcmkdiefpepnaaDoor.RH

namespace Go.Proofs.YtmcmkdiefpepnaaDoor.RH
open Go Go.Eng Go.Proofs.YtmcmkdiefpepnaaDoor.DT Go.Proofs.YtmcmkdiefpepnaaDoor.EX
theorem two_ok : ∀ a, a < 10 → ∀ b, b < 10 → (match Lib.parseIntB 64 [UInt8.ofNat (48 + a), UInt8.ofNat (48 + b)] with | .ok v => decide (v = ((10 * a + b : Nat) : Int)) | _ => false) = true := by decide +kernel
theorem dig_of {c : UInt8} (h : isDig c = true) : ∃ a, a < 10 ∧ c = UInt8.ofNat (48 + a) := by
  simp only [isDig, Bool.and_eq_true, decide_eq_true_eq] at h
  refine ⟨c.toNat - 48, by omega, ?_⟩
  rw [show 48 + (c.toNat - 48) = c.toNat by omega]
  exact (UInt8.ofNat_toNat).symm
theorem whole_eq {s : ByteArray} (h2 : s.size = 2) (hd : (L s).all isDig = true) : impl_whole s = some (spell 0 (L s)) := by
  have hl : (L s).length = 2 := by rw [L_length, h2]
  have hs : s = bs (L s) := (bs_L s).symm
  generalize L s = l at hl hd hs
  subst hs
  match l, hl with
  | [c, d], _ =>
    simp only [List.all_cons, List.all_nil, Bool.and_true, Bool.and_eq_true] at hd
    obtain ⟨a, ha, rfl⟩ := dig_of hd.1
    obtain ⟨b, hb, rfl⟩ := dig_of hd.2
    have hp := two_ok a ha b hb
    have : dPar (bs [UInt8.ofNat (48 + a), UInt8.ofNat (48 + b)]) 10 64 = some ((10 * a + b : Nat) : Int) := by
      unfold dPar
      rw [if_pos ⟨rfl, rfl, by rw [size_bs]; simp⟩]
      have e : (bs [UInt8.ofNat (48 + a), UInt8.ofNat (48 + b)]).data.toList = [UInt8.ofNat (48 + a), UInt8.ofNat (48 + b)] := by simp [bs]
      rw [e]
      cases hq : Lib.parseIntB 64 [UInt8.ofNat (48 + a), UInt8.ofNat (48 + b)] with
      | ok v => rw [hq] at hp; simp only [decide_eq_true_eq] at hp; rw [hp]
      | _ => rw [hq] at hp; cases hp
    rw [impl_whole, this, Option.bind_some]
    have t1 : (UInt8.ofNat (48 + a)).toNat = 48 + a := by rw [UInt8.toNat_ofNat']; omega
    have t2 : (UInt8.ofNat (48 + b)).toNat = 48 + b := by rw [UInt8.toNat_ofNat']; omega
    simp only [spell, t1, t2]
    congr 1
    omega
end Go.Proofs.YtmcmkdiefpepnaaDoor.RH

namespace Go.Proofs.YtmcmkdiefpepnaaDoor.RH
open Go Go.Eng Go.Proofs.YtmcmkdiefpepnaaDoor.DT Go.Proofs.YtmcmkdiefpepnaaDoor.EX
/-- The kind of a mark. -/
def mk (s : ByteArray) : Int :=
  match L s with
  | [] => 0
  | [a, b, c] => if (isUp a && (isUp b && isUp c)) = true then (if a = 80 then 4 else if a ≠ b ∨ 88 < c.toNat then -1 else if a = 82 then 1 else if a = 67 then 2 else if a = 65 then 3 else -1) else -1
  | _ => -1
theorem up_of {c : UInt8} (h : isUp c = true) : 65 ≤ c.toNat ∧ c.toNat ≤ 90 := by
  simpa only [isUp, Bool.and_eq_true, decide_eq_true_eq] using h
theorem u8_eq {a b : UInt8} : ((a.toNat : Int) = (b.toNat : Int)) ↔ a = b := ⟨fun h => UInt8.toNat_inj.1 (by omega), fun h => by rw [h]⟩
theorem size3 {s : ByteArray} (h : s.size = 3) : ∃ a b c, s = bs [a, b, c] := by
  have hl : (L s).length = 3 := by rw [L_length, h]
  have hs : s = bs (L s) := (bs_L s).symm
  generalize L s = l at hl hs
  subst hs
  match l, hl with
  | [a, b, c], _ => exact ⟨a, b, c, rfl⟩
theorem mk_not {s : ByteArray} (h0 : ¬ s = bs []) (h3 : ¬ s.size = 3) : mk s = -1 := by
  have hl : ¬ (L s).length = 3 := by rw [L_length]; exact h3
  have hn : ¬ L s = [] := fun e => h0 (by rw [← bs_L s, e])
  unfold mk
  split
  · rename_i e; exact absurd e hn
  · rename_i e; rw [e] at hl; simp at hl
  · rfl
theorem spec_mark (s : ByteArray) (hs : s.size ≤ 9223372036854775807) : ∃ n, spec_MarkOf s = some (mk s, n) := by
  unfold spec_MarkOf
  simp only [beq_bytes, bneI]
  by_cases h0 : s = bs []
  · subst h0; exact ⟨0, by simp [mk, L_bs]⟩
  by_cases h3 : s.size = 3
  · obtain ⟨a, b, c, rfl⟩ := size3 h3
    have hz : ((bs [a, b, c]).size : Int) = 3 := rfl
    have b0 : bt (bs [a, b, c]) 0 = (a.toNat : Int) := rfl
    have b1 : bt (bs [a, b, c]) 1 = (b.toNat : Int) := rfl
    have b2 : bt (bs [a, b, c]) 2 = (c.toNat : Int) := rfl
    have hm : mk (bs [a, b, c]) = if (isUp a && (isUp b && isUp c)) = true then (if a = 80 then 4 else if a ≠ b ∨ 88 < c.toNat then -1 else if a = 82 then 1 else if a = 67 then 2 else if a = 65 then 3 else -1) else -1 := rfl
    simp only [h0, hz, b0, b1, b2, spec_l4Letters_eq hs, L_bs, List.all_cons, List.all_nil, Bool.and_true, Option.bind_some, decide_true, decide_false, cond_false, Bool.not_true, show decide ((2 : Int) < 3) = true from rfl, show decide ((0 : Int) < 3) = true from rfl, show decide ((1 : Int) < 3) = true from rfl, cond_true]
    rw [hm]
    cases hu : (isUp a && (isUp b && isUp c)) with
    | false => exact ⟨0, by simp⟩
    | true =>
      have hu' := hu
      simp only [Bool.and_eq_true] at hu'
      have ua := up_of hu'.1
      have ub := up_of hu'.2.1
      have uc := up_of hu'.2.2
      have ew : IntKind.i64.wrap (IntKind.i64.wrap (IntKind.u8.wrap ((c.toNat : Int) - 65)) + 1) = (c.toNat : Int) - 64 := by
        rw [wu8 (by omega) (by omega), w64 (n := (c.toNat : Int) - 65) (by omega) (by omega), w64 (by omega) (by omega)]; omega
      have k80 : ((a.toNat : Int) == 80) = decide (a = 80) := by rw [beqI, decide_eq_decide]; exact u8_eq (b := 80)
      have k82 : ((a.toNat : Int) == 82) = decide (a = 82) := by rw [beqI, decide_eq_decide]; exact u8_eq (b := 82)
      have k67 : ((a.toNat : Int) == 67) = decide (a = 67) := by rw [beqI, decide_eq_decide]; exact u8_eq (b := 67)
      have k65 : ((a.toNat : Int) == 65) = decide (a = 65) := by rw [beqI, decide_eq_decide]; exact u8_eq (b := 65)
      have kab : decide ((a.toNat : Int) = (b.toNat : Int)) = decide (a = b) := by rw [decide_eq_decide]; exact u8_eq
      simp only [ew, k80, k82, k67, k65, kab, Bool.not_true, cond_false, if_true]
      by_cases a80 : a = 80
      · simp only [a80, decide_true, cond_true, if_true]; exact ⟨_, rfl⟩
      by_cases ab : a = b
      · subst ab
        by_cases c88 : 88 < c.toNat
        · exact ⟨0, by simp [a80, c88, show (c.toNat : Int) - 64 > 24 by omega]⟩
        · have c88' : ¬ (c.toNat : Int) - 64 > 24 := by omega
          simp only [a80, c88, c88', decide_true, decide_false, Bool.not_true, cond_false, ne_eq, not_true_eq_false, or_self, if_false]
          by_cases e1 : a = 82
          · exact ⟨_, by simp only [e1, decide_true, cond_true, if_true]; rfl⟩
          by_cases e2 : a = 67
          · exact ⟨_, by simp only [e1, e2, decide_true, decide_false, cond_true, cond_false, if_true, if_false]; rfl⟩
          by_cases e3 : a = 65
          · exact ⟨_, by simp only [e1, e2, e3, decide_true, decide_false, cond_true, cond_false, if_true, if_false]; rfl⟩
          · exact ⟨_, by simp only [e1, e2, e3, decide_false, cond_false, if_false]; rfl⟩
      · exact ⟨0, by simp [a80, ab]⟩
  · have h3' : ¬ (s.size : Int) = 3 := by omega
    exact ⟨0, by simp only [h0, h3', decide_false, cond_false, Bool.not_false, cond_true, mk_not h0 h3]⟩
end Go.Proofs.YtmcmkdiefpepnaaDoor.RH

namespace Go.Proofs.YtmcmkdiefpepnaaDoor.RH
open Go Go.Eng Go.Proofs.YtmcmkdiefpepnaaDoor.DT Go.Proofs.YtmcmkdiefpepnaaDoor.EX
theorem pair_eq (a b v : UInt8) : (bs [a, b] = bs [v, v]) ↔ (a = v ∧ b = v) := by
  constructor
  · intro h
    have := congrArg L h
    rw [L_bs, L_bs] at this
    simpa using this
  · rintro ⟨rfl, rfl⟩; rfl
theorem impl_mark (s : ByteArray) (hs : s.size ≤ 9223372036854775807) : ∃ n, impl_MarkOf s = some (mk s, n) := by
  suffices h : ∃ n, Ev (fun k => impl_MarkOf_F k s) (mk s, n) by
    obtain ⟨n, h⟩ := h; exact ⟨n, evF_eq h⟩
  unfold impl_MarkOf_F
  simp only [beq_bytes]
  by_cases h0 : s = bs []
  · subst h0; exact ⟨0, by simp only [decide_true, cond_true]; exact ev_eq (ev_now _) (by simp [mk, L_bs])⟩
  simp only [h0, decide_false, cond_false, impl_capitals_eq 3 hs, Option.bind_some]
  by_cases h3 : s.size = 3
  · obtain ⟨a, b, c, rfl⟩ := size3 h3
    have hz : ((bs [a, b, c]).size : Int) = 3 := rfl
    have b0 : bt (bs [a, b, c]) 0 = (a.toNat : Int) := rfl
    have b2 : bt (bs [a, b, c]) 2 = (c.toNat : Int) := rfl
    have hm : mk (bs [a, b, c]) = if (isUp a && (isUp b && isUp c)) = true then (if a = 80 then 4 else if a ≠ b ∨ 88 < c.toNat then -1 else if a = 82 then 1 else if a = 67 then 2 else if a = 65 then 3 else -1) else -1 := rfl
    have hx : (bs [a, b, c]).extract (Int.toNat 0) (Int.toNat 2) = bs [a, b] := L_inj (by rw [L_extract, L_bs, L_bs]; rfl)
    rw [hm, L_bs]
    simp only [hz, b0, List.all_cons, List.all_nil, Bool.and_true, decide_true]
    cases hu : (isUp a && (isUp b && isUp c)) with
    | false => exact ⟨0, by simp only [Bool.not_false, cond_true]; exact ev_eq (ev_now _) (by simp)⟩
    | true =>
      have k80 : ((a.toNat : Int) == 80) = decide (a = 80) := by rw [beqI, decide_eq_decide]; exact u8_eq (b := 80)
      simp only [k80, Bool.not_true, cond_false, show decide ((0 : Int) < 3) = true from rfl, show decide ((1 : Int) < 3) = true from rfl, show decide ((2 : Int) < 3) = true from rfl, cond_true, if_true]
      by_cases a80 : a = 80
      · simp only [a80, decide_true, cond_true, if_true]; exact ⟨_, ev_now _⟩
      simp only [a80, decide_false, cond_false, if_false]
      have r0 : rd Kind.str [bs [82, 82], bs [67, 67], bs [65, 65]] 0 = bs [82, 82] := rfl
      have r1 : rd Kind.str [bs [82, 82], bs [67, 67], bs [65, 65]] 1 = bs [67, 67] := rfl
      have r2 : rd Kind.str [bs [82, 82], bs [67, 67], bs [65, 65]] 2 = bs [65, 65] := rfl
      have c88 : decide ((c.toNat : Int) ≤ 88) = !decide (88 < c.toNat) := by
        by_cases h : 88 < c.toNat
        · simp [h]; omega
        · simp [h]; omega
      have l3 : (([bs [82, 82], bs [67, 67], bs [65, 65]] : List ByteArray).length : Int) = 3 := rfl
      have w1 : IntKind.i64.wrap (0 + 1) = 1 := rfl
      have w2 : IntKind.i64.wrap (1 + 1) = 2 := rfl
      have w3 : IntKind.i64.wrap (2 + 1) = 3 := rfl
      have pe : ∀ v : UInt8, decide (bs [a, b] = bs [v, v]) = (decide (a = v) && decide (b = v)) := fun v => by
        rw [Bool.eq_iff_iff]; simp only [decide_eq_true_eq, Bool.and_eq_true]; exact pair_eq a b v
      have rnd : ∀ (k : Nat) (i : Int) (v : UInt8), 0 ≤ i → i < 3 → rd Kind.str [bs [82, 82], bs [67, 67], bs [65, 65]] i = bs [v, v] → impl_MarkOf_L8 (k + 1) (bs [a, b, c]) 3 i [bs [82, 82], bs [67, 67], bs [65, 65]] =
          bif (decide (a = v) && decide (b = v)) && !decide (88 < c.toNat) then some (IntKind.i64.wrap (i + 1), IntKind.i64.wrap (IntKind.i64.wrap (IntKind.u8.wrap ((c.toNat : Int) - 65)) + 1)) else impl_MarkOf_L8 k (bs [a, b, c]) 3 (IntKind.i64.wrap (i + 1)) [bs [82, 82], bs [67, 67], bs [65, 65]] := by
        intro k i v g0 g1 hr
        simp only [impl_MarkOf_L8, g0, g1, l3, hz, hx, hr, beq_bytes, pe, b2, c88, decide_true, cond_true, show decide ((0 : Int) ≤ 2) = true from rfl, show decide ((2 : Int) ≤ 3) = true from rfl, show decide ((2 : Int) < 3) = true from rfl, Bool.and_self]
        cases (decide (a = v) && decide (b = v)) <;> cases decide (88 < c.toNat) <;> rfl
      have last : Ev (fun k => impl_MarkOf_L8 k (bs [a, b, c]) 3 3 [bs [82, 82], bs [67, 67], bs [65, 65]]) (-1, 0) := by
        apply ev_succ
        simp only [impl_MarkOf_L8, Int.lt_irrefl, decide_false, cond_false]
        exact ev_now _
      have step : ∃ n, Ev (fun k => impl_MarkOf_L8 k (bs [a, b, c]) 3 0 [bs [82, 82], bs [67, 67], bs [65, 65]]) (if a ≠ b ∨ 88 < c.toNat then -1 else if a = 82 then 1 else if a = 67 then 2 else if a = 65 then 3 else -1, n) := by
        cases q1 : ((decide (a = 82) && decide (b = 82)) && !decide (88 < c.toNat)) with
        | true =>
          have q := q1
          simp only [Bool.and_eq_true, decide_eq_true_eq, Bool.not_eq_true', decide_eq_false_iff_not] at q
          refine ⟨IntKind.i64.wrap (IntKind.i64.wrap (IntKind.u8.wrap ((c.toNat : Int) - 65)) + 1), ev_eq (ev_succ (ev_congr (fun k => rnd k 0 82 (by omega) (by omega) r0) (by rw [q1]; exact ev_now _))) ?_⟩
          rw [if_neg (by rintro (h | h); exact h (q.1.1.trans q.1.2.symm); exact q.2 h), if_pos q.1.1, w1]
        | false =>
          cases q2 : ((decide (a = 67) && decide (b = 67)) && !decide (88 < c.toNat)) with
          | true =>
            have q := q2
            simp only [Bool.and_eq_true, decide_eq_true_eq, Bool.not_eq_true', decide_eq_false_iff_not] at q
            refine ⟨IntKind.i64.wrap (IntKind.i64.wrap (IntKind.u8.wrap ((c.toNat : Int) - 65)) + 1), ev_eq (ev_succ (ev_congr (fun k => rnd k 0 82 (by omega) (by omega) r0) (by rw [q1, w1]; exact ev_succ (ev_congr (fun k => rnd k 1 67 (by omega) (by omega) r1) (by rw [q2]; exact ev_now _))))) ?_⟩
            rw [if_neg (by rintro (h | h); exact h (q.1.1.trans q.1.2.symm); exact q.2 h), if_neg (by rw [q.1.1]; decide), if_pos q.1.1, w2]
          | false =>
            cases q3 : ((decide (a = 65) && decide (b = 65)) && !decide (88 < c.toNat)) with
            | true =>
              have q := q3
              simp only [Bool.and_eq_true, decide_eq_true_eq, Bool.not_eq_true', decide_eq_false_iff_not] at q
              refine ⟨IntKind.i64.wrap (IntKind.i64.wrap (IntKind.u8.wrap ((c.toNat : Int) - 65)) + 1), ev_eq (ev_succ (ev_congr (fun k => rnd k 0 82 (by omega) (by omega) r0) (by rw [q1, w1]; exact ev_succ (ev_congr (fun k => rnd k 1 67 (by omega) (by omega) r1) (by rw [q2, w2]; exact ev_succ (ev_congr (fun k => rnd k 2 65 (by omega) (by omega) r2) (by rw [q3]; exact ev_now _))))))) ?_⟩
              rw [if_neg (by rintro (h | h); exact h (q.1.1.trans q.1.2.symm); exact q.2 h), if_neg (by rw [q.1.1]; decide), if_neg (by rw [q.1.1]; decide), if_pos q.1.1, w3]
            | false =>
              refine ⟨0, ev_eq (ev_succ (ev_congr (fun k => rnd k 0 82 (by omega) (by omega) r0) (by rw [q1, w1]; exact ev_succ (ev_congr (fun k => rnd k 1 67 (by omega) (by omega) r1) (by rw [q2, w2]; exact ev_succ (ev_congr (fun k => rnd k 2 65 (by omega) (by omega) r2) (by rw [q3, w3]; exact last))))))) ?_⟩
              by_cases hab : a ≠ b ∨ 88 < c.toNat
              · rw [if_pos hab]
              · rw [if_neg hab]
                have hab' : a = b := Classical.byContradiction fun h => hab (.inl h)
                have hc : ¬ 88 < c.toNat := fun h => hab (.inr h)
                subst hab'
                rw [if_neg (by intro e; simp [e, hc] at q1), if_neg (by intro e; simp [e, hc] at q2), if_neg (by intro e; simp [e, hc] at q3)]
      exact step
  · have h3' : ¬ (s.size : Int) = 3 := by omega
    refine ⟨0, ?_⟩
    simp only [h3', decide_false, Bool.and_false, Bool.not_false, cond_true, mk_not h0 h3]
    exact ev_now _
end Go.Proofs.YtmcmkdiefpepnaaDoor.RH

namespace Go.Proofs.YtmcmkdiefpepnaaDoor.RH
open Go Go.Eng Go.Proofs.YtmcmkdiefpepnaaDoor.DT Go.Proofs.YtmcmkdiefpepnaaDoor.EX
abbrev HV := ByteArray × ByteArray × Int × ByteArray × Int × Int × Int × ByteArray × Int
def no (c : Int) : HV := (bs [], bs [], 0, bs [], 0, 0, 0, bs [], c)
def sp (s : ByteArray) (i j : Nat) : Int := spell 0 (L (s.extract i j))
def timeOk (d h m : Int) : Bool := decide (1 ≤ d) && (decide (d ≤ 31) && (decide (h ≤ 23) && decide (m ≤ 59)))
def kindOk (p : ByteArray) : Bool := (L (p.extract 0 4)).all isUp && (L (p.extract 4 6)).all isDig
def okv (p0 p1 p2 m : ByteArray) : HV := (p0.extract 0 2, p0.extract 2 4, sp p0 4 6, p1, sp p2 0 2, sp p2 2 4, sp p2 4 6, m, 0)
def markv (p0 p1 p2 : ByteArray) : List ByteArray → HV
  | [] => okv p0 p1 p2 (bs [])
  | m :: _ => if mk m = -1 then no 5 else okv p0 p1 p2 m
/-- What is read of the pieces. -/
def rhv (p0 p1 p2 : ByteArray) (ms : List ByteArray) : HV :=
  if p0.size = 6 then if kindOk p0 = true then if centreV p1 = true then if p2.size = 6 then if (L p2).all isDig = true then if timeOk (sp p2 0 2) (sp p2 2 4) (sp p2 4 6) = true then
    markv p0 p1 p2 ms
  else no 4 else no 4 else no 4 else no 3 else no 2 else no 2
theorem mk_cases (s : ByteArray) : mk s = -1 ∨ 0 ≤ mk s := by
  unfold mk
  split
  · right; decide
  · repeat' split
    all_goals first | (left; rfl) | (right; decide)
  · left; rfl
theorem spell_two {a b : UInt8} (ha : isDig a = true) (hb : isDig b = true) : 0 ≤ spell 0 [a, b] ∧ spell 0 [a, b] ≤ 99 := by
  simp only [isDig, Bool.and_eq_true, decide_eq_true_eq] at ha hb
  simp only [spell]
  omega
theorem two_of {s : ByteArray} (h : s.size = 2) : ∃ a b, L s = [a, b] := by
  have hl : (L s).length = 2 := by rw [L_length, h]
  match L s, hl with
  | [a, b], _ => exact ⟨a, b, rfl⟩
theorem sp_range {s : ByteArray} {i j : Nat} (hs : (s.extract i j).size = 2) (hd : (L (s.extract i j)).all isDig = true) : 0 ≤ sp s i j ∧ sp s i j ≤ 99 := by
  obtain ⟨a, b, h⟩ := two_of hs
  unfold sp
  rw [h] at hd ⊢
  simp only [List.all_cons, List.all_nil, Bool.and_true, Bool.and_eq_true] at hd
  exact spell_two hd.1 hd.2
theorem ext_size6 {s : ByteArray} (h : s.size = 6) : (s.extract 0 2).size = 2 ∧ (s.extract 2 4).size = 2 ∧ (s.extract 4 6).size = 2 ∧ (s.extract 0 4).size = 4 := by
  simp only [size_extract, h]; decide
theorem all_ext {p : UInt8 → Bool} {s : ByteArray} (h : (L s).all p = true) (i j : Nat) : (L (s.extract i j)).all p = true := by
  rw [L_extract, List.all_eq_true] at *
  exact fun x hx => h x (List.mem_of_mem_drop (List.mem_of_mem_take hx))
theorem l2In_eq (a b c : Int) : spec_l2In a b c = some (decide (b ≤ a) && decide (a ≤ c)) := by
  unfold spec_l2In
  by_cases h : a ≥ b
  · simp [h]
  · simp [h]
theorem hok {a b c mark : ByteArray} {n d h m : Int} (ha : a.size = 2) (hb : b.size = 2) (hu : (L a).all isUp = true ∧ (L b).all isUp = true) (hc : centreV c = true) (hn : 0 ≤ n ∧ n ≤ 99) (hh : 0 ≤ h) (hm : 0 ≤ m) (hk : mark.size ≤ 9223372036854775807) :
    spec_l4HeadingOk a b n c d h m mark = some (timeOk d h m && decide (0 ≤ mk mark)) := by
  obtain ⟨x, hx⟩ := spec_mark mark hk
  have hl : spec_l4Letters (a ++ b) = some true := by
    rw [spec_l4Letters_eq (by rw [ByteArray.size_append]; omega), L_append, List.all_append, hu.1, hu.2]; rfl
  unfold spec_l4HeadingOk
  simp only [hx, Option.bind_some, ha, hb, beqI, hl, l2In_eq, spec_l4CentreOk_eq, hc, hn.1, hn.2, hh, hm, decide_true, cond_true, Bool.and_self, Bool.true_and, timeOk, show ((2 : Nat) : Int) = 2 from rfl, show decide ((2 : Nat) + 2 ≤ 9223372036854775807) = true from rfl, ge_iff_le]
  cases decide (1 ≤ d) <;> cases decide (d ≤ 31) <;> cases decide (h ≤ 23) <;> cases decide (m ≤ 59) <;> rfl
theorem up_ext {p : ByteArray} (h : p.size = 6) (hu : (L (p.extract 0 4)).all isUp = true) : (L (p.extract 0 2)).all isUp = true ∧ (L (p.extract 2 4)).all isUp = true := by
  rw [L_extract, List.all_eq_true] at hu
  rw [L_extract, L_extract, List.all_eq_true, List.all_eq_true]
  have hl : (L p).length = 6 := by rw [L_length, h]
  match hL : L p, hl with
  | [a, b, c, d, e, f], _ =>
    rw [hL] at hu
    simp at hu ⊢
    exact ⟨⟨hu.1, hu.2.1⟩, hu.2.2.1, hu.2.2.2⟩
end Go.Proofs.YtmcmkdiefpepnaaDoor.RH

namespace Go.Proofs.YtmcmkdiefpepnaaDoor.RH
open Go Go.Eng Go.Proofs.YtmcmkdiefpepnaaDoor.DT Go.Proofs.YtmcmkdiefpepnaaDoor.EX
theorem num2 {s : ByteArray} {i j : Nat} (hs : (s.extract i j).size = 2) : spec_l2Number (s.extract i j) = some (if (L (s.extract i j)).all isDig = true then sp s i j else -1) := number_eq (by omega) (by omega)
noncomputable abbrev specL (k : Nat) (n : Int) (ps : List ByteArray) := spec_ReadHeading_L6 k n (bs []) (bs []) 0 (bs []) 0 0 0 (bs []) (bs []) (bs []) 0 (bs []) 0 0 0 (bs []) ps
noncomputable abbrev implL (k : Nat) (N n : Int) (ps : List ByteArray) := impl_ReadHeading_L5 k N n (bs []) (bs []) 0 (bs []) 0 0 0 (bs []) ps
theorem spec_tail (k : Nat) (p0 p1 p2 : ByteArray) (ms : List ByteArray) (hms : ms.length ≤ 1) (hsz : ∀ m ∈ ms, m.size ≤ 9223372036854775807) :
    specL (k + 1) (((p0 :: p1 :: p2 :: ms).length : Nat) : Int) (p0 :: p1 :: p2 :: ms) = some (rhv p0 p1 p2 ms) := by
  have r0 : rd Kind.str (p0 :: p1 :: p2 :: ms) 0 = p0 := rfl
  have r1 : rd Kind.str (p0 :: p1 :: p2 :: ms) 1 = p1 := rfl
  have r2 : rd Kind.str (p0 :: p1 :: p2 :: ms) 2 = p2 := rfl
  have hl : (((p0 :: p1 :: p2 :: ms).length : Nat) : Int) = (ms.length : Int) + 3 := by simp; omega
  unfold specL rhv
  simp only [spec_ReadHeading_L6, r0, r1, r2, hl, Int.lt_irrefl, decide_false, cond_false, show (0 : Int) < (ms.length : Int) + 3 by omega, show (1 : Int) < (ms.length : Int) + 3 by omega, show (2 : Int) < (ms.length : Int) + 3 by omega, decide_true, cond_true, bneI]
  by_cases h0 : p0.size = 6
  · have h0' : (p0.size : Int) = 6 := by omega
    obtain ⟨z1, z2, z3, z4⟩ := ext_size6 h0
    have hcap : spec_l4Letters (p0.extract 0 4) = some ((L (p0.extract 0 4)).all isUp) := spec_l4Letters_eq (by omega)
    have hno : spec_l2Number (p0.extract 4 6) = some (if (L (p0.extract 4 6)).all isDig = true then sp p0 4 6 else -1) := num2 z3
    have i0 : Int.toNat 0 = 0 := rfl
    have i2 : Int.toNat 2 = 2 := rfl
    have i4 : Int.toNat 4 = 4 := rfl
    have i6 : Int.toNat 6 = 6 := rfl
    rw [if_pos h0]
    simp only [h0', hcap, hno, i0, i2, i4, i6, decide_true, Bool.not_true, cond_false, cond_true, show decide ((0 : Int) ≤ 4) = true from rfl, show decide ((4 : Int) ≤ 6) = true from rfl, show decide ((0 : Int) ≤ 2) = true from rfl, show decide ((2 : Int) ≤ 6) = true from rfl, Bool.and_self, Option.bind_some, if_true]
    cases hc : (L (p0.extract 0 4)).all isUp with
    | false => simp [kindOk, hc, no]
    | true =>
      cases hd : (L (p0.extract 4 6)).all isDig with
      | false => simp [kindOk, hc, hd, no]
      | true =>
        have hr := sp_range z3 hd
        simp only [kindOk, hc, hd, if_true, Bool.not_true, cond_false, show ¬ sp p0 4 6 < 0 by omega, decide_false, Bool.and_self, spec_l4CentreOk_eq, Option.bind_some]
        cases hv : centreV p1 with
        | false => simp [no]
        | true =>
          simp only [Bool.not_true, cond_false, if_true]
          by_cases h2 : p2.size = 6
          · have h2' : (p2.size : Int) = 6 := by omega
            obtain ⟨y1, y2, y3, _⟩ := ext_size6 h2
            have hn2 : spec_l2Number p2 = some (if (L p2).all isDig = true then spell 0 (L p2) else -1) := number_eq (by omega) (by omega)
            rw [if_pos h2]
            simp only [h2', hn2, i6, decide_true, Bool.not_true, cond_false, Option.bind_some, if_true]
            cases hd2 : (L p2).all isDig with
            | false => simp [no]
            | true =>
              have sge : ∀ (l : List UInt8) (a : Int), l.all isDig = true → 0 ≤ a → 0 ≤ spell a l := by
                intro l
                induction l with
                | nil => intro a _ h; exact h
                | cons c l ih =>
                  intro a hl ha
                  simp only [List.all_cons, Bool.and_eq_true, isDig, decide_eq_true_eq] at hl
                  exact ih _ (by simp only [List.all_eq_true]; intro x hx; have := hl.2; rw [List.all_eq_true] at this; have := this x hx; simpa [isDig] using this) (by omega)
              have hge := sge (L p2) 0 hd2 (by omega)
              have e1 := all_ext hd2 0 2
              have e2 := all_ext hd2 2 4
              have e3 := all_ext hd2 4 6
              have hab := up_ext h0 hc
              have b1 := sp_range y1 e1
              have b2 := sp_range y2 e2
              have b3 := sp_range y3 e3
              have ok0 : ∀ m : ByteArray, m.size ≤ 9223372036854775807 → spec_l4HeadingOk (p0.extract 0 2) (p0.extract 2 4) (sp p0 4 6) p1 (sp p2 0 2) (sp p2 2 4) (sp p2 4 6) m = some (timeOk (sp p2 0 2) (sp p2 2 4) (sp p2 4 6) && decide (0 ≤ mk m)) := fun m hm => hok z1 z2 hab hv hr b2.1 b3.1 hm
              have mk0 : decide ((0 : Int) ≤ mk (bs [])) = true := by decide
              simp only [num2 y1, num2 y2, num2 y3, e1, e2, e3, if_true, show ¬ spell 0 (L p2) < 0 by omega, decide_false, cond_false, Option.bind_some, ok0 (bs []) (by decide), mk0, Bool.and_true]
              cases ht : timeOk (sp p2 0 2) (sp p2 2 4) (sp p2 4 6) with
              | false => simp [no]
              | true =>
                match ms, hms with
                | [], _ => simp [markv, okv, ok0 (bs []) (by decide), ht, mk0]
                | [m], _ =>
                  have hm := hsz m (by simp)
                  have r3 : rd Kind.str [p0, p1, p2, m] 3 = m := rfl
                  have l4 : ((([m] : List ByteArray).length : Nat) : Int) + 3 = 4 := rfl
                  simp only [l4, r3, ok0 m hm, ht, beq_self_eq_true, Bool.not_true, cond_false, cond_true, Option.bind_some, show decide ((3 : Int) < 4) = true from rfl, Bool.true_and, if_true]
                  rcases mk_cases m with h | h
                  · rw [h]; simp [markv, h, no]
                  · simp [markv, h, show ¬ mk m = -1 by omega, okv]
          · have h2' : ¬ (p2.size : Int) = 6 := by omega
            simp [h2', h2, no]
  · have h0' : ¬ (p0.size : Int) = 6 := by omega
    simp [h0', h0, no]
theorem wh {s : ByteArray} {i j : Nat} (hs : (s.extract i j).size = 2) (hd : (L (s.extract i j)).all isDig = true) : impl_whole (s.extract i j) = some (sp s i j) := whole_eq hs hd
theorem impl_tail (k : Nat) (p0 p1 p2 : ByteArray) (ms : List ByteArray) (hms : ms.length ≤ 1) (hsz : ∀ m ∈ ms, m.size ≤ 9223372036854775807) :
    implL (k + 1) (((p0 :: p1 :: p2 :: ms).length : Nat) : Int) (((p0 :: p1 :: p2 :: ms).length : Nat) : Int) (p0 :: p1 :: p2 :: ms) = some (rhv p0 p1 p2 ms) := by
  have r0 : rd Kind.str (p0 :: p1 :: p2 :: ms) 0 = p0 := rfl
  have r1 : rd Kind.str (p0 :: p1 :: p2 :: ms) 1 = p1 := rfl
  have r2 : rd Kind.str (p0 :: p1 :: p2 :: ms) 2 = p2 := rfl
  have hl : (((p0 :: p1 :: p2 :: ms).length : Nat) : Int) = (ms.length : Int) + 3 := by simp; omega
  unfold implL rhv
  simp only [impl_ReadHeading_L5, r0, r1, r2, hl, Int.lt_irrefl, decide_false, cond_false, show (0 : Int) < (ms.length : Int) + 3 by omega, show (1 : Int) < (ms.length : Int) + 3 by omega, show (2 : Int) < (ms.length : Int) + 3 by omega, decide_true, cond_true, bneI]
  by_cases h0 : p0.size = 6
  · have h0' : (p0.size : Int) = 6 := by omega
    obtain ⟨z1, z2, z3, z4⟩ := ext_size6 h0
    have hcap : impl_capitals (p0.extract 0 4) 4 = some ((L (p0.extract 0 4)).all isUp) := by rw [impl_capitals_eq 4 (by omega), z4]; simp
    have hno : impl_digits (p0.extract 4 6) = some ((L (p0.extract 4 6)).all isDig) := by rw [impl_digits_eq (by omega), z3]; simp
    have i0 : Int.toNat 0 = 0 := rfl
    have i2 : Int.toNat 2 = 2 := rfl
    have i4 : Int.toNat 4 = 4 := rfl
    have i6 : Int.toNat 6 = 6 := rfl
    rw [if_pos h0]
    simp only [h0', hcap, hno, i0, i2, i4, i6, decide_true, Bool.not_true, cond_false, cond_true, show decide ((0 : Int) ≤ 4) = true from rfl, show decide ((4 : Int) ≤ 6) = true from rfl, show decide ((0 : Int) ≤ 2) = true from rfl, show decide ((2 : Int) ≤ 6) = true from rfl, Bool.and_self, Option.bind_some, if_true, show decide ((2 : Int) ≤ 4) = true from rfl]
    cases hc : (L (p0.extract 0 4)).all isUp with
    | false => simp [kindOk, hc, no]
    | true =>
      cases hd : (L (p0.extract 4 6)).all isDig with
      | false => simp [kindOk, hc, hd, no]
      | true =>
        simp only [kindOk, hc, hd, if_true, Bool.not_true, cond_false, Bool.and_self, wh z3 hd, impl_centreOk_eq, Option.bind_some]
        cases hv : centreV p1 with
        | false => simp [no]
        | true =>
          simp only [Bool.not_true, cond_false, if_true]
          by_cases h2 : p2.size = 6
          · have h2' : (p2.size : Int) = 6 := by omega
            obtain ⟨y1, y2, y3, _⟩ := ext_size6 h2
            have hn2 : impl_digits p2 = some ((L p2).all isDig) := by rw [impl_digits_eq (by omega), h2]; simp
            rw [if_pos h2]
            simp only [h2', hn2, i6, decide_true, Bool.not_true, cond_false, Option.bind_some, if_true]
            cases hd2 : (L p2).all isDig with
            | false => simp [no]
            | true =>
              have e1 := all_ext hd2 0 2
              have e2 := all_ext hd2 2 4
              have e3 := all_ext hd2 4 6
              simp only [wh y1 e1, wh y2 e2, wh y3 e3, Bool.not_true, cond_false, if_true, Option.bind_some, in_eq]
              have end1 : (bif (ms.length : Int) + 3 == 4 then bif decide (3 < (ms.length : Int) + 3) then (bif decide (3 < (ms.length : Int) + 3) then (impl_MarkOf (rd Kind.str (p0 :: p1 :: p2 :: ms) 3)).bind fun val_7 => bif val_7.fst == -1 then some (no 5) else some (okv p0 p1 p2 (rd Kind.str (p0 :: p1 :: p2 :: ms) 3)) else none) else none else some (okv p0 p1 p2 (bs []))) = some (markv p0 p1 p2 ms) := by
                match ms, hms with
                | [], _ => rfl
                | [m], _ =>
                  obtain ⟨x, hx⟩ := impl_mark m (hsz m (by simp))
                  have r3 : rd Kind.str [p0, p1, p2, m] 3 = m := rfl
                  have l4 : ((([m] : List ByteArray).length : Nat) : Int) + 3 = 4 := rfl
                  simp only [l4, r3, hx, beq_self_eq_true, cond_true, Option.bind_some, show decide ((3 : Int) < 4) = true from rfl, beqI]
                  by_cases h : mk m = -1 <;> simp [h, markv]
              simp only [no, okv] at end1
              clear hms hsz
              simp only [end1, no, okv, timeOk, gt_iff_lt]
              by_cases t1 : 1 ≤ sp p2 0 2
              · by_cases t2 : sp p2 0 2 ≤ 31
                · by_cases t3 : sp p2 2 4 ≤ 23
                  · by_cases t4 : sp p2 4 6 ≤ 59
                    · simp [t1, t2, t3, t4, show ¬ 23 < sp p2 2 4 by omega, show ¬ 59 < sp p2 4 6 by omega]
                    · simp [t1, t2, t3, t4, show ¬ 23 < sp p2 2 4 by omega, show 59 < sp p2 4 6 by omega]
                  · simp [t1, t2, t3, show 23 < sp p2 2 4 by omega]
                · simp [t1, t2]
              · simp [t1]
          · have h2' : ¬ (p2.size : Int) = 6 := by omega
            simp [h2', h2, no]
  · have h0' : ¬ (p0.size : Int) = 6 := by omega
    simp [h0', h0, no]
end Go.Proofs.YtmcmkdiefpepnaaDoor.RH

namespace Go.Proofs.YtmcmkdiefpepnaaDoor.RH
open Go Go.Eng Go.Proofs.YtmcmkdiefpepnaaDoor.DT Go.Proofs.YtmcmkdiefpepnaaDoor.EX
theorem spec_look (ps : List ByteArray) (hps : ps.length ≤ 4) (r : HV) (he : bs [] ∈ ps → r = no 1) (hl : bs [] ∉ ps → ∀ k, specL (k + 1) ((ps.length : Nat) : Int) ps = some r) :
    ∀ (m n : Nat), ps.length - n = m → n ≤ ps.length → (∀ i (h : i < ps.length), i < n → ps[i] ≠ bs []) → Ev (fun k => specL k (n : Int) ps) r := by
  intro m
  induction m with
  | zero =>
    intro n hm hn hno
    obtain rfl : n = ps.length := by omega
    apply ev_succ
    refine ev_congr (fun k => hl ?_ k) (ev_now r)
    intro hmem
    obtain ⟨i, hi, e⟩ := List.getElem_of_mem hmem
    exact hno i hi hi e
  | succ m ih =>
    intro n hm hn hno
    have h1 : n < ps.length := by omega
    have hr : rd Kind.str ps (n : Int) = ps[n] := rd_nat h1
    apply ev_succ
    simp only [specL, spec_ReadHeading_L6, show (n : Int) < (ps.length : Int) by omega, show (0 : Int) ≤ (n : Int) by omega, decide_true, cond_true, hr, beq_bytes, wsucc (show n < 9223372036854775807 by omega)]
    by_cases e : ps[n] = bs []
    · simp only [e, decide_true, cond_true]
      exact ev_eq (ev_now _) (he (e ▸ List.getElem_mem h1)).symm
    · simp only [e, decide_false, cond_false]
      refine ih (n + 1) (by omega) (by omega) fun i hi hlt => ?_
      by_cases hin : i = n
      · subst hin; exact e
      · exact hno i hi (by omega)
theorem impl_look (ps : List ByteArray) (hps : ps.length ≤ 4) (r : HV) (he : bs [] ∈ ps → r = no 1) (hl : bs [] ∉ ps → ∀ k, implL (k + 1) ((ps.length : Nat) : Int) ((ps.length : Nat) : Int) ps = some r) :
    ∀ (m n : Nat), ps.length - n = m → n ≤ ps.length → (∀ i (h : i < ps.length), i < n → ps[i] ≠ bs []) → Ev (fun k => implL k ((ps.length : Nat) : Int) (n : Int) ps) r := by
  intro m
  induction m with
  | zero =>
    intro n hm hn hno
    obtain rfl : n = ps.length := by omega
    apply ev_succ
    refine ev_congr (fun k => hl ?_ k) (ev_now r)
    intro hmem
    obtain ⟨i, hi, e⟩ := List.getElem_of_mem hmem
    exact hno i hi hi e
  | succ m ih =>
    intro n hm hn hno
    have h1 : n < ps.length := by omega
    have hr : rd Kind.str ps (n : Int) = ps[n] := rd_nat h1
    apply ev_succ
    simp only [implL, impl_ReadHeading_L5, show (n : Int) < (ps.length : Int) by omega, show (0 : Int) ≤ (n : Int) by omega, decide_true, cond_true, hr, beq_bytes, wsucc (show n < 9223372036854775807 by omega)]
    by_cases e : ps[n] = bs []
    · simp only [e, decide_true, cond_true]
      exact ev_eq (ev_now _) (he (e ▸ List.getElem_mem h1)).symm
    · simp only [e, decide_false, cond_false]
      refine ih (n + 1) (by omega) (by omega) fun i hi hlt => ?_
      by_cases hin : i = n
      · subst hin; exact e
      · exact hno i hi (by omega)
open Classical in
/-- What is read of a line's pieces. -/
noncomputable def readV (ps : List ByteArray) : HV :=
  match ps with
  | p0 :: p1 :: p2 :: ms => if ms.length ≤ 1 then (if bs [] ∈ (p0 :: p1 :: p2 :: ms) then no 1 else rhv p0 p1 p2 ms) else no 1
  | _ => no 1
theorem pc_size : ∀ (l cur : List UInt8), ∀ p ∈ pc cur l, p.length ≤ cur.length + l.length
  | [], cur, p, h => by simp [pc] at h; subst h; simp
  | c :: l, cur, p, h => by
    rw [pc] at h
    split at h
    · rcases List.mem_cons.1 h with rfl | h
      · simp
      · have := pc_size l [] p h; simp at this ⊢; omega
    · have := pc_size l _ p h; simp at this ⊢; omega
theorem pieces_size {s : ByteArray} {p : ByteArray} (h : p ∈ pieces s (bs [32])) : p.size ≤ s.size := by
  have : L p ∈ (pieces s (bs [32])).map L := List.mem_map.2 ⟨p, h, rfl⟩
  rw [pieces_pc] at this
  have := pc_size _ _ _ this
  rw [L_length, L_length] at this
  simpa using this
theorem readV_short {ps : List ByteArray} (h : ¬ ps.length = 3) (h' : ¬ ps.length = 4) : readV ps = no 1 := by
  match ps with
  | [] => rfl
  | [_] => rfl
  | [_, _] => rfl
  | p0 :: p1 :: p2 :: ms => simp only [readV]; simp only [List.length_cons] at h h'; rw [if_neg (by omega)]
theorem readV_long {ps : List ByteArray} (h : ps.length = 3 ∨ ps.length = 4) : ∃ p0 p1 p2 ms, ps = p0 :: p1 :: p2 :: ms ∧ ms.length ≤ 1 := by
  match ps, h with
  | p0 :: p1 :: p2 :: ms, h => exact ⟨p0, p1, p2, ms, rfl, by simp only [List.length_cons] at h; omega⟩
  | [], h => simp at h
  | [_], h => simp at h
  | [_, _], h => simp at h
theorem spec_ReadHeading_eq {s : ByteArray} (hs : s.size ≤ 1048576) : spec_ReadHeading s = some (readV (pieces s (bs [32]))) := by
  refine evF_eq ?_
  have hz : ∀ p ∈ pieces s (bs [32]), p.size ≤ 9223372036854775807 := fun p hp => by have := pieces_size hp; omega
  simp only [spec_ReadHeading_F, spec_pieces_eq hs, Option.bind_some, bneI]
  generalize pieces s (bs [32]) = ps at hz ⊢
  have main : (ps.length = 3 ∨ ps.length = 4) → Ev (fun k => specL k 0 ps) (readV ps) := fun h => by
    obtain ⟨p0, p1, p2, ms, rfl, hms⟩ := readV_long h
    refine spec_look _ (by omega) _ (fun hm => ?_) (fun hm k => ?_) _ 0 rfl (by omega) (fun i hi h => by omega)
    · simp only [readV]; rw [if_pos hms, if_pos hm]
    · simp only [readV]; rw [if_pos hms, if_neg hm]
      exact spec_tail k p0 p1 p2 ms hms fun m hm => hz m (by simp [hm])
  by_cases h3 : ps.length = 3
  · simp only [show (ps.length : Int) = 3 by omega, decide_true, Bool.not_true, cond_false]
    exact main (.inl h3)
  · by_cases h4 : ps.length = 4
    · simp only [show (ps.length : Int) = 4 by omega, show ¬ (4 : Int) = 3 by decide, decide_true, decide_false, Bool.not_true, Bool.not_false, cond_false, cond_true]
      exact main (.inr h4)
    · simp only [show ¬ (ps.length : Int) = 4 by omega, show ¬ (ps.length : Int) = 3 by omega, decide_false, Bool.not_false, cond_true]
      exact ev_eq (ev_now _) (readV_short h3 h4).symm
theorem impl_ReadHeading_eq {s : ByteArray} (hs : s.size ≤ 1048576) : impl_ReadHeading s = some (readV (pieces s (bs [32]))) := by
  refine evF_eq ?_
  have hz : ∀ p ∈ pieces s (bs [32]), p.size ≤ 9223372036854775807 := fun p hp => by have := pieces_size hp; omega
  have hd : dSplit s (bs [32]) = some (pieces s (bs [32])) := by
    unfold dSplit
    simp only [show s.size < 4294967281 by omega, show (bs [32]).size = 1 from rfl, decide_true, Bool.and_self, cond_true]
  simp only [impl_ReadHeading_F, hd, Option.bind_some, bneI]
  generalize pieces s (bs [32]) = ps at hz ⊢
  have main : (ps.length = 3 ∨ ps.length = 4) → Ev (fun k => implL k ((ps.length : Nat) : Int) 0 ps) (readV ps) := fun h => by
    obtain ⟨p0, p1, p2, ms, rfl, hms⟩ := readV_long h
    refine impl_look _ (by omega) _ (fun hm => ?_) (fun hm k => ?_) _ 0 rfl (by omega) (fun i hi h => by omega)
    · simp only [readV]; rw [if_pos hms, if_pos hm]
    · simp only [readV]; rw [if_pos hms, if_neg hm]
      exact impl_tail k p0 p1 p2 ms hms fun m hm => hz m (by simp [hm])
  by_cases h3 : ps.length = 3
  · have := main (.inl h3)
    have e3 : (ps.length : Int) = 3 := by omega
    rw [e3] at this
    simp only [e3, decide_true, Bool.not_true, cond_false]
    exact this
  · by_cases h4 : ps.length = 4
    · have := main (.inr h4)
      have e3 : (ps.length : Int) = 4 := by omega
      rw [e3] at this
      simp only [e3, show ¬ (4 : Int) = 3 by decide, decide_true, decide_false, Bool.not_true, Bool.not_false, cond_false, cond_true]
      exact this
    · simp only [show ¬ (ps.length : Int) = 4 by omega, show ¬ (ps.length : Int) = 3 by omega, decide_false, Bool.not_false, cond_true]
      exact ev_eq (ev_now _) (readV_short h3 h4).symm
end Go.Proofs.YtmcmkdiefpepnaaDoor.RH
