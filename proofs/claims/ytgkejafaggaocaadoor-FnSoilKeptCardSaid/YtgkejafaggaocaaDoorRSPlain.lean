/-
  Part of a proof by the engine: texts that a program of ours printed, or plain lemmas on them. No condition but what each theorem says.
-/
import Derived.Test.YtgkejafaggaocaaDoorRS
import Derived.Test.YtgkejafaggaocaaDoorDecP
import Derived.Test.YtgkejafaggaocaaDoorDoors6
set_option linter.unusedVariables false
set_option linter.unusedSimpArgs false
namespace Go.Proofs.YtgkejafaggaocaaDoor.RS
open Go Go.Eng Go.Proofs.YtgkejafaggaocaaDoor.DT Go.Proofs.YtgkejafaggaocaaDoor.EX
/-- The pieces between blanks. -/
def pc : List UInt8 → List UInt8 → List (List UInt8)
  | cur, [] => [cur]
  | cur, c :: l => if c = 32 then cur :: pc [] l else pc (cur ++ [c]) l
theorem pc_none : ∀ (l cur : List UInt8), (32 : UInt8) ∉ l → pc cur l = [cur ++ l]
  | [], cur, _ => by simp [pc]
  | c :: l, cur, h => by
    have hc : ¬ c = 32 := fun e => h (by rw [e]; exact List.mem_cons_self)
    rw [pc, if_neg hc, pc_none l _ fun hm => h (List.mem_cons_of_mem _ hm)]
    simp
theorem pc_some : ∀ (a r cur : List UInt8), (32 : UInt8) ∉ a → pc cur (a ++ 32 :: r) = (cur ++ a) :: pc [] r
  | [], r, cur, _ => by simp [pc]
  | c :: a, r, cur, h => by
    have hc : ¬ c = 32 := fun e => h (by rw [e]; exact List.mem_cons_self)
    rw [List.cons_append, pc, if_neg hc, pc_some a r _ fun hm => h (List.mem_cons_of_mem _ hm)]
    simp
theorem index_cases : ∀ (l : List UInt8), (Lib.indexByte l 32 = -1 ∧ (32 : UInt8) ∉ l) ∨ ∃ a r, l = a ++ 32 :: r ∧ (32 : UInt8) ∉ a ∧ Lib.indexByte l 32 = (a.length : Int)
  | [] => .inl ⟨rfl, by simp⟩
  | c :: l => by
    by_cases hc : c = 32
    · subst hc
      exact .inr ⟨[], l, rfl, by simp, by simp [Lib.indexByte]⟩
    · have hc' : (c == 32) = false := by simpa using hc
      rcases index_cases l with ⟨h1, h2⟩ | ⟨a, r, h1, h2, h3⟩
      · exact .inl ⟨by simp [Lib.indexByte, hc', h1], fun hm => by
          rcases List.mem_cons.1 hm with e | e
          · exact hc e.symm
          · exact h2 e⟩
      · refine .inr ⟨c :: a, r, by rw [h1]; rfl, fun hm => ?_, ?_⟩
        · rcases List.mem_cons.1 hm with e | e
          · exact hc e.symm
          · exact h2 e
        · have hne : ¬ Lib.indexByte l 32 = -1 := by omega
          simp [Lib.indexByte, hc', hne, h3]
theorem split_pc : ∀ (k : Nat) (s : ByteArray), (L s).count 32 ≤ k → (Lib.splitB (bs [32]) 0 k s).map L = pc [] (L s) := by
  have hi : ∀ s : ByteArray, Lib.indexB s (bs [32]) = Lib.indexByte (L s) 32 := fun s => index_byte 32 (L s)
  intro k
  induction k with
  | zero =>
    intro s h
    have : (32 : UInt8) ∉ L s := fun hm => by have := List.count_pos_iff.2 hm; omega
    rw [pc_none _ _ this]; rfl
  | succ k ih =>
    intro s h
    rcases index_cases (L s) with ⟨h1, h2⟩ | ⟨a, r, h1, h2, h3⟩
    · rw [Lib.splitB_miss _ _ _ _ (by rw [hi]; exact h1), pc_none _ _ h2]; rfl
    · rw [Lib.splitB_hit _ _ _ _ a.length (by rw [hi]; exact h3), h1, pc_some _ _ _ h2, List.map_cons]
      have e1 : L (s.extract 0 (a.length + 0)) = a := by rw [L_extract, h1]; simp
      have e2 : L (s.extract (a.length + (bs [32]).size) s.size) = r := by
        have hz : s.size = a.length + (r.length + 1) := by rw [← L_length, h1]; simp
        rw [L_extract, h1, show (bs [32]).size = 1 from rfl, hz]
        simp
        rw [show a.length + (r.length + 1) - (a.length + 1) = r.length by omega, List.take_length]
      rw [e1, ih _ (by rw [e2]; rw [h1, List.count_append, List.count_cons] at h; simp at h; omega), e2]
      rfl
theorem pieces_pc (s : ByteArray) : (pieces s (bs [32])).map L = pc [] (L s) := by
  unfold pieces
  refine split_pc _ s ?_
  have : Lib.countB s (bs [32]) = Lib.countByte (L s) 32 := Lib.count_one _ _
  rw [this]
  exact Nat.le_refl _
theorem mbs : maxBytes / 16 = 8796093022208 := by decide
theorem spec_pieces_loop (s : ByteArray) (hs : s.size ≤ 1048576) : ∀ (m n a : Nat) (out : List ByteArray), s.size - n = m → a ≤ n → n ≤ s.size → out.length ≤ n →
    Ev (fun k => spec_l4Pieces_L4 k s (a : Int) (n : Int) out) (out ++ (pc (((L s).drop a).take (n - a)) ((L s).drop n)).map bs) := by
  have hext : ∀ a n : Nat, s.extract a n = bs (((L s).drop a).take (n - a)) := fun a n => L_inj (by rw [L_extract, L_bs])
  intro m
  induction m with
  | zero =>
    intro n a out hm ha hn ho
    obtain rfl : n = s.size := by omega
    apply ev_succ
    simp only [spec_l4Pieces_L4, beqI, Int.le_refl, show (0 : Int) ≤ (s.size : Int) by omega, show (0 : Int) ≤ (a : Int) by omega, show (a : Int) ≤ (s.size : Int) by omega, decide_true, Bool.and_self, cond_true, mbs, List.length_singleton, show out.length + 1 ≤ 8796093022208 by omega, wsucc (show s.size < 9223372036854775807 by omega), Int.toNat_natCast, hext]
    apply ev_succ
    simp only [spec_l4Pieces_L4, show ¬ ((s.size + 1 : Nat) : Int) ≤ (s.size : Int) by omega, decide_false, cond_false]
    refine ev_eq (ev_now _) ?_
    have hd : (L s).drop s.size = [] := List.drop_eq_nil_of_le (by rw [L_length]; omega)
    rw [hd]
    simp [pc]
  | succ m ih =>
    intro n a out hm ha hn ho
    have hl : n < (L s).length := by rw [L_length]; omega
    apply ev_succ
    simp only [spec_l4Pieces_L4, beqI, show (n : Int) ≤ (s.size : Int) by omega, show ¬ ((n : Int) = (s.size : Int)) by omega, show (n : Int) < (s.size : Int) by omega, show (0 : Int) ≤ (n : Int) by omega, decide_true, decide_false, cond_true, cond_false, bt_nat, List.getD, List.getElem?_eq_getElem hl, Option.getD_some, wsucc (show n < 9223372036854775807 by omega)]
    rw [drop_cons hl]
    by_cases h32 : (L s)[n] = 32
    · have h32' : ((L s)[n].toNat : Int) = 32 := by rw [h32]; rfl
      simp only [h32', decide_true, Bool.and_self, cond_true, show (0 : Int) ≤ (a : Int) by omega, show (a : Int) ≤ (n : Int) by omega, mbs, List.length_singleton, show out.length + 1 ≤ 8796093022208 by omega, Int.toNat_natCast, hext]
      refine ev_eq (ih (n + 1) (n + 1) _ (by omega) (by omega) (by omega) (by rw [List.length_append]; simp; omega)) ?_
      rw [pc, if_pos h32]
      simp
    · have h32' : ¬ ((L s)[n].toNat : Int) = 32 := fun e => h32 (UInt8.toNat_inj.1 (by have : (32 : UInt8).toNat = 32 := rfl; omega))
      simp only [h32', decide_false, cond_false]
      refine ev_eq (ih (n + 1) a out (by omega) (by omega) (by omega) (by omega)) ?_
      rw [pc, if_neg h32]
      congr 3
      rw [show n + 1 - a = (n - a) + 1 by omega, List.take_add_one, List.getElem?_drop, show a + (n - a) = n by omega, List.getElem?_eq_getElem hl]
      rfl
theorem spec_pieces_eq {s : ByteArray} (hs : s.size ≤ 1048576) : spec_l4Pieces s = some (pieces s (bs [32])) := by
  refine evF_eq ?_
  have h := spec_pieces_loop s hs s.size 0 0 [] (by omega) (by omega) (by omega) (by simp)
  refine ev_eq h ?_
  rw [List.drop_zero, Nat.sub_self, List.take_zero, List.nil_append, ← pieces_pc, List.map_map]
  have : ∀ l : List ByteArray, l.map (bs ∘ L) = l := fun l => by
    induction l with
    | nil => rfl
    | cons x l ih => rw [List.map_cons, ih]; congr 1; try exact bs_L x
  exact this _
end Go.Proofs.YtgkejafaggaocaaDoor.RS

namespace Go.Proofs.YtgkejafaggaocaaDoor.RS
open Go Go.Eng Go.Proofs.YtgkejafaggaocaaDoor.DT Go.Proofs.YtgkejafaggaocaaDoor.EX
/-- What digits spell, behind a. -/
def spell : Int → List UInt8 → Int
  | a, [] => a
  | a, c :: l => spell (a * 10 + ((c.toNat : Int) - 48)) l
theorem number_loop (s : ByteArray) (hs : s.size ≤ 15) : ∀ (m n : Nat) (a : Int), s.size - n = m → n ≤ s.size → 0 ≤ a → a < 10 ^ n →
    Ev (fun k => spec_l2Number_L5 k s a (n : Int)) (if ((L s).drop n).all isDig = true then spell a ((L s).drop n) else -1) := by
  intro m
  induction m with
  | zero =>
    intro n a hm hn h0 h1
    obtain rfl : n = s.size := by omega
    apply ev_succ
    simp only [spec_l2Number_L5, Int.lt_irrefl, decide_false, cond_false]
    rw [List.drop_eq_nil_of_le (by rw [L_length]; omega)]
    exact ev_eq (ev_now _) (by simp [spell])
  | succ m ih =>
    intro n a hm hn h0 h1
    have hl : n < (L s).length := by rw [L_length]; omega
    have hp : (10 : Int) ^ n ≤ 10 ^ 14 := by
      have : (10 : Nat) ^ n ≤ 10 ^ 14 := Nat.pow_le_pow_right (by omega) (by omega)
      exact_mod_cast this
    have hp' : (10 : Int) ^ (n + 1) = 10 ^ n * 10 := by rw [Int.pow_succ]
    have hu := u8_lt (L s)[n]
    apply ev_succ
    simp only [spec_l2Number_L5, show (n : Int) < (s.size : Int) by omega, show (0 : Int) ≤ (n : Int) by omega, decide_true, cond_true, wsucc (show n < 9223372036854775807 by omega), bt_nat, List.getD, List.getElem?_eq_getElem hl, Option.getD_some, spec_l1Digit]
    rw [drop_cons hl, List.all_cons]
    by_cases hd : isDig (L s)[n] = true
    · have hd' := hd
      simp only [isDig, Bool.and_eq_true, decide_eq_true_eq] at hd'
      have h14 : a < 100000000000000 := by omega
      simp only [show ((L s)[n].toNat : Int) ≥ 48 by omega, show ((L s)[n].toNat : Int) ≤ 57 by omega, decide_true, cond_true, Option.bind_some, Bool.not_true, cond_false, hd, Bool.true_and,
        wu8 (n := ((L s)[n].toNat : Int) - 48) (by omega) (by omega), w64 (n := ((L s)[n].toNat : Int) - 48) (by omega) (by omega), w64 (n := a * 10) (by omega) (by omega), w64 (n := a * 10 + (((L s)[n].toNat : Int) - 48)) (by omega) (by omega)]
      exact ih (n + 1) _ (by omega) (by omega) (by omega) (by rw [hp']; omega)
    · have hd2 : isDig (L s)[n] = false := not_true_eq hd
      have hd3 := hd2
      simp only [isDig, Bool.and_eq_false_iff, decide_eq_false_iff_not] at hd3
      rw [hd2]
      by_cases h48 : ((L s)[n].toNat : Int) ≥ 48
      · simp only [h48, show ¬ ((L s)[n].toNat : Int) ≤ 57 by omega, decide_true, decide_false, cond_true, cond_false, Option.bind_some, Bool.not_false]
        exact ev_eq (ev_now _) (by simp)
      · simp only [h48, decide_false, cond_false, Option.bind_some, Bool.not_false, cond_true]
        exact ev_eq (ev_now _) (by simp)
theorem number_eq {s : ByteArray} (h0 : 0 < s.size) (h1 : s.size ≤ 15) : spec_l2Number s = some (if (L s).all isDig = true then spell 0 (L s) else -1) := by
  refine evF_eq ?_
  simp only [spec_l2Number_F, beqI, show ¬ ((s.size : Int) = 0) by omega, show ¬ ((s.size : Int) > 15) by omega, decide_false, cond_false]
  have := number_loop s h1 s.size 0 0 (by omega) (by omega) (by omega) (by decide)
  simpa using this
end Go.Proofs.YtgkejafaggaocaaDoor.RS

namespace Go.Proofs.YtgkejafaggaocaaDoor.RS
open Go Go.Eng Go.Proofs.YtgkejafaggaocaaDoor.DT Go.Proofs.YtgkejafaggaocaaDoor.EX
theorem spell_spl : ∀ (l : List UInt8) (a : Nat), l.all isDig = true → spell (a : Int) l = (spl a l : Int)
  | [], a, _ => rfl
  | c :: l, a, h => by
    simp only [List.all_cons, Bool.and_eq_true] at h
    have hc := h.1
    simp only [isDig, Bool.and_eq_true, decide_eq_true_eq] at hc
    show spell ((a : Int) * 10 + ((c.toNat : Int) - 48)) l = (spl (a * 10 + (c.toNat - 48)) l : Int)
    rw [← spell_spl l _ h.2]
    congr 1
    omega
/-- What the reference reads as a number. -/
def numV (s : ByteArray) : Int := if (s.size ≠ 0 ∧ s.size ≤ 15) ∧ (L s).all isDig = true then (spl 0 (L s) : Int) else -1
theorem number_all (s : ByteArray) : spec_l2Number s = some (numV s) := by
  by_cases h : s.size ≠ 0 ∧ s.size ≤ 15
  · rw [number_eq (by omega) h.2]
    unfold numV
    by_cases hd : (L s).all isDig = true
    · rw [if_pos hd, if_pos ⟨h, hd⟩]
      congr 1
      exact spell_spl (L s) 0 hd
    · rw [if_neg hd, if_neg (fun x => hd x.2)]
  · unfold numV
    rw [if_neg (fun x => h x.1)]
    refine evF_eq ?_
    unfold spec_l2Number_F
    by_cases h0 : s.size = 0
    · have h0' : (s.size : Int) = 0 := by omega
      simp only [beqI, h0', decide_true, cond_true]
      exact ev_now _
    · have h0' : ¬ (s.size : Int) = 0 := by omega
      have h1 : (s.size : Int) > 15 := by omega
      simp only [beqI, h0', h1, decide_true, decide_false, cond_true, cond_false]
      exact ev_now _
theorem whole_all {s : ByteArray} (h0 : s.size ≠ 0) (h1 : s.size ≤ 18) (hd : (L s).all isDig = true) : impl_whole s = some (spl 0 (L s) : Int) := by
  have hl : (L s) ≠ [] := by
    intro e
    have := L_length s
    rw [e] at this
    exact h0 this.symm
  have hp := parse_ok hl (by rw [L_length]; exact h1) hd
  have hx : s.data.toList = L s := rfl
  unfold impl_whole dPar
  rw [if_pos ⟨rfl, rfl, by omega⟩, hx, hp]
  rfl
theorem head_bt {s : ByteArray} (h : s.size ≠ 0) : (bt s 0 == 48) = decide ((L s).head? = some 48) := by
  have hl := L_length s
  have hb : bt s 0 = (((L s).getD 0 0).toNat : Int) := rfl
  rw [hb]
  match hL : L s with
  | [] => rw [hL] at hl; simp at hl; omega
  | c :: r =>
    simp only [List.getD_cons_zero, List.head?_cons, Option.some.injEq, beqI]
    rw [decide_eq_decide]
    constructor
    · intro h
      exact UInt8.toNat_inj.1 (by have : (48 : UInt8).toNat = 48 := rfl; omega)
    · rintro rfl; rfl
/-- Is it a number that the program takes? -/
def decOk (s : ByteArray) : Bool := canD (L s) && decide (s.size ≤ 18)
theorem decimal_eq {s : ByteArray} (hs : s.size ≤ 9223372036854775807) : impl_decimal s = some (if decOk s = true then ((spl 0 (L s) : Int), true) else (0, false)) := by
  have hne : decide (L s ≠ []) = decide (0 < s.size) := by
    rw [decide_eq_decide, ← L_length]
    constructor
    · intro h; exact List.length_pos_iff.2 h
    · intro h e; rw [e] at h; simp at h
  unfold impl_decimal decOk canD
  rw [impl_digits_eq hs, Option.bind_some, hne, L_length]
  cases hd : (L s).all isDig with
  | false => simp
  | true =>
    by_cases h0 : 0 < s.size
    · by_cases h18 : s.size ≤ 18
      · have hw := whole_all (by omega) h18 hd
        by_cases h1 : 1 < s.size
        · have : ¬ s.size ≤ 1 := by omega
          simp only [h0, h18, h1, this, head_bt (show s.size ≠ 0 by omega), hw, decide_true, decide_false, Bool.and_self, Bool.not_true, cond_false, cond_true, show ¬ (s.size : Int) > 18 by omega, show (s.size : Int) > 1 by omega, show (0 : Int) < (s.size : Int) by omega, Option.bind_some, Bool.true_and, Bool.false_or, Bool.and_true]
          by_cases hh : (L s).head? = some 48 <;> simp [hh]
        · have : s.size ≤ 1 := by omega
          simp only [h0, h18, this, hw, decide_true, Bool.and_self, Bool.not_true, cond_false, show ¬ (s.size : Int) > 18 by omega, show ¬ (s.size : Int) > 1 by omega, decide_false, Option.bind_some, Bool.true_or, if_true]
      · simp [h0, h18, show (s.size : Int) > 18 by omega]
    · simp [h0]
end Go.Proofs.YtgkejafaggaocaaDoor.RS

namespace Go.Proofs.YtgkejafaggaocaaDoor.RS
open Go Go.Eng Go.Proofs.YtgkejafaggaocaaDoor.DT Go.Proofs.YtgkejafaggaocaaDoor.EX
/-- Is a soil right? -/
def soilV (a b c d e : Int) : Bool := (decide (0 ≤ a) && decide (a ≤ 1000000000000)) && ((decide (0 ≤ b) && decide (b ≤ 400)) && ((decide (0 ≤ c) && decide (c ≤ 1500)) && ((decide (0 ≤ d) && decide (d ≤ 1000000000000)) && ((decide (0 ≤ e) && decide (e ≤ 1000000000000)) && decide (e = a + b + c + d)))))
theorem sum_eq {a b c d : Int} (ha : 0 ≤ a ∧ a ≤ 1000000000000) (hb : 0 ≤ b ∧ b ≤ 1000000000000) (hc : 0 ≤ c ∧ c ≤ 1000000000000) (hd : 0 ≤ d ∧ d ≤ 1000000000000) :
    IntKind.i64.wrap (IntKind.i64.wrap (IntKind.i64.wrap (a + b) + c) + d) = a + b + c + d := by
  rw [w64 (n := a + b) (by omega) (by omega), w64 (n := a + b + c) (by omega) (by omega), w64 (by omega) (by omega)]
theorem impl_soil (a b c d e : Int) : impl_soilOk a b c d e = some (soilV a b c d e) := by
  unfold impl_soilOk soilV
  simp only [in_eq, Option.bind_some, beqI]
  by_cases h1 : (decide (0 ≤ a) && decide (a ≤ 1000000000000)) = true
  · by_cases h2 : (decide (0 ≤ b) && decide (b ≤ 400)) = true
    · by_cases h3 : (decide (0 ≤ c) && decide (c ≤ 1500)) = true
      · by_cases h4 : (decide (0 ≤ d) && decide (d ≤ 1000000000000)) = true
        · by_cases h5 : (decide (0 ≤ e) && decide (e ≤ 1000000000000)) = true
          · simp only [h1, h2, h3, h4, h5, cond_true, Bool.true_and]
            simp only [Bool.and_eq_true, decide_eq_true_eq] at h1 h2 h3 h4
            rw [sum_eq h1 (by omega) (by omega) h4]
          · simp only [h1, h2, h3, h4, not_true_eq h5, cond_true, cond_false, Bool.true_and, Bool.false_and]
        · simp only [h1, h2, h3, not_true_eq h4, cond_true, cond_false, Bool.true_and, Bool.false_and]
      · simp only [h1, h2, not_true_eq h3, cond_true, cond_false, Bool.true_and, Bool.false_and]
    · simp only [h1, not_true_eq h2, cond_true, cond_false, Bool.true_and, Bool.false_and]
  · simp only [not_true_eq h1, cond_false, Bool.false_and]
theorem soil_loop (a b c d e : Int) : ∀ (m n : Nat), 5 - n = m → n ≤ 5 → (∀ i (h : i < 5), i < n → (decide (0 ≤ [a, b, c, d, e][i]) && decide ([a, b, c, d, e][i] ≤ 1000000000000)) = true) →
    Ev (fun k => spec_l17SoilOk_L2 k 5 (n : Int) a b c d e [a, b, c, d, e]) (soilV a b c d e)
  | 0, n, hm, hn, hp => by
    obtain rfl : n = 5 := by omega
    have h0 := hp 0 (by omega) (by omega)
    have h1 := hp 1 (by omega) (by omega)
    have h2 := hp 2 (by omega) (by omega)
    have h3 := hp 3 (by omega) (by omega)
    have h4 := hp 4 (by omega) (by omega)
    simp only [List.getElem_cons_zero, List.getElem_cons_succ, Bool.and_eq_true, decide_eq_true_eq] at h0 h1 h2 h3 h4
    apply ev_succ
    simp only [spec_l17SoilOk_L2, show ¬ ((5 : Nat) : Int) < 5 by omega, decide_false, cond_false, beqI, sum_eq h0 h1 h2 h3]
    refine ev_of ?_
    unfold soilV
    simp only [h0.1, h0.2, h1.1, h2.1, h3.1, h3.2, h4.1, h4.2, decide_true, Bool.and_self, Bool.true_and]
    cases decide (b ≤ 400) <;> cases decide (c ≤ 1500) <;> rfl
  | m + 1, n, hm, hn, hp => by
    have hl : n < [a, b, c, d, e].length := by simp; omega
    have hr : rd (Kind.int IntKind.i64) [a, b, c, d, e] (n : Int) = [a, b, c, d, e][n] := rd_nat (k := .int .i64) hl
    apply ev_succ
    simp only [spec_l17SoilOk_L2, show (n : Int) < 5 by omega, show (0 : Int) ≤ (n : Int) by omega, show ((([a, b, c, d, e] : List Int).length : Nat) : Int) = 5 from rfl, decide_true, cond_true, hr, l2In_eq, Option.bind_some, wsucc (show n < 9223372036854775807 by omega)]
    cases hx : (decide (0 ≤ [a, b, c, d, e][n]) && decide ([a, b, c, d, e][n] ≤ 1000000000000)) with
    | false =>
      simp only [Bool.not_false, cond_true]
      refine ev_eq (ev_now _) ?_
      have hn5 : n = 0 ∨ n = 1 ∨ n = 2 ∨ n = 3 ∨ n = 4 := by omega
      have key : soilV a b c d e = true → False := fun h => by
        simp only [soilV, Bool.and_eq_true, decide_eq_true_eq] at h
        rw [Bool.and_eq_false_iff, decide_eq_false_iff_not, decide_eq_false_iff_not] at hx
        rcases hn5 with rfl | rfl | rfl | rfl | rfl
        · simp only [List.getElem_cons_zero] at hx; omega
        · simp only [List.getElem_cons_zero, List.getElem_cons_succ] at hx; omega
        · simp only [List.getElem_cons_zero, List.getElem_cons_succ] at hx; omega
        · simp only [List.getElem_cons_zero, List.getElem_cons_succ] at hx; omega
        · simp only [List.getElem_cons_zero, List.getElem_cons_succ] at hx; omega
      exact (not_true_eq key).symm
    | true =>
      simp only [Bool.not_true, cond_false]
      refine soil_loop a b c d e m (n + 1) (by omega) (by omega) fun i h hi => ?_
      by_cases e : i = n
      · subst e; exact hx
      · exact hp i h (by omega)
theorem spec_soil (a b c d e : Int) : spec_l17SoilOk a b c d e = some (soilV a b c d e) := by
  refine evF_eq ?_
  exact soil_loop a b c d e 5 0 rfl (by omega) (fun i _ h => by omega)
/-! ### the text of a soil -/
def stxt (a b c d e : Int) : List UInt8 := Lib.itoa a ++ 32 :: (Lib.itoa b ++ 32 :: (Lib.itoa c ++ 32 :: (Lib.itoa d ++ 32 :: Lib.itoa e)))
theorem soil_text {a b c d e : Int} (h : soilV a b c d e = true) : spec_SoilText a b c d e = some (bs (stxt a b c d e)) := by
  have hs := h
  simp only [soilV, Bool.and_eq_true, decide_eq_true_eq] at hs
  have la := itoa_len (n := a) (by omega) (by omega)
  have lb := itoa_len (n := b) (by omega) (by omega)
  have lc := itoa_len (n := c) (by omega) (by omega)
  have ld := itoa_len (n := d) (by omega) (by omega)
  have le := itoa_len (n := e) (by omega) (by omega)
  unfold spec_SoilText
  rw [spec_soil, h, Option.bind_some]
  simp only [Bool.not_true, cond_false, l1Dec_eq (n := a) (by omega) (by omega), l1Dec_eq (n := b) (by omega) (by omega), l1Dec_eq (n := c) (by omega) (by omega), l1Dec_eq (n := d) (by omega) (by omega), l1Dec_eq (n := e) (by omega) (by omega), Option.bind_some, ByteArray.size_append, size_bs, List.length_singleton]
  generalize hA : (Lib.itoa a).length = A at la
  generalize hB : (Lib.itoa b).length = B at lb
  generalize hC : (Lib.itoa c).length = C at lc
  generalize hD : (Lib.itoa d).length = D at ld
  generalize hE : (Lib.itoa e).length = E at le
  simp only [show A + 1 ≤ 9223372036854775807 by omega, show A + 1 + B ≤ 9223372036854775807 by omega, show A + 1 + B + 1 ≤ 9223372036854775807 by omega, show A + 1 + B + 1 + C ≤ 9223372036854775807 by omega, show A + 1 + B + 1 + C + 1 ≤ 9223372036854775807 by omega, show A + 1 + B + 1 + C + 1 + D ≤ 9223372036854775807 by omega, show A + 1 + B + 1 + C + 1 + D + 1 ≤ 9223372036854775807 by omega, show A + 1 + B + 1 + C + 1 + D + 1 + E ≤ 9223372036854775807 by omega, decide_true, cond_true]
  congr 1
  refine L_inj ?_
  simp only [L_append, L_bs, stxt, List.append_assoc, List.cons_append, List.nil_append]
end Go.Proofs.YtgkejafaggaocaaDoor.RS

namespace Go.Proofs.YtgkejafaggaocaaDoor.RS
open Go Go.Eng Go.Proofs.YtgkejafaggaocaaDoor.DT Go.Proofs.YtgkejafaggaocaaDoor.EX
abbrev SV := Int × Int × Int × Int × Int × Bool
def none5 : SV := (0, 0, 0, 0, 0, false)
def vl (s : ByteArray) : Int := (spl 0 (L s) : Int)
/-- What the program reads of five pieces. -/
def implV (p0 p1 p2 p3 p4 : ByteArray) : SV :=
  if decOk p0 = true then if decOk p1 = true then if decOk p2 = true then if decOk p3 = true then if decOk p4 = true then
    (if soilV (vl p0) (vl p1) (vl p2) (vl p3) (vl p4) = true then (vl p0, vl p1, vl p2, vl p3, vl p4, true) else none5)
  else none5 else none5 else none5 else none5 else none5
theorem impl_five {p0 p1 p2 p3 p4 : ByteArray} (h0 : p0.size ≤ 9223372036854775807) (h1 : p1.size ≤ 9223372036854775807) (h2 : p2.size ≤ 9223372036854775807) (h3 : p3.size ≤ 9223372036854775807) (h4 : p4.size ≤ 9223372036854775807) :
    Ev (fun k => impl_ReadSoil_L6 k 5 0 0 0 0 0 0 0 0 0 0 0 [p0, p1, p2, p3, p4]) (implV p0 p1 p2 p3 p4) := by
  have r0 : rd Kind.str [p0, p1, p2, p3, p4] 0 = p0 := rfl
  have r1 : rd Kind.str [p0, p1, p2, p3, p4] 1 = p1 := rfl
  have r2 : rd Kind.str [p0, p1, p2, p3, p4] 2 = p2 := rfl
  have r3 : rd Kind.str [p0, p1, p2, p3, p4] 3 = p3 := rfl
  have r4 : rd Kind.str [p0, p1, p2, p3, p4] 4 = p4 := rfl
  have l5 : ((([p0, p1, p2, p3, p4] : List ByteArray).length : Nat) : Int) = 5 := rfl
  have w1 : IntKind.i64.wrap (0 + 1) = 1 := rfl
  have w2 : IntKind.i64.wrap (1 + 1) = 2 := rfl
  have w3 : IntKind.i64.wrap (2 + 1) = 3 := rfl
  have w4 : IntKind.i64.wrap (3 + 1) = 4 := rfl
  have w5 : IntKind.i64.wrap (4 + 1) = 5 := rfl
  have stop : ∀ k : Nat, (some (0, 0, 0, 0, 0, false) : Option SV) = some none5 := fun _ => rfl
  unfold implV
  apply ev_succ
  simp only [impl_ReadSoil_L6, r0, l5, w1, show decide ((0 : Int) < 5) = true from rfl, show decide ((0 : Int) ≤ 0) = true from rfl, cond_true, decimal_eq h0, Option.bind_some, show decide ((0 : Int) = ((0 : Nat) : Int)) = true from rfl]
  cases d0 : decOk p0 with
  | false => exact ev_eq (ev_now _) (by simp [none5])
  | true =>
    simp only [if_true, Bool.not_true, cond_false]
    apply ev_succ
    simp only [impl_ReadSoil_L6, r1, l5, w2, show decide ((1 : Int) < 5) = true from rfl, show decide ((0 : Int) ≤ 1) = true from rfl, cond_true, cond_false, decimal_eq h1, Option.bind_some, show decide ((1 : Int) = ((0 : Nat) : Int)) = false from rfl, show decide ((1 : Int) = ((0 + 1 : Nat) : Int)) = true from rfl]
    cases d1 : decOk p1 with
    | false => exact ev_eq (ev_now _) (by simp [none5])
    | true =>
      simp only [if_true, Bool.not_true, cond_false]
      apply ev_succ
      simp only [impl_ReadSoil_L6, r2, l5, w3, show decide ((2 : Int) < 5) = true from rfl, show decide ((0 : Int) ≤ 2) = true from rfl, cond_true, cond_false, decimal_eq h2, Option.bind_some, show decide ((2 : Int) = ((0 : Nat) : Int)) = false from rfl, show decide ((2 : Int) = ((0 + 1 : Nat) : Int)) = false from rfl, show decide ((2 : Int) = ((0 + 1 + 1 : Nat) : Int)) = true from rfl]
      cases d2 : decOk p2 with
      | false => exact ev_eq (ev_now _) (by simp [none5])
      | true =>
        simp only [if_true, Bool.not_true, cond_false]
        apply ev_succ
        simp only [impl_ReadSoil_L6, r3, l5, w4, show decide ((3 : Int) < 5) = true from rfl, show decide ((0 : Int) ≤ 3) = true from rfl, cond_true, cond_false, decimal_eq h3, Option.bind_some, show decide ((3 : Int) = ((0 : Nat) : Int)) = false from rfl, show decide ((3 : Int) = ((0 + 1 : Nat) : Int)) = false from rfl, show decide ((3 : Int) = ((0 + 1 + 1 : Nat) : Int)) = false from rfl, show decide ((3 : Int) = ((0 + 1 + 1 + 1 : Nat) : Int)) = true from rfl]
        cases d3 : decOk p3 with
        | false => exact ev_eq (ev_now _) (by simp [none5])
        | true =>
          simp only [if_true, Bool.not_true, cond_false]
          apply ev_succ
          simp only [impl_ReadSoil_L6, r4, l5, w5, show decide ((4 : Int) < 5) = true from rfl, show decide ((0 : Int) ≤ 4) = true from rfl, cond_true, cond_false, decimal_eq h4, Option.bind_some, show decide ((4 : Int) = ((0 : Nat) : Int)) = false from rfl, show decide ((4 : Int) = ((0 + 1 : Nat) : Int)) = false from rfl, show decide ((4 : Int) = ((0 + 1 + 1 : Nat) : Int)) = false from rfl, show decide ((4 : Int) = ((0 + 1 + 1 + 1 : Nat) : Int)) = false from rfl, show decide ((4 : Int) = ((0 + 1 + 1 + 1 + 1 : Nat) : Int)) = true from rfl]
          cases d4 : decOk p4 with
          | false => exact ev_eq (ev_now _) (by simp [none5])
          | true =>
            simp only [if_true, Bool.not_true, cond_false]
            apply ev_succ
            simp only [impl_ReadSoil_L6, show decide ((5 : Int) < 5) = false from rfl, cond_false, impl_soil, Option.bind_some]
            refine ev_of ?_
            show (bif !soilV (vl p0) (vl p1) (vl p2) (vl p3) (vl p4) then some (0, 0, 0, 0, 0, false) else some (vl p0, vl p1, vl p2, vl p3, vl p4, true)) = _
            cases soilV (vl p0) (vl p1) (vl p2) (vl p3) (vl p4) <;> rfl
theorem five_of {ps : List ByteArray} (h : ps.length = 5) : ∃ p0 p1 p2 p3 p4, ps = [p0, p1, p2, p3, p4] := by
  match ps, h with
  | [p0, p1, p2, p3, p4], _ => exact ⟨p0, p1, p2, p3, p4, rfl⟩
theorem pc_size : ∀ (l cur : List UInt8), ∀ p ∈ pc cur l, p.length ≤ cur.length + l.length
  | [], cur, p, h => by simp [pc] at h; subst h; simp
  | c :: l, cur, p, h => by
    rw [pc] at h
    split at h
    · rcases List.mem_cons.1 h with rfl | h
      · simp
      · have := pc_size l [] p h; simp at this ⊢; omega
    · have := pc_size l _ p h; simp at this ⊢; omega
theorem pieces_size {s : ByteArray} {p : ByteArray} (h : p ∈ pieces s (bs [32])) : p.size ≤ s.size := by
  have : L p ∈ (pieces s (bs [32])).map L := List.mem_map.2 ⟨p, h, rfl⟩
  rw [pieces_pc] at this
  have := pc_size _ _ _ this
  rw [L_length, L_length] at this
  simpa using this
theorem impl_read {s : ByteArray} (hs : s.size ≤ 1048576) : (¬ (pieces s (bs [32])).length = 5 ∧ impl_ReadSoil s = some none5) ∨ ∃ p0 p1 p2 p3 p4, pieces s (bs [32]) = [p0, p1, p2, p3, p4] ∧ impl_ReadSoil s = some (implV p0 p1 p2 p3 p4) := by
  have hd : dSplit s (bs [32]) = some (pieces s (bs [32])) := by
    unfold dSplit
    simp only [show s.size < 4294967281 by omega, show (bs [32]).size = 1 from rfl, decide_true, Bool.and_self, cond_true]
  have hz : ∀ p ∈ pieces s (bs [32]), p.size ≤ 9223372036854775807 := fun p hp => by have := pieces_size hp; omega
  by_cases h5 : (pieces s (bs [32])).length = 5
  · obtain ⟨p0, p1, p2, p3, p4, e⟩ := five_of h5
    refine .inr ⟨p0, p1, p2, p3, p4, e, evF_eq ?_⟩
    rw [e] at hz
    unfold impl_ReadSoil_F
    simp only [hd, Option.bind_some, e, show ((([p0, p1, p2, p3, p4] : List ByteArray).length : Nat) : Int) = 5 from rfl, bneI, decide_true, Bool.not_true, cond_false]
    exact impl_five (hz _ (by simp)) (hz _ (by simp)) (hz _ (by simp)) (hz _ (by simp)) (hz _ (by simp))
  · refine .inl ⟨h5, evF_eq ?_⟩
    unfold impl_ReadSoil_F
    simp only [hd, Option.bind_some, bneI, show ¬ (((pieces s (bs [32])).length : Nat) : Int) = 5 by omega, decide_false, Bool.not_false, cond_true]
    exact ev_now _
/-- What the reference reads of five pieces. -/
noncomputable def specV (s p0 p1 p2 p3 p4 : ByteArray) : SV :=
  if soilV (numV p0) (numV p1) (numV p2) (numV p3) (numV p4) = true ∧ L s = stxt (numV p0) (numV p1) (numV p2) (numV p3) (numV p4) then (numV p0, numV p1, numV p2, numV p3, numV p4, true) else none5
theorem spec_read {s : ByteArray} (hs : s.size ≤ 1048576) : (¬ (pieces s (bs [32])).length = 5 ∧ spec_ReadSoil s = some none5) ∨ ∃ p0 p1 p2 p3 p4, pieces s (bs [32]) = [p0, p1, p2, p3, p4] ∧ spec_ReadSoil s = some (if s.size ≤ 100 then specV s p0 p1 p2 p3 p4 else none5) := by
  by_cases h5 : (pieces s (bs [32])).length = 5
  · obtain ⟨p0, p1, p2, p3, p4, e⟩ := five_of h5
    refine .inr ⟨p0, p1, p2, p3, p4, e, ?_⟩
    have r0 : rd Kind.str [p0, p1, p2, p3, p4] 0 = p0 := rfl
    have r1 : rd Kind.str [p0, p1, p2, p3, p4] 1 = p1 := rfl
    have r2 : rd Kind.str [p0, p1, p2, p3, p4] 2 = p2 := rfl
    have r3 : rd Kind.str [p0, p1, p2, p3, p4] 3 = p3 := rfl
    have r4 : rd Kind.str [p0, p1, p2, p3, p4] 4 = p4 := rfl
    unfold spec_ReadSoil
    by_cases h100 : s.size ≤ 100
    · simp only [show ¬ (s.size : Int) > 100 by omega, decide_false, cond_false, spec_pieces_eq hs, e, Option.bind_some, show ((([p0, p1, p2, p3, p4] : List ByteArray).length : Nat) : Int) = 5 from rfl, bneI, decide_true, Bool.not_true, r0, r1, r2, r3, r4, number_all, spec_soil, show decide ((0 : Int) < 5) = true from rfl, show decide ((1 : Int) < 5) = true from rfl, show decide ((2 : Int) < 5) = true from rfl, show decide ((3 : Int) < 5) = true from rfl, show decide ((4 : Int) < 5) = true from rfl, cond_true, h100, if_true]
      unfold specV
      cases hv : soilV (numV p0) (numV p1) (numV p2) (numV p3) (numV p4) with
      | false => simp [none5]
      | true =>
        simp only [Bool.not_true, cond_false, soil_text hv, Option.bind_some, beq_bytes, true_and]
        by_cases he : L s = stxt (numV p0) (numV p1) (numV p2) (numV p3) (numV p4)
        · have : bs (stxt (numV p0) (numV p1) (numV p2) (numV p3) (numV p4)) = s := by rw [← he, bs_L]
          rw [if_pos he]
          simp [this]
        · have : ¬ bs (stxt (numV p0) (numV p1) (numV p2) (numV p3) (numV p4)) = s := fun x => he (by rw [← x, L_bs])
          rw [if_neg he]
          simp [this, none5]
    · simp only [show (s.size : Int) > 100 by omega, decide_true, cond_true, h100, if_false]; rfl
  · refine .inl ⟨h5, ?_⟩
    unfold spec_ReadSoil
    by_cases h100 : (s.size : Int) > 100
    · simp only [h100, decide_true, cond_true]; rfl
    · simp only [h100, decide_false, cond_false, spec_pieces_eq hs, Option.bind_some, bneI, show ¬ (((pieces s (bs [32])).length : Nat) : Int) = 5 by omega, Bool.not_false, cond_true]; rfl
end Go.Proofs.YtgkejafaggaocaaDoor.RS

namespace Go.Proofs.YtgkejafaggaocaaDoor.RS
open Go Go.Eng Go.Proofs.YtgkejafaggaocaaDoor.DT Go.Proofs.YtgkejafaggaocaaDoor.EX
def joinL : List (List UInt8) → List UInt8
  | [] => []
  | [x] => x
  | x :: y :: r => x ++ 32 :: joinL (y :: r)
theorem pc_ne : ∀ (l cur : List UInt8), ∃ x r, pc cur l = x :: r
  | [], cur => ⟨cur, [], rfl⟩
  | c :: l, cur => by
    rw [pc]
    split
    · exact ⟨_, _, rfl⟩
    · exact pc_ne l _
theorem join_pc : ∀ (l cur : List UInt8), joinL (pc cur l) = cur ++ l
  | [], cur => by simp [pc, joinL]
  | c :: l, cur => by
    rw [pc]
    split
    · rename_i h
      obtain ⟨x, r, e⟩ := pc_ne l []
      have := join_pc l []
      rw [e] at this ⊢
      simp only [joinL] at this ⊢
      rw [this, h, List.nil_append]
    · rw [join_pc l]; simp
theorem line_of {s : ByteArray} {ps : List ByteArray} (h : pieces s (bs [32]) = ps) : L s = joinL (ps.map L) := by
  rw [← h, pieces_pc, join_pc, List.nil_append]
theorem pieces_of {s : ByteArray} {l : List (List UInt8)} (h : pc [] (L s) = l) : pieces s (bs [32]) = l.map bs := by
  rw [← h, ← pieces_pc, List.map_map]
  have : ∀ l : List ByteArray, l = l.map (bs ∘ L) := fun l => by
    induction l with
    | nil => rfl
    | cons x l ih =>
      rw [List.map_cons, ← ih]
      congr 1
      try exact (bs_L x).symm
  exact this _
theorem no_blank {n : Int} (h : 0 ≤ n) : (32 : UInt8) ∉ Lib.itoa n := by
  rw [itoa_pos h]
  intro hm
  have := dec_all n.toNat
  rw [List.all_eq_true] at this
  have := this _ hm
  simp [isDig] at this
/-- The pieces of a soil's text. -/
theorem pieces_text {a b c d e : Int} (ha : 0 ≤ a) (hb : 0 ≤ b) (hc : 0 ≤ c) (hd : 0 ≤ d) (he : 0 ≤ e) {s : ByteArray} (h : L s = stxt a b c d e) :
    pieces s (bs [32]) = [bs (Lib.itoa a), bs (Lib.itoa b), bs (Lib.itoa c), bs (Lib.itoa d), bs (Lib.itoa e)] := by
  have hp : pc [] (L s) = [Lib.itoa a, Lib.itoa b, Lib.itoa c, Lib.itoa d, Lib.itoa e] := by
    rw [h, stxt, pc_some _ _ _ (no_blank ha), pc_some _ _ _ (no_blank hb), pc_some _ _ _ (no_blank hc), pc_some _ _ _ (no_blank hd), pc_none _ _ (no_blank he)]
    rfl
  rw [pieces_of hp]; rfl
/-- A piece that is a number's text. -/
theorem dec_piece {n : Int} (h0 : 0 ≤ n) (h1 : n ≤ 1000000000000) : decOk (bs (Lib.itoa n)) = true ∧ vl (bs (Lib.itoa n)) = n ∧ numV (bs (Lib.itoa n)) = n := by
  have hi := itoa_pos h0
  have hc := dec_can n.toNat
  have hs := spl_dec n.toNat
  have h13 : (10 : Nat) ^ 13 = 10000000000000 := by decide
  have hl : (Lib.decDigits n.toNat).length ≤ 13 := can_len hc (by rw [hs, h13]; omega) (by omega)
  have hne := dec_ne n.toNat
  have hl0 : (Lib.decDigits n.toNat).length ≠ 0 := fun e => hne (List.eq_nil_of_length_eq_zero e)
  have ha := dec_all n.toNat
  rw [hi]
  unfold decOk vl numV
  rw [L_bs, size_bs, hc, hs, ha]
  refine ⟨by simp; omega, by omega, ?_⟩
  rw [if_pos ⟨⟨hl0, by omega⟩, rfl⟩]; omega
/-- A piece that the program takes is its number's text. -/
theorem piece_dec {p : ByteArray} (h : decOk p = true) (hv : vl p ≤ 1000000000000) : L p = Lib.itoa (vl p) ∧ numV p = vl p ∧ p.size ≤ 13 := by
  unfold decOk at h
  rw [Bool.and_eq_true, decide_eq_true_eq] at h
  have hc := can_spl _ (L p) rfl h.1
  have hl : (L p).length ≤ 13 := can_len h.1 (by
    have : (10 : Nat) ^ 13 = 10000000000000 := by decide
    unfold vl at hv
    omega) (by omega)
  rw [L_length] at hl
  have hd : (L p).all isDig = true ∧ L p ≠ [] := by
    have := h.1
    unfold canD at this
    rw [Bool.and_eq_true, Bool.and_eq_true, decide_eq_true_eq] at this
    exact ⟨this.1, this.2.1⟩
  have h0 : p.size ≠ 0 := by
    intro e
    apply hd.2
    apply List.eq_nil_of_length_eq_zero
    rw [L_length, e]
  refine ⟨?_, ?_, hl⟩
  · unfold vl
    rw [itoa_pos (by omega), Int.toNat_natCast, hc]
  · unfold numV vl
    rw [if_pos ⟨⟨h0, by omega⟩, hd.1⟩]
theorem soil_parts {a b c d e : Int} (h : soilV a b c d e = true) : (0 ≤ a ∧ a ≤ 1000000000000) ∧ (0 ≤ b ∧ b ≤ 1000000000000) ∧ (0 ≤ c ∧ c ≤ 1000000000000) ∧ (0 ≤ d ∧ d ≤ 1000000000000) ∧ (0 ≤ e ∧ e ≤ 1000000000000) := by
  simp only [soilV, Bool.and_eq_true, decide_eq_true_eq] at h
  omega
theorem both {s p0 p1 p2 p3 p4 : ByteArray} (h : pieces s (bs [32]) = [p0, p1, p2, p3, p4]) : (if s.size ≤ 100 then specV s p0 p1 p2 p3 p4 else none5) = implV p0 p1 p2 p3 p4 := by
  have hline := line_of h
  simp only [List.map_cons, List.map_nil, joinL] at hline
  have hsz : s.size = p0.size + (1 + (p1.size + (1 + (p2.size + (1 + (p3.size + (1 + p4.size))))))) := by
    have := congrArg List.length hline
    simp only [List.length_append, List.length_cons, L_length] at this
    omega
  by_cases hA : (decOk p0 = true ∧ decOk p1 = true ∧ decOk p2 = true ∧ decOk p3 = true ∧ decOk p4 = true) ∧ soilV (vl p0) (vl p1) (vl p2) (vl p3) (vl p4) = true
  · obtain ⟨⟨d0, d1, d2, d3, d4⟩, hs⟩ := hA
    obtain ⟨b0, b1, b2, b3, b4⟩ := soil_parts hs
    obtain ⟨t0, n0, z0⟩ := piece_dec d0 b0.2
    obtain ⟨t1, n1, z1⟩ := piece_dec d1 b1.2
    obtain ⟨t2, n2, z2⟩ := piece_dec d2 b2.2
    obtain ⟨t3, n3, z3⟩ := piece_dec d3 b3.2
    obtain ⟨t4, n4, z4⟩ := piece_dec d4 b4.2
    rw [if_pos (by omega)]
    unfold specV implV
    rw [n0, n1, n2, n3, n4]
    rw [if_pos ⟨hs, by unfold stxt; rw [← t0, ← t1, ← t2, ← t3, ← t4]; exact hline⟩]
    simp only [d0, d1, d2, d3, d4, hs, if_true]
  · have hi : implV p0 p1 p2 p3 p4 = none5 := by
      unfold implV
      by_cases d0 : decOk p0 = true
      · by_cases d1 : decOk p1 = true
        · by_cases d2 : decOk p2 = true
          · by_cases d3 : decOk p3 = true
            · by_cases d4 : decOk p4 = true
              · have hs : ¬ soilV (vl p0) (vl p1) (vl p2) (vl p3) (vl p4) = true := fun x => hA ⟨⟨d0, d1, d2, d3, d4⟩, x⟩
                simp only [d0, d1, d2, d3, d4, if_true]
                rw [if_neg hs]
              · simp only [d0, d1, d2, d3, if_true]; rw [if_neg d4]
            · simp only [d0, d1, d2, if_true]; rw [if_neg d3]
          · simp only [d0, d1, if_true]; rw [if_neg d2]
        · simp only [d0, if_true]; rw [if_neg d1]
      · rw [if_neg d0]
    rw [hi]
    by_cases h100 : s.size ≤ 100
    · rw [if_pos h100]
      unfold specV
      rw [if_neg]
      rintro ⟨hs, ht⟩
      obtain ⟨b0, b1, b2, b3, b4⟩ := soil_parts hs
      have hp := pieces_text b0.1 b1.1 b2.1 b3.1 b4.1 ht
      rw [h] at hp
      simp only [List.cons.injEq, and_true] at hp
      obtain ⟨e0, e1, e2, e3, e4⟩ := hp
      generalize numV p0 = a at *
      generalize numV p1 = b at *
      generalize numV p2 = c at *
      generalize numV p3 = d at *
      generalize numV p4 = e at *
      obtain ⟨x0, y0, _⟩ := dec_piece b0.1 b0.2
      obtain ⟨x1, y1, _⟩ := dec_piece b1.1 b1.2
      obtain ⟨x2, y2, _⟩ := dec_piece b2.1 b2.2
      obtain ⟨x3, y3, _⟩ := dec_piece b3.1 b3.2
      obtain ⟨x4, y4, _⟩ := dec_piece b4.1 b4.2
      rw [← e0] at x0 y0
      rw [← e1] at x1 y1
      rw [← e2] at x2 y2
      rw [← e3] at x3 y3
      rw [← e4] at x4 y4
      exact hA ⟨⟨x0, x1, x2, x3, x4⟩, by rw [y0, y1, y2, y3, y4]; exact hs⟩
    · rw [if_neg h100]
theorem read_both {s : ByteArray} (hs : s.size ≤ 1048576) : ∃ r, spec_ReadSoil s = some r ∧ impl_ReadSoil s = some r := by
  rcases spec_read hs with ⟨h5, e⟩ | ⟨p0, p1, p2, p3, p4, hp, e⟩
  · rcases impl_read hs with ⟨_, e'⟩ | ⟨q0, q1, q2, q3, q4, hq, _⟩
    · exact ⟨_, e, e'⟩
    · rw [hq] at h5; exact absurd rfl h5
  · rcases impl_read hs with ⟨h5, _⟩ | ⟨q0, q1, q2, q3, q4, hq, e'⟩
    · rw [hp] at h5; exact absurd rfl h5
    · have hpq := hp.symm.trans hq
      simp only [List.cons.injEq, and_true] at hpq
      obtain ⟨rfl, rfl, rfl, rfl, rfl⟩ := hpq
      refine ⟨_, e, ?_⟩
      rw [both hp]; exact e'
end Go.Proofs.YtgkejafaggaocaaDoor.RS
