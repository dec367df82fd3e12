/-
  Part of a proof by the engine: texts that a program of ours printed, or plain lemmas on them. No condition but what each theorem says.
-/
import Derived.Test.YtmcmkdiefpepnaaDoorRHP2
import Derived.Test.YtmcmkdiefpepnaaDoorDoors6
set_option linter.unusedVariables false
set_option linter.unusedSimpArgs false
namespace Go.Proofs.YtmcmkdiefpepnaaDoor.RH
open Go Go.Eng Go.Proofs.YtmcmkdiefpepnaaDoor.DT Go.Proofs.YtmcmkdiefpepnaaDoor.EX
/-- The pieces between blanks. -/
def pc : List UInt8 → List UInt8 → List (List UInt8)
  | cur, [] => [cur]
  | cur, c :: l => if c = 32 then cur :: pc [] l else pc (cur ++ [c]) l
theorem pc_none : ∀ (l cur : List UInt8), (32 : UInt8) ∉ l → pc cur l = [cur ++ l]
  | [], cur, _ => by simp [pc]
  | c :: l, cur, h => by
    have hc : ¬ c = 32 := fun e => h (by rw [e]; exact List.mem_cons_self)
    rw [pc, if_neg hc, pc_none l _ fun hm => h (List.mem_cons_of_mem _ hm)]
    simp
theorem pc_some : ∀ (a r cur : List UInt8), (32 : UInt8) ∉ a → pc cur (a ++ 32 :: r) = (cur ++ a) :: pc [] r
  | [], r, cur, _ => by simp [pc]
  | c :: a, r, cur, h => by
    have hc : ¬ c = 32 := fun e => h (by rw [e]; exact List.mem_cons_self)
    rw [List.cons_append, pc, if_neg hc, pc_some a r _ fun hm => h (List.mem_cons_of_mem _ hm)]
    simp
theorem index_cases : ∀ (l : List UInt8), (Lib.indexByte l 32 = -1 ∧ (32 : UInt8) ∉ l) ∨ ∃ a r, l = a ++ 32 :: r ∧ (32 : UInt8) ∉ a ∧ Lib.indexByte l 32 = (a.length : Int)
  | [] => .inl ⟨rfl, by simp⟩
  | c :: l => by
    by_cases hc : c = 32
    · subst hc
      exact .inr ⟨[], l, rfl, by simp, by simp [Lib.indexByte]⟩
    · have hc' : (c == 32) = false := by simpa using hc
      rcases index_cases l with ⟨h1, h2⟩ | ⟨a, r, h1, h2, h3⟩
      · exact .inl ⟨by simp [Lib.indexByte, hc', h1], fun hm => by
          rcases List.mem_cons.1 hm with e | e
          · exact hc e.symm
          · exact h2 e⟩
      · refine .inr ⟨c :: a, r, by rw [h1]; rfl, fun hm => ?_, ?_⟩
        · rcases List.mem_cons.1 hm with e | e
          · exact hc e.symm
          · exact h2 e
        · have hne : ¬ Lib.indexByte l 32 = -1 := by omega
          simp [Lib.indexByte, hc', hne, h3]
theorem split_pc : ∀ (k : Nat) (s : ByteArray), (L s).count 32 ≤ k → (Lib.splitB (bs [32]) 0 k s).map L = pc [] (L s) := by
  have hi : ∀ s : ByteArray, Lib.indexB s (bs [32]) = Lib.indexByte (L s) 32 := fun s => index_byte 32 (L s)
  intro k
  induction k with
  | zero =>
    intro s h
    have : (32 : UInt8) ∉ L s := fun hm => by have := List.count_pos_iff.2 hm; omega
    rw [pc_none _ _ this]; rfl
  | succ k ih =>
    intro s h
    rcases index_cases (L s) with ⟨h1, h2⟩ | ⟨a, r, h1, h2, h3⟩
    · rw [Lib.splitB_miss _ _ _ _ (by rw [hi]; exact h1), pc_none _ _ h2]; rfl
    · rw [Lib.splitB_hit _ _ _ _ a.length (by rw [hi]; exact h3), h1, pc_some _ _ _ h2, List.map_cons]
      have e1 : L (s.extract 0 (a.length + 0)) = a := by rw [L_extract, h1]; simp
      have e2 : L (s.extract (a.length + (bs [32]).size) s.size) = r := by
        have hz : s.size = a.length + (r.length + 1) := by rw [← L_length, h1]; simp
        rw [L_extract, h1, show (bs [32]).size = 1 from rfl, hz]
        simp
        rw [show a.length + (r.length + 1) - (a.length + 1) = r.length by omega, List.take_length]
      rw [e1, ih _ (by rw [e2]; rw [h1, List.count_append, List.count_cons] at h; simp at h; omega), e2]
      rfl
theorem pieces_pc (s : ByteArray) : (pieces s (bs [32])).map L = pc [] (L s) := by
  unfold pieces
  refine split_pc _ s ?_
  have : Lib.countB s (bs [32]) = Lib.countByte (L s) 32 := Lib.count_one _ _
  rw [this]
  exact Nat.le_refl _
theorem mbs : maxBytes / 16 = 8796093022208 := by decide
theorem spec_pieces_loop (s : ByteArray) (hs : s.size ≤ 1048576) : ∀ (m n a : Nat) (out : List ByteArray), s.size - n = m → a ≤ n → n ≤ s.size → out.length ≤ n →
    Ev (fun k => spec_l4Pieces_L4 k s (a : Int) (n : Int) out) (out ++ (pc (((L s).drop a).take (n - a)) ((L s).drop n)).map bs) := by
  have hext : ∀ a n : Nat, s.extract a n = bs (((L s).drop a).take (n - a)) := fun a n => L_inj (by rw [L_extract, L_bs])
  intro m
  induction m with
  | zero =>
    intro n a out hm ha hn ho
    obtain rfl : n = s.size := by omega
    apply ev_succ
    simp only [spec_l4Pieces_L4, beqI, Int.le_refl, show (0 : Int) ≤ (s.size : Int) by omega, show (0 : Int) ≤ (a : Int) by omega, show (a : Int) ≤ (s.size : Int) by omega, decide_true, Bool.and_self, cond_true, mbs, List.length_singleton, show out.length + 1 ≤ 8796093022208 by omega, wsucc (show s.size < 9223372036854775807 by omega), Int.toNat_natCast, hext]
    apply ev_succ
    simp only [spec_l4Pieces_L4, show ¬ ((s.size + 1 : Nat) : Int) ≤ (s.size : Int) by omega, decide_false, cond_false]
    refine ev_eq (ev_now _) ?_
    have hd : (L s).drop s.size = [] := List.drop_eq_nil_of_le (by rw [L_length]; omega)
    rw [hd]
    simp [pc]
  | succ m ih =>
    intro n a out hm ha hn ho
    have hl : n < (L s).length := by rw [L_length]; omega
    apply ev_succ
    simp only [spec_l4Pieces_L4, beqI, show (n : Int) ≤ (s.size : Int) by omega, show ¬ ((n : Int) = (s.size : Int)) by omega, show (n : Int) < (s.size : Int) by omega, show (0 : Int) ≤ (n : Int) by omega, decide_true, decide_false, cond_true, cond_false, bt_nat, List.getD, List.getElem?_eq_getElem hl, Option.getD_some, wsucc (show n < 9223372036854775807 by omega)]
    rw [drop_cons hl]
    by_cases h32 : (L s)[n] = 32
    · have h32' : ((L s)[n].toNat : Int) = 32 := by rw [h32]; rfl
      simp only [h32', decide_true, Bool.and_self, cond_true, show (0 : Int) ≤ (a : Int) by omega, show (a : Int) ≤ (n : Int) by omega, mbs, List.length_singleton, show out.length + 1 ≤ 8796093022208 by omega, Int.toNat_natCast, hext]
      refine ev_eq (ih (n + 1) (n + 1) _ (by omega) (by omega) (by omega) (by rw [List.length_append]; simp; omega)) ?_
      rw [pc, if_pos h32]
      simp
    · have h32' : ¬ ((L s)[n].toNat : Int) = 32 := fun e => h32 (UInt8.toNat_inj.1 (by have : (32 : UInt8).toNat = 32 := rfl; omega))
      simp only [h32', decide_false, cond_false]
      refine ev_eq (ih (n + 1) a out (by omega) (by omega) (by omega) (by omega)) ?_
      rw [pc, if_neg h32]
      congr 3
      rw [show n + 1 - a = (n - a) + 1 by omega, List.take_add_one, List.getElem?_drop, show a + (n - a) = n by omega, List.getElem?_eq_getElem hl]
      rfl
theorem spec_pieces_eq {s : ByteArray} (hs : s.size ≤ 1048576) : spec_l4Pieces s = some (pieces s (bs [32])) := by
  refine evF_eq ?_
  have h := spec_pieces_loop s hs s.size 0 0 [] (by omega) (by omega) (by omega) (by simp)
  refine ev_eq h ?_
  rw [List.drop_zero, Nat.sub_self, List.take_zero, List.nil_append, ← pieces_pc, List.map_map]
  have : ∀ l : List ByteArray, l.map (bs ∘ L) = l := fun l => by
    induction l with
    | nil => rfl
    | cons x l ih => rw [List.map_cons, ih]; congr 1; try exact bs_L x
  exact this _
end Go.Proofs.YtmcmkdiefpepnaaDoor.RH
