/-
  Part of a proof by the engine: texts that a program of ours printed, or plain lemmas on them. No condition but what each theorem says.
-/
import Derived.Test.YtmcmkdiefpepnaaDoorPA
import Derived.Test.YtmcmkdiefpepnaaDoorSAPure
set_option linter.unusedVariables false
set_option linter.unusedSimpArgs false
namespace Go.Proofs.YtmcmkdiefpepnaaDoor.PA
open Go Go.Eng Go.Proofs.YtmcmkdiefpepnaaDoor.SA Go.Proofs.YtmcmkdiefpepnaaDoor.EX
/-! ### sorted lists -/
theorem compact_upto (xs : List Int) (hs : ∀ i j (hi : i < xs.length) (hj : j < xs.length), i ≤ j → xs[i] ≤ xs[j]) : ∀ m, m ≤ xs.length →
    (Lib.compactUpTo xs.toArray m).Pairwise (· < ·) ∧ ∀ a, a ∈ Lib.compactUpTo xs.toArray m ↔ ∃ j, j < m ∧ ∃ h : j < xs.length, xs[j] = a := by
  intro m
  induction m with
  | zero => intro _; exact ⟨by simp [Lib.compactUpTo], fun a => by simp [Lib.compactUpTo]⟩
  | succ m ih =>
    intro hm
    obtain ⟨h1, h2⟩ := ih (by omega)
    have hlt : m < xs.length := by omega
    have hget : ∀ i, i < xs.length → xs.toArray[i]! = xs.getD i 0 := fun i hi => by simp [List.getD, hi]
    have hm' : xs.toArray[m]! = xs[m] := by simp [hlt]
    rw [Lib.compactUpTo_succ, hm']
    by_cases hk : Lib.keeps xs.toArray m = true
    · rw [if_pos hk]
      have hlast : ∀ a, a ∈ Lib.compactUpTo xs.toArray m → a < xs[m] := fun a ha => by
        obtain ⟨j, hj, hjl, rfl⟩ := (h2 a).1 ha
        simp only [Lib.keeps, decide_eq_true_eq] at hk
        have hmp : xs.toArray[m - 1]! = xs[m - 1]'(by omega) := by simp [show m - 1 < xs.length by omega]
        rw [hm', hmp] at hk
        have e1 := hs j (m - 1) hjl (by omega) (by omega)
        have e2 := hs (m - 1) m (by omega) hlt (by omega)
        rcases hk with hk | hk
        · omega
        · omega
      refine ⟨List.pairwise_append.2 ⟨h1, List.pairwise_singleton _ _, fun a ha b hb => ?_⟩, fun a => ?_⟩
      · obtain rfl := List.mem_singleton.1 hb
        exact hlast a ha
      · rw [List.mem_append, List.mem_singleton, h2]
        constructor
        · rintro (⟨j, hj, hjl, rfl⟩ | rfl)
          · exact ⟨j, by omega, hjl, rfl⟩
          · exact ⟨m, by omega, hlt, rfl⟩
        · rintro ⟨j, hj, hjl, rfl⟩
          by_cases hjm : j = m
          · subst hjm; exact .inr rfl
          · exact .inl ⟨j, by omega, hjl, rfl⟩
    · rw [if_neg hk, List.append_nil]
      have hk' : m ≠ 0 ∧ xs.toArray[m]! = xs.toArray[m - 1]! := by
        simp only [Lib.keeps, decide_eq_true_eq] at hk
        exact ⟨fun h => hk (.inl h), Classical.byContradiction fun h => hk (.inr h)⟩
      have hmp : xs.toArray[m - 1]! = xs[m - 1]'(by omega) := by simp [show m - 1 < xs.length by omega]
      rw [hm', hmp] at hk'
      refine ⟨h1, fun a => ?_⟩
      rw [h2]
      constructor
      · rintro ⟨j, hj, hjl, rfl⟩
        exact ⟨j, by omega, hjl, rfl⟩
      · rintro ⟨j, hj, hjl, rfl⟩
        by_cases hjm : j = m
        · subst hjm; exact ⟨j - 1, by omega, by omega, hk'.2.symm⟩
        · exact ⟨j, by omega, hjl, rfl⟩
theorem compact_sorted {xs : List Int} (hs : xs.Pairwise (· ≤ ·)) : (Lib.compact xs).Pairwise (· < ·) ∧ ∀ a, a ∈ Lib.compact xs ↔ a ∈ xs := by
  have := compact_upto xs (fun i j hi hj hij => by
    by_cases h : i = j
    · subst h; exact Int.le_refl _
    · exact List.pairwise_iff_getElem.1 hs i j hi hj (by omega)) xs.length (Nat.le_refl _)
  refine ⟨this.1, fun a => (this.2 a).trans ?_⟩
  constructor
  · rintro ⟨j, _, h, rfl⟩; exact List.getElem_mem h
  · intro h
    obtain ⟨j, hj, rfl⟩ := List.getElem_of_mem h
    exact ⟨j, hj, hj, rfl⟩
theorem sorted_ext : ∀ (l m : List Int), l.Pairwise (· < ·) → m.Pairwise (· < ·) → (∀ a, a ∈ l ↔ a ∈ m) → l = m
  | [], [], _, _, _ => rfl
  | [], b :: t, _, _, h => absurd ((h b).2 List.mem_cons_self) (by simp)
  | a :: r, [], _, _, h => absurd ((h a).1 List.mem_cons_self) (by simp)
  | a :: r, b :: t, h1, h2, h => by
    rw [List.pairwise_cons] at h1 h2
    have hab : a = b := by
      rcases List.mem_cons.1 ((h a).1 List.mem_cons_self) with e | e
      · exact e
      · rcases List.mem_cons.1 ((h b).2 List.mem_cons_self) with e' | e'
        · exact e'.symm
        · have := h1.1 b e'; have := h2.1 a e; omega
    subst hab
    congr 1
    refine sorted_ext r t h1.2 h2.2 fun c => ⟨fun hc => ?_, fun hc => ?_⟩
    · rcases List.mem_cons.1 ((h c).1 (List.mem_cons_of_mem _ hc)) with e | e
      · have := h1.1 c hc; omega
      · exact e
    · rcases List.mem_cons.1 ((h c).2 (List.mem_cons_of_mem _ hc)) with e | e
      · have := h2.1 c hc; omega
      · exact e
def el (P : Int → Bool) : Nat → Int → List Int
  | 0, _ => []
  | n + 1, t => if P t = true then t :: el P n (t + 1) else el P n (t + 1)
theorem mem_el (P : Int → Bool) : ∀ (n : Nat) (t a : Int), a ∈ el P n t ↔ t ≤ a ∧ a < t + n ∧ P a = true := by
  intro n
  induction n with
  | zero => intro t a; simp [el]; omega
  | succ n ih =>
    intro t a
    unfold el
    split
    · rename_i h
      rw [List.mem_cons, ih]
      constructor
      · rintro (rfl | ⟨h1, h2, h3⟩)
        · exact ⟨Int.le_refl _, by omega, h⟩
        · exact ⟨by omega, by omega, h3⟩
      · rintro ⟨h1, h2, h3⟩
        by_cases e : a = t
        · exact .inl e
        · exact .inr ⟨by omega, by omega, h3⟩
    · rename_i h
      rw [ih]
      constructor
      · rintro ⟨h1, h2, h3⟩; exact ⟨by omega, by omega, h3⟩
      · rintro ⟨h1, h2, h3⟩
        refine ⟨?_, by omega, h3⟩
        by_cases e : a = t
        · subst e; exact absurd h3 h
        · omega
theorem el_sorted (P : Int → Bool) : ∀ (n : Nat) (t : Int), (el P n t).Pairwise (· < ·) := by
  intro n
  induction n with
  | zero => intro t; simp [el]
  | succ n ih =>
    intro t
    unfold el
    split
    · exact List.pairwise_cons.2 ⟨fun a ha => by have := ((mem_el P n (t + 1) a).1 ha).1; omega, ih _⟩
    · exact ih _
theorem el_len (P : Int → Bool) : ∀ (n : Nat) (t : Int), (el P n t).length ≤ n := by
  intro n
  induction n with
  | zero => intro t; simp [el]
  | succ n ih => intro t; unfold el; have := ih (t + 1); split <;> simp <;> omega
def spans : Int → List Int → List (Int × Int)
  | _, [] => []
  | f, t :: r => (f, t) :: spans t r
theorem spans_len (f : Int) (l : List Int) : (spans f l).length = l.length := by
  induction l generalizing f with
  | nil => rfl
  | cons t r ih => simp [spans, ih]
theorem mb16 : maxBytes / 16 = 8796093022208 := by decide
theorem mb8 : maxBytes / 8 = 17592186044416 := by decide
/-! ### the program -/
theorem impl_tail (xs : List Int) (hx : xs.length ≤ 10000) : ∀ (m n : Nat) (out : List (Int × Int)), xs.length - n = m → (h : n < xs.length) → out.length ≤ n →
    Ev (fun k => impl_Parts_L15 k (n : Int) xs out) (out ++ spans xs[n] (xs.drop (n + 1))) := by
  intro m
  induction m with
  | zero => intro n out hm h; omega
  | succ m ih =>
    intro n out hm h ho
    apply ev_succ
    simp only [impl_Parts_L15, wsucc (show n < 9223372036854775807 by omega)]
    by_cases hn : n + 1 < xs.length
    · have r1 : rd (Kind.int IntKind.i64) xs (n : Int) = xs[n] := rd_nat (k := .int .i64) h
      have r2 : rd (Kind.int IntKind.i64) xs ((n + 1 : Nat) : Int) = xs[n + 1] := rd_nat (k := .int .i64) hn
      simp only [show ((n + 1 : Nat) : Int) < (xs.length : Int) by omega, show (n : Int) < (xs.length : Int) by omega, show (0 : Int) ≤ (n : Int) by omega, show (0 : Int) ≤ ((n + 1 : Nat) : Int) by omega, decide_true, cond_true, r1, r2, mb16, List.length_singleton, show out.length + 1 ≤ 8796093022208 by omega]
      refine ev_eq (ih (n + 1) _ (by omega) hn (by rw [List.length_append]; simp; omega)) ?_
      rw [drop_cons hn]
      simp [spans]
    · simp only [show ¬ ((n + 1 : Nat) : Int) < (xs.length : Int) by omega, decide_false, cond_false]
      refine ev_eq (ev_now _) ?_
      rw [List.drop_eq_nil_of_le (by omega)]
      simp [spans]
def tms : List Ch → List Int
  | [] => []
  | c :: cs => c.2.1 :: ((if c.1 = 1 then [] else [c.2.2.1]) ++ tms cs)
theorem impl_loop (xs : List Ch) (hx : xs.length ≤ 10) (r : List (Int × Int)) : ∀ (m n : Nat) (ts : List Int), xs.length - n = m → n ≤ xs.length → ts.length ≤ 2 + 2 * n →
    Ev (fun k => (impl_sorted (ts ++ tms (xs.drop n))).bind fun val => (dCompact val).bind fun val => impl_Parts_L15 k 0 val []) r →
    Ev (fun k => impl_Parts_L5 k xs (xs.length : Int) (n : Int) ts) r := by
  intro m
  induction m with
  | zero =>
    intro n ts hm hn ht h
    obtain rfl : n = xs.length := by omega
    apply ev_succ
    simp only [impl_Parts_L5, Int.lt_irrefl, decide_false, cond_false]
    rw [List.drop_length, show tms [] = [] from rfl, List.append_nil] at h
    exact h
  | succ m ih =>
    intro n ts hm hn ht h
    have hlt : n < xs.length := by omega
    rw [drop_cons hlt] at h
    apply ev_succ
    simp only [impl_Parts_L5, show (n : Int) < (xs.length : Int) by omega, show (0 : Int) ≤ (n : Int) by omega, decide_true, cond_true, rd_nat (k := K9_0) hlt, wsucc (show n < 9223372036854775807 by omega), mb8, List.length_append, List.length_singleton,
      show ts.length + 1 ≤ 17592186044416 by omega, show ts.length + 1 + 1 ≤ 17592186044416 by omega, bneI]
    by_cases h1 : xs[n].1 = 1
    · simp only [h1, decide_true, Bool.not_true, cond_false]
      refine ih (n + 1) _ (by omega) (by omega) (by rw [List.length_append]; simp; omega) ?_
      simpa [tms, h1] using h
    · simp only [h1, decide_false, Bool.not_false, cond_true]
      refine ih (n + 1) _ (by omega) (by omega) (by rw [List.length_append, List.length_append]; simp; omega) ?_
      simpa [tms, h1] using h
end Go.Proofs.YtmcmkdiefpepnaaDoor.PA
