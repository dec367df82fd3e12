/-
  Part of a proof by the engine: texts that a program of ours printed, or plain lemmas on them. No condition but what each theorem says.
-/
import Derived.Test.YtondfjckadlabaaGreatDoorON
import Derived.Test.YtondfjckadlabaaGreatDoorSAPlain
set_option linter.unusedVariables false
set_option linter.unusedSimpArgs false
namespace Go.Proofs.YtondfjckadlabaaGreatDoor.ON
open Go Go.Eng Go.Proofs.YtondfjckadlabaaGreatDoor.DT Go.Proofs.YtondfjckadlabaaGreatDoor.SA Go.Proofs.YtondfjckadlabaaGreatDoor.EX
/-! ### sorted lists -/
theorem compact_upto (xs : List Int) (hs : ∀ i j (hi : i < xs.length) (hj : j < xs.length), i ≤ j → xs[i] ≤ xs[j]) : ∀ m, m ≤ xs.length →
    (Lib.compactUpTo xs.toArray m).Pairwise (· < ·) ∧ ∀ a, a ∈ Lib.compactUpTo xs.toArray m ↔ ∃ j, j < m ∧ ∃ h : j < xs.length, xs[j] = a := by
  intro m
  induction m with
  | zero => intro _; exact ⟨by simp [Lib.compactUpTo], fun a => by simp [Lib.compactUpTo]⟩
  | succ m ih =>
    intro hm
    obtain ⟨h1, h2⟩ := ih (by omega)
    have hlt : m < xs.length := by omega
    have hget : ∀ i, i < xs.length → xs.toArray[i]! = xs.getD i 0 := fun i hi => by simp [List.getD, hi]
    have hm' : xs.toArray[m]! = xs[m] := by simp [hlt]
    rw [Lib.compactUpTo_succ, hm']
    by_cases hk : Lib.keeps xs.toArray m = true
    · rw [if_pos hk]
      have hlast : ∀ a, a ∈ Lib.compactUpTo xs.toArray m → a < xs[m] := fun a ha => by
        obtain ⟨j, hj, hjl, rfl⟩ := (h2 a).1 ha
        simp only [Lib.keeps, decide_eq_true_eq] at hk
        have hmp : xs.toArray[m - 1]! = xs[m - 1]'(by omega) := by simp [show m - 1 < xs.length by omega]
        rw [hm', hmp] at hk
        have e1 := hs j (m - 1) hjl (by omega) (by omega)
        have e2 := hs (m - 1) m (by omega) hlt (by omega)
        rcases hk with hk | hk
        · omega
        · omega
      refine ⟨List.pairwise_append.2 ⟨h1, List.pairwise_singleton _ _, fun a ha b hb => ?_⟩, fun a => ?_⟩
      · obtain rfl := List.mem_singleton.1 hb
        exact hlast a ha
      · rw [List.mem_append, List.mem_singleton, h2]
        constructor
        · rintro (⟨j, hj, hjl, rfl⟩ | rfl)
          · exact ⟨j, by omega, hjl, rfl⟩
          · exact ⟨m, by omega, hlt, rfl⟩
        · rintro ⟨j, hj, hjl, rfl⟩
          by_cases hjm : j = m
          · subst hjm; exact .inr rfl
          · exact .inl ⟨j, by omega, hjl, rfl⟩
    · rw [if_neg hk, List.append_nil]
      have hk' : m ≠ 0 ∧ xs.toArray[m]! = xs.toArray[m - 1]! := by
        simp only [Lib.keeps, decide_eq_true_eq] at hk
        exact ⟨fun h => hk (.inl h), Classical.byContradiction fun h => hk (.inr h)⟩
      have hmp : xs.toArray[m - 1]! = xs[m - 1]'(by omega) := by simp [show m - 1 < xs.length by omega]
      rw [hm', hmp] at hk'
      refine ⟨h1, fun a => ?_⟩
      rw [h2]
      constructor
      · rintro ⟨j, hj, hjl, rfl⟩
        exact ⟨j, by omega, hjl, rfl⟩
      · rintro ⟨j, hj, hjl, rfl⟩
        by_cases hjm : j = m
        · subst hjm; exact ⟨j - 1, by omega, by omega, hk'.2.symm⟩
        · exact ⟨j, by omega, hjl, rfl⟩
theorem compact_sorted {xs : List Int} (hs : xs.Pairwise (· ≤ ·)) : (Lib.compact xs).Pairwise (· < ·) ∧ ∀ a, a ∈ Lib.compact xs ↔ a ∈ xs := by
  have := compact_upto xs (fun i j hi hj hij => by
    by_cases h : i = j
    · subst h; exact Int.le_refl _
    · exact List.pairwise_iff_getElem.1 hs i j hi hj (by omega)) xs.length (Nat.le_refl _)
  refine ⟨this.1, fun a => (this.2 a).trans ?_⟩
  constructor
  · rintro ⟨j, _, h, rfl⟩; exact List.getElem_mem h
  · intro h
    obtain ⟨j, hj, rfl⟩ := List.getElem_of_mem h
    exact ⟨j, hj, hj, rfl⟩
theorem sorted_ext : ∀ (l m : List Int), l.Pairwise (· < ·) → m.Pairwise (· < ·) → (∀ a, a ∈ l ↔ a ∈ m) → l = m
  | [], [], _, _, _ => rfl
  | [], b :: t, _, _, h => absurd ((h b).2 List.mem_cons_self) (by simp)
  | a :: r, [], _, _, h => absurd ((h a).1 List.mem_cons_self) (by simp)
  | a :: r, b :: t, h1, h2, h => by
    rw [List.pairwise_cons] at h1 h2
    have hab : a = b := by
      rcases List.mem_cons.1 ((h a).1 List.mem_cons_self) with e | e
      · exact e
      · rcases List.mem_cons.1 ((h b).2 List.mem_cons_self) with e' | e'
        · exact e'.symm
        · have := h1.1 b e'; have := h2.1 a e; omega
    subst hab
    congr 1
    refine sorted_ext r t h1.2 h2.2 fun c => ⟨fun hc => ?_, fun hc => ?_⟩
    · rcases List.mem_cons.1 ((h c).1 (List.mem_cons_of_mem _ hc)) with e | e
      · have := h1.1 c hc; omega
      · exact e
    · rcases List.mem_cons.1 ((h c).2 (List.mem_cons_of_mem _ hc)) with e | e
      · have := h2.1 c hc; omega
      · exact e
def el (P : Int → Bool) : Nat → Int → List Int
  | 0, _ => []
  | n + 1, t => if P t = true then t :: el P n (t + 1) else el P n (t + 1)
theorem mem_el (P : Int → Bool) : ∀ (n : Nat) (t a : Int), a ∈ el P n t ↔ t ≤ a ∧ a < t + n ∧ P a = true := by
  intro n
  induction n with
  | zero => intro t a; simp [el]; omega
  | succ n ih =>
    intro t a
    unfold el
    split
    · rename_i h
      rw [List.mem_cons, ih]
      constructor
      · rintro (rfl | ⟨h1, h2, h3⟩)
        · exact ⟨Int.le_refl _, by omega, h⟩
        · exact ⟨by omega, by omega, h3⟩
      · rintro ⟨h1, h2, h3⟩
        by_cases e : a = t
        · exact .inl e
        · exact .inr ⟨by omega, by omega, h3⟩
    · rename_i h
      rw [ih]
      constructor
      · rintro ⟨h1, h2, h3⟩; exact ⟨by omega, by omega, h3⟩
      · rintro ⟨h1, h2, h3⟩
        refine ⟨?_, by omega, h3⟩
        by_cases e : a = t
        · subst e; exact absurd h3 h
        · omega
theorem el_sorted (P : Int → Bool) : ∀ (n : Nat) (t : Int), (el P n t).Pairwise (· < ·) := by
  intro n
  induction n with
  | zero => intro t; simp [el]
  | succ n ih =>
    intro t
    unfold el
    split
    · exact List.pairwise_cons.2 ⟨fun a ha => by have := ((mem_el P n (t + 1) a).1 ha).1; omega, ih _⟩
    · exact ih _
theorem el_len (P : Int → Bool) : ∀ (n : Nat) (t : Int), (el P n t).length ≤ n := by
  intro n
  induction n with
  | zero => intro t; simp [el]
  | succ n ih => intro t; unfold el; have := ih (t + 1); split <;> simp <;> omega
def spans : Int → List Int → List (Int × Int)
  | _, [] => []
  | f, t :: r => (f, t) :: spans t r
theorem spans_len (f : Int) (l : List Int) : (spans f l).length = l.length := by
  induction l generalizing f with
  | nil => rfl
  | cons t r ih => simp [spans, ih]
theorem mb16 : maxBytes / 16 = 8796093022208 := by decide
theorem mb8 : maxBytes / 8 = 17592186044416 := by decide
/-! ### the program -/
theorem impl_tail (xs : List Int) (hx : xs.length ≤ 10000) : ∀ (m n : Nat) (out : List (Int × Int)), xs.length - n = m → (h : n < xs.length) → out.length ≤ n →
    Ev (fun k => impl_Parts_L15 k (n : Int) xs out) (out ++ spans xs[n] (xs.drop (n + 1))) := by
  intro m
  induction m with
  | zero => intro n out hm h; omega
  | succ m ih =>
    intro n out hm h ho
    apply ev_succ
    simp only [impl_Parts_L15, wsucc (show n < 9223372036854775807 by omega)]
    by_cases hn : n + 1 < xs.length
    · have r1 : rd (Kind.int IntKind.i64) xs (n : Int) = xs[n] := rd_nat (k := .int .i64) h
      have r2 : rd (Kind.int IntKind.i64) xs ((n + 1 : Nat) : Int) = xs[n + 1] := rd_nat (k := .int .i64) hn
      simp only [show ((n + 1 : Nat) : Int) < (xs.length : Int) by omega, show (n : Int) < (xs.length : Int) by omega, show (0 : Int) ≤ (n : Int) by omega, show (0 : Int) ≤ ((n + 1 : Nat) : Int) by omega, decide_true, cond_true, r1, r2, mb16, List.length_singleton, show out.length + 1 ≤ 8796093022208 by omega]
      refine ev_eq (ih (n + 1) _ (by omega) hn (by rw [List.length_append]; simp; omega)) ?_
      rw [drop_cons hn]
      simp [spans]
    · simp only [show ¬ ((n + 1 : Nat) : Int) < (xs.length : Int) by omega, decide_false, cond_false]
      refine ev_eq (ev_now _) ?_
      rw [List.drop_eq_nil_of_le (by omega)]
      simp [spans]
def tms : List Ch → List Int
  | [] => []
  | c :: cs => c.2.1 :: ((if c.1 = 1 then [] else [c.2.2.1]) ++ tms cs)
theorem impl_loop (xs : List Ch) (hx : xs.length ≤ 10) (r : List (Int × Int)) : ∀ (m n : Nat) (ts : List Int), xs.length - n = m → n ≤ xs.length → ts.length ≤ 2 + 2 * n →
    Ev (fun k => (impl_sorted (ts ++ tms (xs.drop n))).bind fun val => (dCompact val).bind fun val => impl_Parts_L15 k 0 val []) r →
    Ev (fun k => impl_Parts_L5 k xs (xs.length : Int) (n : Int) ts) r := by
  intro m
  induction m with
  | zero =>
    intro n ts hm hn ht h
    obtain rfl : n = xs.length := by omega
    apply ev_succ
    simp only [impl_Parts_L5, Int.lt_irrefl, decide_false, cond_false]
    rw [List.drop_length, show tms [] = [] from rfl, List.append_nil] at h
    exact h
  | succ m ih =>
    intro n ts hm hn ht h
    have hlt : n < xs.length := by omega
    rw [drop_cons hlt] at h
    apply ev_succ
    simp only [impl_Parts_L5, show (n : Int) < (xs.length : Int) by omega, show (0 : Int) ≤ (n : Int) by omega, decide_true, cond_true, rd_nat (k := K9_SA0) hlt, wsucc (show n < 9223372036854775807 by omega), mb8, List.length_append, List.length_singleton,
      show ts.length + 1 ≤ 17592186044416 by omega, show ts.length + 1 + 1 ≤ 17592186044416 by omega, bneI]
    by_cases h1 : xs[n].1 = 1
    · simp only [h1, decide_true, Bool.not_true, cond_false]
      refine ih (n + 1) _ (by omega) (by omega) (by rw [List.length_append]; simp; omega) ?_
      simpa [tms, h1] using h
    · simp only [h1, decide_false, Bool.not_false, cond_true]
      refine ih (n + 1) _ (by omega) (by omega) (by rw [List.length_append, List.length_append]; simp; omega) ?_
      simpa [tms, h1] using h
end Go.Proofs.YtondfjckadlabaaGreatDoor.ON

namespace Go.Proofs.YtondfjckadlabaaGreatDoor.ON
open Go Go.Eng Go.Proofs.YtondfjckadlabaaGreatDoor.DT Go.Proofs.YtondfjckadlabaaGreatDoor.SA Go.Proofs.YtondfjckadlabaaGreatDoor.EX
def hit (t : Int) (c : Ch) : Bool := decide (c.2.1 = t) || decide (c.2.2.1 = t)
def ends (vt : Int) (xs : List Ch) (t : Int) : Bool := decide (t = vt) || xs.any (hit t)
theorem spec_in (fr t : Int) (b0 : ByteArray) (b1 b2 b3 b4 b5 b6 : Int) (b7 b8 : ByteArray) (b9 : Int) (xs : List Ch) (out : List (Int × Int)) (hx : xs.length ≤ 10) (r : List (Int × Int)) : ∀ (m n : Nat) (e : Bool), xs.length - n = m → n ≤ xs.length →
    Ev (fun k => bif (e || (xs.drop n).any (hit t)) then (bif decide (out.length + 1 ≤ 8796093022208) then spec_Parts_L6 k t (IntKind.i64.wrap (t + 1)) b0 b1 b2 b3 b4 b5 b6 b7 b8 b9 xs (out ++ [(fr, t)]) else none) else spec_Parts_L6 k fr (IntKind.i64.wrap (t + 1)) b0 b1 b2 b3 b4 b5 b6 b7 b8 b9 xs out) r →
    Ev (fun k => spec_Parts_L10 k fr t e (n : Int) b0 b1 b2 b3 b4 b5 b6 b7 b8 b9 xs out) r := by
  intro m
  induction m with
  | zero =>
    intro n e hm hn h
    obtain rfl : n = xs.length := by omega
    rw [List.drop_length, List.any_nil, Bool.or_false] at h
    apply ev_succ
    simp only [spec_Parts_L10, Int.lt_irrefl, decide_false, cond_false, mb16, List.length_singleton]
    exact h
  | succ m ih =>
    intro n e hm hn h
    have hlt : n < xs.length := by omega
    rw [drop_cons hlt, List.any_cons] at h
    apply ev_succ
    simp only [spec_Parts_L10, show (n : Int) < (xs.length : Int) by omega, show (0 : Int) ≤ (n : Int) by omega, decide_true, cond_true, rd_nat (k := K9_SA0) hlt, wsucc (show n < 9223372036854775807 by omega), beqI]
    cases e with
    | true => exact ih (n + 1) true (by omega) (by omega) (by simpa using h)
    | false =>
      simp only [cond_false]
      by_cases h1 : xs[n].2.1 = t
      · simp only [h1, decide_true, cond_true]
        exact ih (n + 1) true (by omega) (by omega) (by simpa [hit, h1] using h)
      · simp only [h1, decide_false, cond_false]
        exact ih (n + 1) _ (by omega) (by omega) (by simpa [hit, h1] using h)
theorem spec_out (b0 : ByteArray) (b1 b2 vt b4 b5 b6 : Int) (b7 b8 : ByteArray) (b9 : Int) (xs : List Ch) (hx : xs.length ≤ 10) (hv : vt ≤ 52596000) : ∀ (m : Nat) (t fr : Int) (out : List (Int × Int)), vt + 1 - t = m → 0 ≤ t → out.length + m ≤ 10000 →
    Ev (fun k => spec_Parts_L6 k fr t b0 b1 b2 vt b4 b5 b6 b7 b8 b9 xs out) (out ++ spans fr (el (ends vt xs) m t)) := by
  intro m
  induction m with
  | zero =>
    intro t fr out hm ht ho
    apply ev_succ
    simp only [spec_Parts_L6, show ¬ t ≤ vt by omega, decide_false, cond_false]
    exact ev_eq (ev_now _) (by simp [el, spans])
  | succ m ih =>
    intro t fr out hm ht ho
    apply ev_succ
    simp only [spec_Parts_L6, show t ≤ vt by omega, decide_true, cond_true]
    refine spec_in fr t b0 b1 b2 vt b4 b5 b6 b7 b8 b9 xs out hx _ xs.length 0 _ (by omega) (by omega) ?_
    rw [List.drop_zero, w64 (by omega) (by omega), beqI]
    show Ev _ (out ++ spans fr (el (ends vt xs) (m + 1) t))
    unfold el
    cases h : ends vt xs t with
    | true =>
      have h' : (decide (t = vt) || xs.any (hit t)) = true := h
      simp only [h', cond_true, show out.length + 1 ≤ 8796093022208 by omega, decide_true, if_true]
      refine ev_eq (ih (t + 1) t _ (by omega) (by omega) (by rw [List.length_append]; simp; omega)) ?_
      simp [spans]
    | false =>
      have h' : (decide (t = vt) || xs.any (hit t)) = false := h
      simp only [h', cond_false, Bool.false_eq_true, if_false]
      exact ih (t + 1) fr out (by omega) (by omega) (by omega)
/-! ### the parts -/
theorem chs_all {vf vt : Int} : ∀ (xs : List Ch) (p : Option Int) (e : Int), chs vf vt xs p e = true → ∀ c ∈ xs, chOk vf vt c = true
  | [], _, _, _ => fun c hc => by simp at hc
  | x :: r, p, e, h => by
    simp only [chs, Bool.and_eq_true] at h
    intro c hc
    rcases List.mem_cons.1 hc with rfl | hc
    · exact h.1
    · have ht := h.2.2
      unfold tailV at ht
      split at ht
      · simp only [Bool.and_eq_true] at ht; exact chs_all r _ _ ht.2 c hc
      · exact chs_all r _ _ ht c hc
def ChP (vf vt : Int) (c : Ch) : Prop := (vf ≤ c.2.1 ∧ c.2.1 ≤ vt) ∧ (c.1 = 1 → c.2.2.1 = 0) ∧ (¬ c.1 = 1 → vf < c.2.2.1 ∧ c.2.2.1 ≤ vt)
theorem ch_p {vf vt : Int} {c : Ch} (h : chOk vf vt c = true) : ChP vf vt c := by
  simp only [chOk, Bool.and_eq_true] at h
  obtain ⟨_, _, hk⟩ := h
  unfold kindV at hk
  split at hk
  · rename_i h1
    simp only [Bool.and_eq_true, decide_eq_true_eq] at hk
    exact ⟨by omega, fun _ => hk.1, fun h => absurd h1 h⟩
  · rename_i h1
    simp only [Bool.and_eq_true, decide_eq_true_eq] at hk
    exact ⟨by omega, fun h => absurd h h1, fun _ => by omega⟩
structure TafP (vf vt : Int) (xs : List Ch) : Prop where
  f : 0 ≤ vf ∧ vf ≤ 52596000
  u : vf + 60 ≤ vt ∧ vt ≤ 52596000 ∧ vt - vf ≤ 2160
  len : xs.length ≤ 10
  all : ∀ c ∈ xs, ChP vf vt c
theorem taf_p {a0 : ByteArray} {a1 vf vt d s v : Int} {w c : ByteArray} {b : Int} {xs : List Ch} (h : tafV a0 a1 vf vt d s v w c b xs = true) : TafP vf vt xs := by
  have hlen := taf_len h
  simp only [tafV, Bool.and_eq_true, Bool.not_eq_true', Bool.not_eq_false', decide_eq_false_iff_not, decide_eq_true_eq] at h
  obtain ⟨h1, h2, h3, h4, h5, h6, h7, h8, h9, h10⟩ := h
  have hs := span_facts h3
  exact ⟨hs.1, by omega, hlen, fun c hc => ch_p (chs_all xs _ _ h10 c hc)⟩
theorem mem_tms (a : Int) : ∀ (xs : List Ch), a ∈ tms xs ↔ ∃ c ∈ xs, a = c.2.1 ∨ (¬ c.1 = 1 ∧ a = c.2.2.1)
  | [] => by simp [tms]
  | c :: cs => by
    have ih := mem_tms a cs
    simp only [tms, List.mem_cons, List.mem_append, ih]
    by_cases h : c.1 = 1
    · simp [h]
    · simp [h, or_assoc]
theorem tms_len : ∀ (xs : List Ch), (tms xs).length ≤ 2 * xs.length
  | [] => by simp [tms]
  | c :: cs => by
    have ih := tms_len cs
    simp only [tms, List.length_cons, List.length_append]
    split <;> simp <;> omega
theorem parts_times {vf vt : Int} {xs : List Ch} (h : TafP vf vt xs) : Lib.compact (([vf, vt] ++ tms xs).mergeSort fun x y => decide (x ≤ y)) = vf :: el (ends vt xs) (vt - vf).toNat (vf + 1) := by
  obtain ⟨hf, hu, hl, hall⟩ := h
  have hs : (([vf, vt] ++ tms xs).mergeSort fun x y => decide (x ≤ y)).Pairwise (· ≤ ·) := by
    have := List.pairwise_mergeSort (le := fun x y : Int => decide (x ≤ y)) (fun a b c h1 h2 => by simp only [decide_eq_true_eq] at *; omega) (fun a b => by simp only [Bool.or_eq_true, decide_eq_true_eq]; omega) ([vf, vt] ++ tms xs)
    exact this.imp fun h => by simpa using h
  obtain ⟨c1, c2⟩ := compact_sorted hs
  refine sorted_ext _ _ c1 (List.pairwise_cons.2 ⟨fun a ha => by have := ((mem_el _ _ _ a).1 ha).1; omega, el_sorted _ _ _⟩) fun a => ?_
  rw [c2, List.mem_mergeSort, List.mem_cons, mem_el, List.mem_append, mem_tms]
  simp only [List.mem_cons, List.not_mem_nil, or_false, ends, Bool.or_eq_true, decide_eq_true_eq, List.any_eq_true, hit]
  constructor
  · rintro ((rfl | rfl) | ⟨c, hc, h⟩)
    · exact .inl rfl
    · exact .inr ⟨by omega, by omega, .inl rfl⟩
    · obtain ⟨p1, p2, p3⟩ := hall c hc
      rcases h with rfl | ⟨hk, rfl⟩
      · by_cases e : c.2.1 = vf
        · exact .inl e
        · exact .inr ⟨by omega, by omega, .inr ⟨c, hc, .inl rfl⟩⟩
      · have := p3 hk
        exact .inr ⟨by omega, by omega, .inr ⟨c, hc, .inr rfl⟩⟩
  · rintro (rfl | ⟨h1, h2, h⟩)
    · exact .inl (.inl rfl)
    · rcases h with rfl | ⟨c, hc, h⟩
      · exact .inl (.inr rfl)
      · refine .inr ⟨c, hc, ?_⟩
        obtain ⟨p1, p2, p3⟩ := hall c hc
        rcases h with rfl | h
        · exact .inl rfl
        · subst h
          by_cases hk : c.1 = 1
          · have := p2 hk; omega
          · exact .inr ⟨hk, rfl⟩
def partsV (a0 : ByteArray) (a1 vf vt d s v : Int) (w c : ByteArray) (b : Int) (xs : List Ch) : List (Int × Int) :=
  if tafV a0 a1 vf vt d s v w c b xs = true then spans vf (el (ends vt xs) (vt - vf).toNat (vf + 1)) else []
theorem parts_len (a0 : ByteArray) (a1 vf vt d s v : Int) (w c : ByteArray) (b : Int) (xs : List Ch) : (partsV a0 a1 vf vt d s v w c b xs).length ≤ 2160 := by
  unfold partsV
  split
  · rename_i h
    have hp := (taf_p h).u
    have := el_len (ends vt xs) (vt - vf).toNat (vf + 1)
    rw [spans_len]; omega
  · simp
theorem spec_Parts_eq (a0 : ByteArray) (a1 vf vt d s v : Int) (w c : ByteArray) (b : Int) (xs : List Ch) : spec_Parts a0 a1 vf vt d s v w c b xs = some (partsV a0 a1 vf vt d s v w c b xs) := by
  refine evF_eq ?_
  unfold spec_Parts_F partsV
  simp only [spec_TafOk_eq, Option.bind_some]
  cases h : tafV a0 a1 vf vt d s v w c b xs with
  | false => exact ev_eq (ev_now _) (by simp)
  | true =>
    obtain ⟨hf, hu, hl, hall⟩ := taf_p h
    simp only [Bool.not_true, cond_false, if_true]
    rw [w64 (n := vf + 1) (by omega) (by omega)]
    exact ev_eq (spec_out a0 a1 vf vt d s v w c b xs hl hu.2.1 (vt - vf).toNat (vf + 1) vf [] (by omega) (by omega) (by simp; omega)) (by simp)
theorem impl_Parts_eq (a0 : ByteArray) (a1 vf vt d s v : Int) (w c : ByteArray) (b : Int) (xs : List Ch) : impl_Parts a0 a1 vf vt d s v w c b xs = some (partsV a0 a1 vf vt d s v w c b xs) := by
  refine evF_eq ?_
  unfold impl_Parts_F partsV
  simp only [impl_TafOk_eq, Option.bind_some]
  cases h : tafV a0 a1 vf vt d s v w c b xs with
  | false => exact ev_eq (ev_now _) (by simp)
  | true =>
    have hp := taf_p h
    obtain ⟨hf, hu, hl, hall⟩ := taf_p h
    have ht := tms_len xs
    have hel := el_len (ends vt xs) (vt - vf).toNat (vf + 1)
    simp only [Bool.not_true, cond_false, if_true]
    refine impl_loop xs hl _ xs.length 0 [vf, vt] (by omega) (by omega) (by simp) ?_
    rw [List.drop_zero]
    have hlen : ([vf, vt] ++ tms xs).length ≤ 22 := by simp; omega
    have e1 : dClone ([vf, vt] ++ tms xs) = some ([vf, vt] ++ tms xs) := by
      unfold dClone
      simp only [show ([vf, vt] ++ tms xs).length ≤ 17592186044416 by omega, decide_true, Bool.not_true, Bool.or_false, show ([vf, vt] ++ tms xs).isEmpty = false from rfl, cond_false]
    have e2 : dSort ([vf, vt] ++ tms xs) = some (([vf, vt] ++ tms xs).mergeSort fun x y => decide (x ≤ y)) := by
      unfold dSort
      simp only [show ([vf, vt] ++ tms xs).length < 4611686018427387904 by omega, decide_true, Bool.not_true, Bool.or_false, show ([vf, vt] ++ tms xs).isEmpty = false from rfl, cond_false]
    have hne : (([vf, vt] ++ tms xs).mergeSort fun x y => decide (x ≤ y)).isEmpty = false := by
      rw [List.isEmpty_eq_false_iff_exists_mem]
      exact ⟨vf, List.mem_mergeSort.2 (by simp)⟩
    have hml : (([vf, vt] ++ tms xs).mergeSort fun x y => decide (x ≤ y)).length ≤ 9223372036854775807 := by rw [List.length_mergeSort]; omega
    have e3 : dCompact (([vf, vt] ++ tms xs).mergeSort fun x y => decide (x ≤ y)) = some (vf :: el (ends vt xs) (vt - vf).toNat (vf + 1)) := by
      unfold dCompact
      rw [hne, parts_times hp]
      simp only [hml, decide_true, Bool.not_true, Bool.or_false, cond_false]
    simp only [impl_sorted, e1, e2, e3, Option.bind_some]
    exact impl_tail _ (by simp only [List.length_cons]; omega) _ 0 [] rfl (by simp) (by simp)
end Go.Proofs.YtondfjckadlabaaGreatDoor.ON

namespace Go.Proofs.YtondfjckadlabaaGreatDoor.ON.W
open Go Go.Eng Go.Proofs.YtondfjckadlabaaGreatDoor.DT Go.Proofs.YtondfjckadlabaaGreatDoor.SA Go.Proofs.YtondfjckadlabaaGreatDoor.EX Go.Proofs.YtondfjckadlabaaGreatDoor.ON
/-! ### sights -/
theorem mayAt_length (t : Int) (s : Sk) (xs : List Ch) : (mayAt t s xs).length ≤ xs.length := by
  induction xs with
  | nil => simp [mayAt]
  | cons c cs ih =>
    simp only [mayAt]
    split <;> simp only [List.length_cons] <;> omega
theorem state_list (a0 : ByteArray) (a1 vf vt d s v : Int) (w c : ByteArray) (b : Int) (xs : List Ch) (t : Int) : (stateV a0 a1 vf vt d s v w c b xs t).2.2.2.2.2.2.2.length ≤ 10 := by
  unfold stateV
  split
  · rename_i h
    have := taf_len h.1
    have := mayAt_length t (xs.foldl (stepS t) (d, s, v, w, c, b)) xs
    show (mayAt t (xs.foldl (stepS t) (d, s, v, w, c, b)) xs).length ≤ 10
    omega
  · simp
def inV (x : Int) : Prop := 0 ≤ x ∧ x ≤ 9999
theorem sky_v {d s v : Int} {w c : ByteArray} {b : Int} (h : skyV d s v w c b = true) : -1 ≤ v ∧ v ≤ 9999 := by
  simp only [skyV, Bool.and_eq_true, decide_eq_true_eq] at h
  exact h.2.1
theorem full_v {d s v : Int} {w c : ByteArray} {b : Int} (h : fullV d s v w c b = true) : inV v := by
  simp only [fullV, Bool.and_eq_true, decide_eq_true_eq] at h
  have := sky_v h.1
  exact ⟨by omega, this.2⟩
def ChV (c : Ch) : Prop := (-1 ≤ c.2.2.2.2.2.1 ∧ c.2.2.2.2.2.1 ≤ 9999) ∧ (c.1 = 1 → inV c.2.2.2.2.2.1)
theorem ch_v {vf vt : Int} {c : Ch} (h : chOk vf vt c = true) : ChV c := by
  simp only [chOk, Bool.and_eq_true] at h
  obtain ⟨hs, _, hk⟩ := h
  refine ⟨sky_v hs, fun h1 => ?_⟩
  unfold kindV at hk
  rw [if_pos h1] at hk
  simp only [Bool.and_eq_true] at hk
  exact full_v hk.2.2
theorem laid_v (s : Sk) (c : Ch) (hs : inV s.2.2.1) (hc : ChV c) : inV (laidV s c.2.2.2).2.2.1 := by
  obtain ⟨h1, h2⟩ := hc
  unfold laidV
  split
  · show inV (if c.2.2.2.2.2.1 ≠ -1 then c.2.2.2.2.2.1 else s.2.2.1)
    split
    · exact ⟨by omega, h1.2⟩
    · exact hs
  · exact ⟨by decide, by decide⟩
theorem step_v (t : Int) (s : Sk) (c : Ch) (hs : inV s.2.2.1) (hc : ChV c) : inV (stepS t s c).2.2.1 := by
  unfold stepS
  split
  · rename_i h; exact hc.2 h.1
  · split
    · exact laid_v s c hs hc
    · exact hs
theorem fold_v (t : Int) : ∀ (xs : List Ch) (s : Sk), inV s.2.2.1 → (∀ c ∈ xs, ChV c) → inV (xs.foldl (stepS t) s).2.2.1
  | [], s, hs, _ => hs
  | c :: cs, s, hs, h => fold_v t cs _ (step_v t s c hs (h c List.mem_cons_self)) fun d hd => h d (List.mem_cons_of_mem _ hd)
theorem may_v (t : Int) (s : Sk) (hs : inV s.2.2.1) : ∀ (xs : List Ch), (∀ c ∈ xs, ChV c) → ∀ x ∈ mayAt t s xs, inV x.2.2.1
  | [], _ => fun x hx => by simp [mayAt] at hx
  | c :: cs, h => fun x hx => by
    have ih := may_v t s hs cs fun d hd => h d (List.mem_cons_of_mem _ hd)
    simp only [mayAt] at hx
    split at hx
    · rcases List.mem_cons.1 hx with rfl | hx
      · exact laid_v s c hs (h c List.mem_cons_self)
      · exact ih x hx
    · exact ih x hx
theorem state_v (a0 : ByteArray) (a1 vf vt d s v : Int) (w c : ByteArray) (b : Int) (xs : List Ch) (t : Int) : inV (stateV a0 a1 vf vt d s v w c b xs t).2.2.1 ∧ ∀ x ∈ (stateV a0 a1 vf vt d s v w c b xs t).2.2.2.2.2.2.2, inV x.2.2.1 := by
  unfold stateV
  split
  · rename_i h
    have ht := h.1
    simp only [tafV, Bool.and_eq_true] at ht
    have hf := full_v ht.2.2.2.2.2.2.2.1
    have hall : ∀ c ∈ xs, ChV c := fun c hc => ch_v (chs_all xs _ _ ht.2.2.2.2.2.2.2.2.2 c hc)
    have h1 := fold_v t xs (d, s, v, w, c, b) hf hall
    exact ⟨h1, may_v t _ h1 xs hall⟩
  · exact ⟨⟨by decide, by decide⟩, fun x hx => by simp at hx⟩
/-! ### the least -/
def mi (w x : Int) : Int := if x < w then x else w
def mn (w : Int) (l : List Int) : Int := l.foldl mi w
def stp (w x : Int) : Int := if w < 0 then x else if x < w then x else w
theorem mi_comm (w x y : Int) : mi (mi w x) y = mi (mi w y) x := by unfold mi; repeat' split
                                                                    all_goals omega
theorem mn_end (s : Int) : ∀ (l : List Int) (w : Int), mn w (l ++ [s]) = mn (mi w s) l
  | [], w => rfl
  | x :: l, w => by
    show mn (mi w x) (l ++ [s]) = mn (mi (mi w s) x) l
    rw [mn_end s l, mi_comm]
def gv (w : Int) : Int := if w < 0 then 9999 else w
theorem gv_stp (w x : Int) (hx : inV x) : gv (stp w x) = mi (gv w) x ∧ 0 ≤ stp w x := by
  obtain ⟨h0, h1⟩ := hx
  unfold gv stp mi
  constructor
  · repeat' split
    all_goals omega
  · repeat' split
    all_goals omega
theorem gv_fold : ∀ (l : List Int) (w : Int), (∀ x ∈ l, inV x) → gv (l.foldl stp w) = mn (gv w) l ∧ (l ≠ [] ∨ 0 ≤ w → 0 ≤ l.foldl stp w)
  | [], w, _ => ⟨rfl, fun h => h.elim (fun h => absurd rfl h) id⟩
  | x :: l, w, h => by
    have h1 := gv_stp w x (h x List.mem_cons_self)
    have h2 := gv_fold l (stp w x) fun y hy => h y (List.mem_cons_of_mem _ hy)
    refine ⟨?_, fun _ => h2.2 (.inr h1.2)⟩
    show gv (l.foldl stp (stp w x)) = mn (mi (gv w) x) l
    rw [h2.1, h1.1]
abbrev vis (x : Sk) : Int := x.2.2.1
section
variable (st : Int → Res8)
def sp : Int → List (Int × Int) → Int
  | w, [] => w
  | w, p :: ps => sp (mn (mi w (st p.1).2.2.1) ((st p.1).2.2.2.2.2.2.2.map vis)) ps
def ip : Int → List (Int × Int) → Int
  | w, [] => w
  | w, p :: ps => ip (((st p.1).2.2.2.2.2.2.2.map vis ++ [(st p.1).2.2.1]).foldl stp w) ps
theorem ip_sp (hv : ∀ t, inV (st t).2.2.1 ∧ ∀ x ∈ (st t).2.2.2.2.2.2.2, inV x.2.2.1) : ∀ (ps : List (Int × Int)) (w : Int), gv (ip st w ps) = sp st (gv w) ps ∧ (ps ≠ [] ∨ 0 ≤ w → 0 ≤ ip st w ps)
  | [], w => ⟨rfl, fun h => h.elim (fun h => absurd rfl h) id⟩
  | p :: ps, w => by
    obtain ⟨h1, h2⟩ := hv p.1
    have h3 := gv_fold ((st p.1).2.2.2.2.2.2.2.map vis ++ [(st p.1).2.2.1]) w (fun x hx => by
      rcases List.mem_append.1 hx with hx | hx
      · obtain ⟨y, hy, rfl⟩ := List.mem_map.1 hx; exact h2 y hy
      · obtain rfl := List.mem_singleton.1 hx; exact h1)
    have h4 := ip_sp hv ps (((st p.1).2.2.2.2.2.2.2.map vis ++ [(st p.1).2.2.1]).foldl stp w)
    refine ⟨?_, fun _ => h4.2 (.inr (h3.2 (.inl (by simp))))⟩
    show gv (ip st _ ps) = sp st (mn (mi (gv w) _) _) ps
    rw [h4.1, h3.1, mn_end]
end
/-! ### the loops -/
theorem spec_inner (i : Int) (b0 : ByteArray) (b1 b2 b3 b4 b5 b6 : Int) (b7 b8 : ByteArray) (b9 : Int) (xs : List Ch) (P : List (Int × Int)) (may : List Sk) (hl : may.length ≤ 10) (r : Int) : ∀ (m n : Nat) (w : Int), may.length - n = m → n ≤ may.length →
    Ev (fun k => spec_WorstSight_L6 k (mn w ((may.drop n).map vis)) (IntKind.i64.wrap (i + 1)) b0 b1 b2 b3 b4 b5 b6 b7 b8 b9 xs P) r →
    Ev (fun k => spec_WorstSight_L11 k w i (n : Int) b0 b1 b2 b3 b4 b5 b6 b7 b8 b9 xs P may) r := by
  intro m
  induction m with
  | zero =>
    intro n w hm hn h
    obtain rfl : n = may.length := by omega
    rw [List.drop_length] at h
    apply ev_succ
    simp only [spec_WorstSight_L11, Int.lt_irrefl, decide_false, cond_false]
    exact h
  | succ m ih =>
    intro n w hm hn h
    have hlt : n < may.length := by omega
    rw [drop_cons hlt] at h
    apply ev_succ
    simp only [spec_WorstSight_L11, show (n : Int) < (may.length : Int) by omega, show (0 : Int) ≤ (n : Int) by omega, decide_true, cond_true, rd_nat (k := K6_SA1) hlt, wsucc (show n < 9223372036854775807 by omega)]
    exact ih (n + 1) _ (by omega) (by omega) h
theorem spec_outer (b0 : ByteArray) (b1 b2 b3 b4 b5 b6 : Int) (b7 b8 : ByteArray) (b9 : Int) (xs : List Ch) (P : List (Int × Int)) (hP : P.length ≤ 10000) : ∀ (m n : Nat) (w : Int), P.length - n = m → n ≤ P.length →
    Ev (fun k => spec_WorstSight_L6 k w (n : Int) b0 b1 b2 b3 b4 b5 b6 b7 b8 b9 xs P) (sp (stateV b0 b1 b2 b3 b4 b5 b6 b7 b8 b9 xs) w (P.drop n)) := by
  intro m
  induction m with
  | zero =>
    intro n w hm hn
    obtain rfl : n = P.length := by omega
    apply ev_succ
    simp only [spec_WorstSight_L6, Int.lt_irrefl, decide_false, cond_false]
    exact ev_eq (ev_now _) (by rw [List.drop_length]; rfl)
  | succ m ih =>
    intro n w hm hn
    have hlt : n < P.length := by omega
    rw [drop_cons hlt]
    have hs := state_list b0 b1 b2 b3 b4 b5 b6 b7 b8 b9 xs P[n].1
    apply ev_succ
    simp only [spec_WorstSight_L6, show (n : Int) < (P.length : Int) by omega, show (0 : Int) ≤ (n : Int) by omega, decide_true, cond_true, rd_nat (k := K2_ON2) hlt, spec_StateAt_eq, Option.bind_some]
    refine spec_inner (n : Int) b0 b1 b2 b3 b4 b5 b6 b7 b8 b9 xs P _ hs _ _ 0 _ rfl (by omega) ?_
    rw [wsucc (by omega), List.drop_zero]
    exact ih (n + 1) _ (by omega) (by omega)
theorem impl_inner (i ln : Int) (b0 : ByteArray) (b1 b2 b3 b4 b5 b6 : Int) (b7 b8 : ByteArray) (b9 : Int) (xs : List Ch) (P : List (Int × Int)) (may : List Sk) (hl : may.length ≤ 11) (r : Int) : ∀ (m n : Nat) (w : Int), may.length - n = m → n ≤ may.length →
    Ev (fun k => impl_WorstSight_L3 k (((may.drop n).map vis).foldl stp w) ln (IntKind.i64.wrap (i + 1)) b0 b1 b2 b3 b4 b5 b6 b7 b8 b9 xs P) r →
    Ev (fun k => impl_WorstSight_L7 k w ln i (may.length : Int) (n : Int) b0 b1 b2 b3 b4 b5 b6 b7 b8 b9 xs P may) r := by
  intro m
  induction m with
  | zero =>
    intro n w hm hn h
    obtain rfl : n = may.length := by omega
    rw [List.drop_length] at h
    apply ev_succ
    simp only [impl_WorstSight_L7, Int.lt_irrefl, decide_false, cond_false]
    exact h
  | succ m ih =>
    intro n w hm hn h
    have hlt : n < may.length := by omega
    rw [drop_cons hlt] at h
    apply ev_succ
    simp only [impl_WorstSight_L7, show (n : Int) < (may.length : Int) by omega, show (0 : Int) ≤ (n : Int) by omega, decide_true, cond_true, rd_nat (k := K6_SA1) hlt, wsucc (show n < 9223372036854775807 by omega)]
    have h' : Ev (fun k => impl_WorstSight_L3 k (((may.drop (n + 1)).map vis).foldl stp (stp w may[n].2.2.1)) ln (IntKind.i64.wrap (i + 1)) b0 b1 b2 b3 b4 b5 b6 b7 b8 b9 xs P) r := h
    by_cases h1 : w < 0
    · simp only [h1, decide_true, cond_true]
      rw [show stp w may[n].2.2.1 = may[n].2.2.1 by simp [stp, h1]] at h'
      exact ih (n + 1) _ (by omega) (by omega) h'
    · by_cases h2 : may[n].2.2.1 < w
      · simp only [h1, h2, decide_true, decide_false, cond_true, cond_false]
        rw [show stp w may[n].2.2.1 = may[n].2.2.1 by simp [stp, h1, h2]] at h'
        exact ih (n + 1) _ (by omega) (by omega) h'
      · simp only [h1, h2, decide_false, cond_false]
        rw [show stp w may[n].2.2.1 = w by simp [stp, h1, h2]] at h'
        exact ih (n + 1) _ (by omega) (by omega) h'
theorem impl_outer (b0 : ByteArray) (b1 b2 b3 b4 b5 b6 : Int) (b7 b8 : ByteArray) (b9 : Int) (xs : List Ch) (P : List (Int × Int)) (hP : P.length ≤ 10000) : ∀ (m n : Nat) (w : Int), P.length - n = m → n ≤ P.length →
    Ev (fun k => impl_WorstSight_L3 k w (P.length : Int) (n : Int) b0 b1 b2 b3 b4 b5 b6 b7 b8 b9 xs P) (ip (stateV b0 b1 b2 b3 b4 b5 b6 b7 b8 b9 xs) w (P.drop n)) := by
  intro m
  induction m with
  | zero =>
    intro n w hm hn
    obtain rfl : n = P.length := by omega
    apply ev_succ
    simp only [impl_WorstSight_L3, Int.lt_irrefl, decide_false, cond_false]
    exact ev_eq (ev_now _) (by rw [List.drop_length]; rfl)
  | succ m ih =>
    intro n w hm hn
    have hlt : n < P.length := by omega
    rw [drop_cons hlt]
    have hs := state_list b0 b1 b2 b3 b4 b5 b6 b7 b8 b9 xs P[n].1
    apply ev_succ
    simp only [impl_WorstSight_L3, show (n : Int) < (P.length : Int) by omega, show (0 : Int) ≤ (n : Int) by omega, decide_true, cond_true, rd_nat (k := K2_ON2) hlt, impl_StateAt_eq, Option.bind_some, mb64, List.length_singleton]
    show Ev _ (ip (stateV b0 b1 b2 b3 b4 b5 b6 b7 b8 b9 xs) (((stateV b0 b1 b2 b3 b4 b5 b6 b7 b8 b9 xs P[n].1).2.2.2.2.2.2.2.map vis ++ [(stateV b0 b1 b2 b3 b4 b5 b6 b7 b8 b9 xs P[n].1).2.2.1]).foldl stp w) (P.drop (n + 1)))
    have hq := ih (n + 1) (((stateV b0 b1 b2 b3 b4 b5 b6 b7 b8 b9 xs P[n].1).2.2.2.2.2.2.2.map vis ++ [(stateV b0 b1 b2 b3 b4 b5 b6 b7 b8 b9 xs P[n].1).2.2.1]).foldl stp w) (by omega) (by omega)
    generalize stateV b0 b1 b2 b3 b4 b5 b6 b7 b8 b9 xs P[n].1 = q at hs hq ⊢
    simp only [show q.2.2.2.2.2.2.2.length + 1 ≤ 2199023255552 by omega, decide_true, cond_true]
    refine impl_inner (n : Int) (P.length : Int) b0 b1 b2 b3 b4 b5 b6 b7 b8 b9 xs P _ (by rw [List.length_append]; simp; omega) _ _ 0 w rfl (by omega) ?_
    rw [wsucc (by omega), List.drop_zero, List.map_append]
    exact hq
theorem worst_eq (a0 : ByteArray) (a1 vf vt d s v : Int) (w c : ByteArray) (b : Int) (xs : List Ch) : ∃ x, spec_WorstSight a0 a1 vf vt d s v w c b xs = some x ∧ impl_WorstSight a0 a1 vf vt d s v w c b xs = some x := by
  have hp := parts_len a0 a1 vf vt d s v w c b xs
  have hi : impl_WorstSight a0 a1 vf vt d s v w c b xs = some (ip (stateV a0 a1 vf vt d s v w c b xs) (-1) (partsV a0 a1 vf vt d s v w c b xs)) := by
    refine evF_eq ?_
    simp only [impl_WorstSight_F, impl_Parts_eq, Option.bind_some]
    exact impl_outer a0 a1 vf vt d s v w c b xs _ (by omega) _ 0 (-1) rfl (by omega)
  cases h : tafV a0 a1 vf vt d s v w c b xs with
  | false =>
    refine ⟨-1, evF_eq ?_, ?_⟩
    · simp only [spec_WorstSight_F, spec_TafOk_eq, h, Option.bind_some, Bool.not_false, cond_true]
      exact ev_now _
    · rw [hi]; simp [partsV, h, ip]
  | true =>
    have hne : partsV a0 a1 vf vt d s v w c b xs ≠ [] := by
      have hu := (taf_p h).u
      unfold partsV
      rw [if_pos h]
      intro hc
      have h1 := congrArg List.length hc
      rw [spans_len] at h1
      have h2 : vt ∈ el (ends vt xs) (vt - vf).toNat (vf + 1) := (mem_el _ _ _ _).2 ⟨by omega, by omega, by simp [ends]⟩
      rw [List.eq_nil_of_length_eq_zero h1] at h2
      simp at h2
    obtain ⟨e1, e2⟩ := ip_sp (stateV a0 a1 vf vt d s v w c b xs) (state_v a0 a1 vf vt d s v w c b xs) (partsV a0 a1 vf vt d s v w c b xs) (-1)
    have e3 := e2 (.inl hne)
    refine ⟨ip (stateV a0 a1 vf vt d s v w c b xs) (-1) (partsV a0 a1 vf vt d s v w c b xs), evF_eq ?_, hi⟩
    simp only [spec_WorstSight_F, spec_TafOk_eq, h, Option.bind_some, Bool.not_true, cond_false, spec_Parts_eq]
    refine ev_eq (spec_outer a0 a1 vf vt d s v w c b xs _ (by omega) _ 0 9999 rfl (by omega)) ?_
    rw [List.drop_zero]
    have : sp (stateV a0 a1 vf vt d s v w c b xs) (gv (-1)) (partsV a0 a1 vf vt d s v w c b xs) = _ := e1.symm
    rw [show (9999 : Int) = gv (-1) from rfl, this]
    unfold gv
    rw [if_neg (by omega)]
end Go.Proofs.YtondfjckadlabaaGreatDoor.ON.W
