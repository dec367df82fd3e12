/-
  Part of a proof by the engine: texts that a program of ours printed, or plain lemmas on them. No condition but what each theorem says.
-/
import Derived.Test.YtmcmkdiefpepnaaDoorPAP1
set_option linter.unusedVariables false
set_option linter.unusedSimpArgs false
namespace Go.Proofs.YtmcmkdiefpepnaaDoor.PA
open Go Go.Eng Go.Proofs.YtmcmkdiefpepnaaDoor.SA Go.Proofs.YtmcmkdiefpepnaaDoor.EX
def hit (t : Int) (c : Ch) : Bool := decide (c.2.1 = t) || decide (c.2.2.1 = t)
def ends (vt : Int) (xs : List Ch) (t : Int) : Bool := decide (t = vt) || xs.any (hit t)
theorem spec_in (fr t : Int) (b0 : ByteArray) (b1 b2 b3 b4 b5 b6 : Int) (b7 b8 : ByteArray) (b9 : Int) (xs : List Ch) (out : List (Int × Int)) (hx : xs.length ≤ 10) (r : List (Int × Int)) : ∀ (m n : Nat) (e : Bool), xs.length - n = m → n ≤ xs.length →
    Ev (fun k => bif (e || (xs.drop n).any (hit t)) then (bif decide (out.length + 1 ≤ 8796093022208) then spec_Parts_L6 k t (IntKind.i64.wrap (t + 1)) b0 b1 b2 b3 b4 b5 b6 b7 b8 b9 xs (out ++ [(fr, t)]) else none) else spec_Parts_L6 k fr (IntKind.i64.wrap (t + 1)) b0 b1 b2 b3 b4 b5 b6 b7 b8 b9 xs out) r →
    Ev (fun k => spec_Parts_L10 k fr t e (n : Int) b0 b1 b2 b3 b4 b5 b6 b7 b8 b9 xs out) r := by
  intro m
  induction m with
  | zero =>
    intro n e hm hn h
    obtain rfl : n = xs.length := by omega
    rw [List.drop_length, List.any_nil, Bool.or_false] at h
    apply ev_succ
    simp only [spec_Parts_L10, Int.lt_irrefl, decide_false, cond_false, mb16, List.length_singleton]
    exact h
  | succ m ih =>
    intro n e hm hn h
    have hlt : n < xs.length := by omega
    rw [drop_cons hlt, List.any_cons] at h
    apply ev_succ
    simp only [spec_Parts_L10, show (n : Int) < (xs.length : Int) by omega, show (0 : Int) ≤ (n : Int) by omega, decide_true, cond_true, rd_nat (k := K9_0) hlt, wsucc (show n < 9223372036854775807 by omega), beqI]
    cases e with
    | true => exact ih (n + 1) true (by omega) (by omega) (by simpa using h)
    | false =>
      simp only [cond_false]
      by_cases h1 : xs[n].2.1 = t
      · simp only [h1, decide_true, cond_true]
        exact ih (n + 1) true (by omega) (by omega) (by simpa [hit, h1] using h)
      · simp only [h1, decide_false, cond_false]
        exact ih (n + 1) _ (by omega) (by omega) (by simpa [hit, h1] using h)
theorem spec_out (b0 : ByteArray) (b1 b2 vt b4 b5 b6 : Int) (b7 b8 : ByteArray) (b9 : Int) (xs : List Ch) (hx : xs.length ≤ 10) (hv : vt ≤ 52596000) : ∀ (m : Nat) (t fr : Int) (out : List (Int × Int)), vt + 1 - t = m → 0 ≤ t → out.length + m ≤ 10000 →
    Ev (fun k => spec_Parts_L6 k fr t b0 b1 b2 vt b4 b5 b6 b7 b8 b9 xs out) (out ++ spans fr (el (ends vt xs) m t)) := by
  intro m
  induction m with
  | zero =>
    intro t fr out hm ht ho
    apply ev_succ
    simp only [spec_Parts_L6, show ¬ t ≤ vt by omega, decide_false, cond_false]
    exact ev_eq (ev_now _) (by simp [el, spans])
  | succ m ih =>
    intro t fr out hm ht ho
    apply ev_succ
    simp only [spec_Parts_L6, show t ≤ vt by omega, decide_true, cond_true]
    refine spec_in fr t b0 b1 b2 vt b4 b5 b6 b7 b8 b9 xs out hx _ xs.length 0 _ (by omega) (by omega) ?_
    rw [List.drop_zero, w64 (by omega) (by omega), beqI]
    show Ev _ (out ++ spans fr (el (ends vt xs) (m + 1) t))
    unfold el
    cases h : ends vt xs t with
    | true =>
      have h' : (decide (t = vt) || xs.any (hit t)) = true := h
      simp only [h', cond_true, show out.length + 1 ≤ 8796093022208 by omega, decide_true, if_true]
      refine ev_eq (ih (t + 1) t _ (by omega) (by omega) (by rw [List.length_append]; simp; omega)) ?_
      simp [spans]
    | false =>
      have h' : (decide (t = vt) || xs.any (hit t)) = false := h
      simp only [h', cond_false, Bool.false_eq_true, if_false]
      exact ih (t + 1) fr out (by omega) (by omega) (by omega)
/-! ### the parts -/
theorem chs_all {vf vt : Int} : ∀ (xs : List Ch) (p : Option Int) (e : Int), chs vf vt xs p e = true → ∀ c ∈ xs, chOk vf vt c = true
  | [], _, _, _ => fun c hc => by simp at hc
  | x :: r, p, e, h => by
    simp only [chs, Bool.and_eq_true] at h
    intro c hc
    rcases List.mem_cons.1 hc with rfl | hc
    · exact h.1
    · have ht := h.2.2
      unfold tailV at ht
      split at ht
      · simp only [Bool.and_eq_true] at ht; exact chs_all r _ _ ht.2 c hc
      · exact chs_all r _ _ ht c hc
def ChP (vf vt : Int) (c : Ch) : Prop := (vf ≤ c.2.1 ∧ c.2.1 ≤ vt) ∧ (c.1 = 1 → c.2.2.1 = 0) ∧ (¬ c.1 = 1 → vf < c.2.2.1 ∧ c.2.2.1 ≤ vt)
theorem ch_p {vf vt : Int} {c : Ch} (h : chOk vf vt c = true) : ChP vf vt c := by
  simp only [chOk, Bool.and_eq_true] at h
  obtain ⟨_, _, hk⟩ := h
  unfold kindV at hk
  split at hk
  · rename_i h1
    simp only [Bool.and_eq_true, decide_eq_true_eq] at hk
    exact ⟨by omega, fun _ => hk.1, fun h => absurd h1 h⟩
  · rename_i h1
    simp only [Bool.and_eq_true, decide_eq_true_eq] at hk
    exact ⟨by omega, fun h => absurd h h1, fun _ => by omega⟩
structure TafP (vf vt : Int) (xs : List Ch) : Prop where
  f : 0 ≤ vf ∧ vf ≤ 52596000
  u : vf + 60 ≤ vt ∧ vt ≤ 52596000 ∧ vt - vf ≤ 2160
  len : xs.length ≤ 10
  all : ∀ c ∈ xs, ChP vf vt c
theorem taf_p {a0 : ByteArray} {a1 vf vt d s v : Int} {w c : ByteArray} {b : Int} {xs : List Ch} (h : tafV a0 a1 vf vt d s v w c b xs = true) : TafP vf vt xs := by
  have hlen := taf_len h
  simp only [tafV, Bool.and_eq_true, Bool.not_eq_true', Bool.not_eq_false', decide_eq_false_iff_not, decide_eq_true_eq] at h
  obtain ⟨h1, h2, h3, h4, h5, h6, h7, h8, h9, h10⟩ := h
  have hs := span_facts h3
  exact ⟨hs.1, by omega, hlen, fun c hc => ch_p (chs_all xs _ _ h10 c hc)⟩
theorem mem_tms (a : Int) : ∀ (xs : List Ch), a ∈ tms xs ↔ ∃ c ∈ xs, a = c.2.1 ∨ (¬ c.1 = 1 ∧ a = c.2.2.1)
  | [] => by simp [tms]
  | c :: cs => by
    have ih := mem_tms a cs
    simp only [tms, List.mem_cons, List.mem_append, ih]
    by_cases h : c.1 = 1
    · simp [h]
    · simp [h, or_assoc]
theorem tms_len : ∀ (xs : List Ch), (tms xs).length ≤ 2 * xs.length
  | [] => by simp [tms]
  | c :: cs => by
    have ih := tms_len cs
    simp only [tms, List.length_cons, List.length_append]
    split <;> simp <;> omega
theorem parts_times {vf vt : Int} {xs : List Ch} (h : TafP vf vt xs) : Lib.compact (([vf, vt] ++ tms xs).mergeSort fun x y => decide (x ≤ y)) = vf :: el (ends vt xs) (vt - vf).toNat (vf + 1) := by
  obtain ⟨hf, hu, hl, hall⟩ := h
  have hs : (([vf, vt] ++ tms xs).mergeSort fun x y => decide (x ≤ y)).Pairwise (· ≤ ·) := by
    have := List.pairwise_mergeSort (le := fun x y : Int => decide (x ≤ y)) (fun a b c h1 h2 => by simp only [decide_eq_true_eq] at *; omega) (fun a b => by simp only [Bool.or_eq_true, decide_eq_true_eq]; omega) ([vf, vt] ++ tms xs)
    exact this.imp fun h => by simpa using h
  obtain ⟨c1, c2⟩ := compact_sorted hs
  refine sorted_ext _ _ c1 (List.pairwise_cons.2 ⟨fun a ha => by have := ((mem_el _ _ _ a).1 ha).1; omega, el_sorted _ _ _⟩) fun a => ?_
  rw [c2, List.mem_mergeSort, List.mem_cons, mem_el, List.mem_append, mem_tms]
  simp only [List.mem_cons, List.not_mem_nil, or_false, ends, Bool.or_eq_true, decide_eq_true_eq, List.any_eq_true, hit]
  constructor
  · rintro ((rfl | rfl) | ⟨c, hc, h⟩)
    · exact .inl rfl
    · exact .inr ⟨by omega, by omega, .inl rfl⟩
    · obtain ⟨p1, p2, p3⟩ := hall c hc
      rcases h with rfl | ⟨hk, rfl⟩
      · by_cases e : c.2.1 = vf
        · exact .inl e
        · exact .inr ⟨by omega, by omega, .inr ⟨c, hc, .inl rfl⟩⟩
      · have := p3 hk
        exact .inr ⟨by omega, by omega, .inr ⟨c, hc, .inr rfl⟩⟩
  · rintro (rfl | ⟨h1, h2, h⟩)
    · exact .inl (.inl rfl)
    · rcases h with rfl | ⟨c, hc, h⟩
      · exact .inl (.inr rfl)
      · refine .inr ⟨c, hc, ?_⟩
        obtain ⟨p1, p2, p3⟩ := hall c hc
        rcases h with rfl | h
        · exact .inl rfl
        · subst h
          by_cases hk : c.1 = 1
          · have := p2 hk; omega
          · exact .inr ⟨hk, rfl⟩
def partsV (a0 : ByteArray) (a1 vf vt d s v : Int) (w c : ByteArray) (b : Int) (xs : List Ch) : List (Int × Int) :=
  if tafV a0 a1 vf vt d s v w c b xs = true then spans vf (el (ends vt xs) (vt - vf).toNat (vf + 1)) else []
theorem parts_len (a0 : ByteArray) (a1 vf vt d s v : Int) (w c : ByteArray) (b : Int) (xs : List Ch) : (partsV a0 a1 vf vt d s v w c b xs).length ≤ 2160 := by
  unfold partsV
  split
  · rename_i h
    have hp := (taf_p h).u
    have := el_len (ends vt xs) (vt - vf).toNat (vf + 1)
    rw [spans_len]; omega
  · simp
theorem spec_Parts_eq (a0 : ByteArray) (a1 vf vt d s v : Int) (w c : ByteArray) (b : Int) (xs : List Ch) : spec_Parts a0 a1 vf vt d s v w c b xs = some (partsV a0 a1 vf vt d s v w c b xs) := by
  refine evF_eq ?_
  unfold spec_Parts_F partsV
  simp only [spec_TafOk_eq, Option.bind_some]
  cases h : tafV a0 a1 vf vt d s v w c b xs with
  | false => exact ev_eq (ev_now _) (by simp)
  | true =>
    obtain ⟨hf, hu, hl, hall⟩ := taf_p h
    simp only [Bool.not_true, cond_false, if_true]
    rw [w64 (n := vf + 1) (by omega) (by omega)]
    exact ev_eq (spec_out a0 a1 vf vt d s v w c b xs hl hu.2.1 (vt - vf).toNat (vf + 1) vf [] (by omega) (by omega) (by simp; omega)) (by simp)
theorem impl_Parts_eq (a0 : ByteArray) (a1 vf vt d s v : Int) (w c : ByteArray) (b : Int) (xs : List Ch) : impl_Parts a0 a1 vf vt d s v w c b xs = some (partsV a0 a1 vf vt d s v w c b xs) := by
  refine evF_eq ?_
  unfold impl_Parts_F partsV
  simp only [impl_TafOk_eq, Option.bind_some]
  cases h : tafV a0 a1 vf vt d s v w c b xs with
  | false => exact ev_eq (ev_now _) (by simp)
  | true =>
    have hp := taf_p h
    obtain ⟨hf, hu, hl, hall⟩ := taf_p h
    have ht := tms_len xs
    have hel := el_len (ends vt xs) (vt - vf).toNat (vf + 1)
    simp only [Bool.not_true, cond_false, if_true]
    refine impl_loop xs hl _ xs.length 0 [vf, vt] (by omega) (by omega) (by simp) ?_
    rw [List.drop_zero]
    have hlen : ([vf, vt] ++ tms xs).length ≤ 22 := by simp; omega
    have e1 : dClone ([vf, vt] ++ tms xs) = some ([vf, vt] ++ tms xs) := by
      unfold dClone
      simp only [show ([vf, vt] ++ tms xs).length ≤ 17592186044416 by omega, decide_true, Bool.not_true, Bool.or_false, show ([vf, vt] ++ tms xs).isEmpty = false from rfl, cond_false]
    have e2 : dSort ([vf, vt] ++ tms xs) = some (([vf, vt] ++ tms xs).mergeSort fun x y => decide (x ≤ y)) := by
      unfold dSort
      simp only [show ([vf, vt] ++ tms xs).length < 4611686018427387904 by omega, decide_true, Bool.not_true, Bool.or_false, show ([vf, vt] ++ tms xs).isEmpty = false from rfl, cond_false]
    have hne : (([vf, vt] ++ tms xs).mergeSort fun x y => decide (x ≤ y)).isEmpty = false := by
      rw [List.isEmpty_eq_false_iff_exists_mem]
      exact ⟨vf, List.mem_mergeSort.2 (by simp)⟩
    have hml : (([vf, vt] ++ tms xs).mergeSort fun x y => decide (x ≤ y)).length ≤ 9223372036854775807 := by rw [List.length_mergeSort]; omega
    have e3 : dCompact (([vf, vt] ++ tms xs).mergeSort fun x y => decide (x ≤ y)) = some (vf :: el (ends vt xs) (vt - vf).toNat (vf + 1)) := by
      unfold dCompact
      rw [hne, parts_times hp]
      simp only [hml, decide_true, Bool.not_true, Bool.or_false, cond_false]
    simp only [impl_sorted, e1, e2, e3, Option.bind_some]
    exact impl_tail _ (by simp only [List.length_cons]; omega) _ 0 [] rfl (by simp) (by simp)
end Go.Proofs.YtmcmkdiefpepnaaDoor.PA
