/-
  Part of a proof by the engine: texts that a program of ours printed, or plain lemmas on them. No condition but what each theorem says.
-/
import Derived.Test.YtmcmkdiefpepnaaDoorSAP3
set_option linter.unusedVariables false
set_option linter.unusedSimpArgs false
namespace Go.Proofs.YtmcmkdiefpepnaaDoor.SA
open Go Go.Eng
def mayAt (t : Int) (s : Sk) : List Ch → List Sk
  | [] => []
  | c :: cs => if c.1 ≠ 1 ∧ c.2.1 ≤ t ∧ t < c.2.2.1 then laidV s c.2.2.2 :: mayAt t s cs else mayAt t s cs
def stepS (t : Int) (s : Sk) (c : Ch) : Sk := if c.1 = 1 ∧ c.2.1 ≤ t then c.2.2.2 else if c.1 = 2 ∧ c.2.2.1 ≤ t then laidV s c.2.2.2 else s
theorem mb64 : maxBytes / 64 = 2199023255552 := by decide
abbrev Res8 : Type := Int × Int × Int × ByteArray × ByteArray × Int × Bool × List Sk
def res8 (s : Sk) (l : List Sk) : Res8 := (s.1, s.2.1, s.2.2.1, s.2.2.2.1, s.2.2.2.2.1, s.2.2.2.2.2, true, l)
theorem impl_may_loop (t : Int) (xs : List Ch) (z0 z1 z2 : Int) (z3 z4 : ByteArray) (z5 : Int) (s : Sk) (hx : xs.length ≤ 10) : ∀ (m n : Nat) (l : List Sk), xs.length - n = m → n ≤ xs.length → l.length ≤ n →
    Ev (fun k => impl_StateAt_L14 k t xs (xs.length : Int) (n : Int) z0 z1 z2 z3 z4 z5 s.1 s.2.1 s.2.2.1 s.2.2.2.1 s.2.2.2.2.1 s.2.2.2.2.2 l) (res8 s (l ++ mayAt t s (xs.drop n))) := by
  intro m
  induction m with
  | zero =>
    intro n l hm hn hl
    obtain rfl : n = xs.length := by omega
    apply ev_succ
    simp only [impl_StateAt_L14, Int.lt_irrefl, decide_false, cond_false]
    rw [List.drop_eq_nil_of_le (Nat.le_refl _)]
    exact ev_eq (ev_now _) (by simp [res8, mayAt])
  | succ m ih =>
    intro n l hm hn hl
    have hlt : n < xs.length := by omega
    rw [drop_cons hlt]
    apply ev_succ
    simp only [impl_StateAt_L14, show (n : Int) < (xs.length : Int) by omega, show (0 : Int) ≤ (n : Int) by omega, decide_true, cond_true, rd_nat (k := K9_0) hlt, wsucc (show n < 9223372036854775807 by omega), impl_Laid_eq, Option.bind_some, List.length_singleton, mb64, show l.length + 1 ≤ 2199023255552 by omega, bneI]
    generalize xs[n] = c
    simp only [mayAt]
    by_cases h1 : c.1 = 1
    · simp only [h1, decide_true, Bool.not_true, cond_false, ne_eq, not_true_eq_false, false_and, if_false]
      exact ih (n + 1) l (by omega) (by omega) (by omega)
    · by_cases h2 : c.2.1 ≤ t
      · by_cases h3 : t < c.2.2.1
        · simp only [h1, h2, h3, decide_false, decide_true, Bool.not_false, cond_true, ne_eq, not_false_eq_true, and_self, if_true]
          have := ih (n + 1) (l ++ [laidV s c.2.2.2]) (by omega) (by omega) (by simp; omega)
          rw [List.append_assoc, List.singleton_append] at this
          exact this
        · simp only [h1, h2, h3, decide_false, decide_true, Bool.not_false, cond_true, cond_false, and_false, if_false]
          exact ih (n + 1) l (by omega) (by omega) (by omega)
      · simp only [h1, h2, decide_false, Bool.not_false, cond_true, cond_false, false_and, and_false, if_false]
        exact ih (n + 1) l (by omega) (by omega) (by omega)
theorem impl_sky_loop (t : Int) (xs : List Ch) (y0 : ByteArray) (y1 y2 y3 y4 y5 y6 : Int) (y7 y8 : ByteArray) (y9 : Int) (z0 z1 z2 : Int) (z3 z4 : ByteArray) (z5 : Int) (hx : xs.length ≤ 10) : ∀ (m n : Nat) (s : Sk), xs.length - n = m → n ≤ xs.length →
    Ev (fun k => impl_StateAt_L5 k t xs (xs.length : Int) (n : Int) y0 y1 y2 y3 y4 y5 y6 y7 y8 y9 xs z0 z1 z2 z3 z4 z5 s.1 s.2.1 s.2.2.1 s.2.2.2.1 s.2.2.2.2.1 s.2.2.2.2.2) (res8 ((xs.drop n).foldl (stepS t) s) (mayAt t ((xs.drop n).foldl (stepS t) s) xs)) := by
  intro m
  induction m with
  | zero =>
    intro n s hm hn
    obtain rfl : n = xs.length := by omega
    apply ev_succ
    simp only [impl_StateAt_L5, Int.lt_irrefl, decide_false, cond_false]
    rw [List.drop_eq_nil_of_le (Nat.le_refl _)]
    exact impl_may_loop t xs z0 z1 z2 z3 z4 z5 s hx xs.length 0 [] (by omega) (by omega) (by simp)
  | succ m ih =>
    intro n s hm hn
    have hlt : n < xs.length := by omega
    have ih' := fun s' => ih (n + 1) s' (by omega) (by omega)
    rw [drop_cons hlt]
    apply ev_succ
    simp only [impl_StateAt_L5, show (n : Int) < (xs.length : Int) by omega, show (0 : Int) ≤ (n : Int) by omega, decide_true, cond_true, rd_nat (k := K9_0) hlt, wsucc (show n < 9223372036854775807 by omega), impl_Laid_eq, Option.bind_some, beqI]
    generalize xs[n] = c
    simp only [List.foldl_cons, stepS]
    by_cases h1 : c.1 = 1
    · simp only [h1, decide_true, cond_true, show ¬ (1 : Int) = 2 by omega, decide_false, cond_false, true_and, false_and, if_false]
      by_cases h2 : c.2.1 ≤ t
      · simp only [h2, decide_true, cond_true, if_true]; exact ih' _
      · simp only [h2, decide_false, cond_false, if_false]; exact ih' s
    · simp only [h1, decide_false, cond_false, false_and, if_false]
      by_cases h2 : c.1 = 2
      · by_cases h3 : c.2.2.1 ≤ t
        · simp only [h2, h3, decide_true, cond_true, and_self, if_true]; exact ih' _
        · simp only [h2, h3, decide_true, decide_false, cond_true, cond_false, and_false, if_false]; exact ih' s
      · simp only [h2, decide_false, cond_false, false_and, if_false]; exact ih' s
def stateV (a0 : ByteArray) (a1 vf vt d s v : Int) (w c : ByteArray) (b : Int) (xs : List Ch) (t : Int) : Res8 :=
  if tafV a0 a1 vf vt d s v w c b xs = true ∧ vf ≤ t ∧ t < vt then res8 (xs.foldl (stepS t) (d, s, v, w, c, b)) (mayAt t (xs.foldl (stepS t) (d, s, v, w, c, b)) xs)
  else (0, 0, 0, bs [], bs [], 0, false, [])
theorem taf_len {a0 : ByteArray} {a1 vf vt d s v : Int} {w c : ByteArray} {b : Int} {xs : List Ch} (h : tafV a0 a1 vf vt d s v w c b xs = true) : xs.length ≤ 10 := by
  simp only [tafV, Bool.and_eq_true, Bool.not_eq_true', decide_eq_false_iff_not] at h
  have := h.2.2.2.2.2.2.2.2.1
  omega
theorem impl_StateAt_eq (a0 : ByteArray) (a1 vf vt d s v : Int) (w c : ByteArray) (b : Int) (xs : List Ch) (t : Int) : impl_StateAt a0 a1 vf vt d s v w c b xs t = some (stateV a0 a1 vf vt d s v w c b xs t) := by
  refine evF_eq ?_
  unfold impl_StateAt_F stateV
  simp only [impl_TafOk_eq, Option.bind_some]
  cases h : tafV a0 a1 vf vt d s v w c b xs with
  | false => exact ev_eq (ev_now _) (by simp)
  | true =>
    simp only [Bool.not_true, cond_false, true_and]
    by_cases h1 : t < vf
    · simp only [h1, decide_true, cond_true]; exact ev_eq (ev_now _) (by rw [if_neg (by omega)])
    · by_cases h2 : t ≥ vt
      · simp only [h1, h2, decide_true, decide_false, cond_true, cond_false]; exact ev_eq (ev_now _) (by rw [if_neg (by omega)])
      · simp only [h1, h2, decide_false, cond_false]
        rw [if_pos (by omega)]
        exact impl_sky_loop t xs a0 a1 vf vt d s v w c b 0 0 0 (bs []) (bs []) 0 (taf_len h) xs.length 0 (d, s, v, w, c, b) (by omega) (by omega)
theorem spec_may_loop (t : Int) (xs : List Ch) (y0 : ByteArray) (y1 y2 y3 y4 y5 y6 : Int) (y7 y8 : ByteArray) (y9 : Int) (z0 z1 z2 : Int) (z3 z4 : ByteArray) (z5 : Int) (s : Sk) (hx : xs.length ≤ 10) : ∀ (m n : Nat) (l : List Sk), xs.length - n = m → n ≤ xs.length → l.length ≤ n →
    Ev (fun k => spec_StateAt_L14 k t (n : Int) y0 y1 y2 y3 y4 y5 y6 y7 y8 y9 xs z0 z1 z2 z3 z4 z5 l s.1 s.2.1 s.2.2.1 s.2.2.2.1 s.2.2.2.2.1 s.2.2.2.2.2) (res8 s (l ++ mayAt t s (xs.drop n))) := by
  intro m
  induction m with
  | zero =>
    intro n l hm hn hl
    obtain rfl : n = xs.length := by omega
    apply ev_succ
    simp only [spec_StateAt_L14, Int.lt_irrefl, decide_false, cond_false]
    rw [List.drop_eq_nil_of_le (Nat.le_refl _)]
    exact ev_eq (ev_now _) (by simp [res8, mayAt])
  | succ m ih =>
    intro n l hm hn hl
    have hlt : n < xs.length := by omega
    rw [drop_cons hlt]
    apply ev_succ
    simp only [spec_StateAt_L14, show (n : Int) < (xs.length : Int) by omega, show (0 : Int) ≤ (n : Int) by omega, decide_true, cond_true, rd_nat (k := K9_0) hlt, wsucc (show n < 9223372036854775807 by omega), spec_Laid_eq, Option.bind_some, List.length_singleton, mb64, show l.length + 1 ≤ 2199023255552 by omega, bneI]
    generalize xs[n] = c
    simp only [mayAt]
    by_cases h1 : c.1 = 1
    · simp only [h1, decide_true, Bool.not_true, cond_false, ne_eq, not_true_eq_false, false_and, if_false]
      exact ih (n + 1) l (by omega) (by omega) (by omega)
    · by_cases h2 : c.2.1 ≤ t
      · by_cases h3 : t < c.2.2.1
        · simp only [h1, h2, h3, decide_false, decide_true, Bool.not_false, cond_true, ne_eq, not_false_eq_true, and_self, if_true]
          have := ih (n + 1) (l ++ [laidV s c.2.2.2]) (by omega) (by omega) (by simp; omega)
          rw [List.append_assoc, List.singleton_append] at this
          exact this
        · simp only [h1, h2, h3, decide_false, decide_true, Bool.not_false, cond_true, cond_false, and_false, if_false]
          exact ih (n + 1) l (by omega) (by omega) (by omega)
      · simp only [h1, h2, decide_false, Bool.not_false, cond_true, cond_false, false_and, and_false, if_false]
        exact ih (n + 1) l (by omega) (by omega) (by omega)
theorem spec_sky_loop (t : Int) (xs : List Ch) (y0 : ByteArray) (y1 y2 y3 y4 y5 y6 : Int) (y7 y8 : ByteArray) (y9 : Int) (z0 z1 z2 : Int) (z3 z4 : ByteArray) (z5 : Int) (hx : xs.length ≤ 10) : ∀ (m n : Nat) (s : Sk), xs.length - n = m → n ≤ xs.length →
    Ev (fun k => spec_StateAt_L6 k t (n : Int) y0 y1 y2 y3 y4 y5 y6 y7 y8 y9 xs z0 z1 z2 z3 z4 z5 [] s.1 s.2.1 s.2.2.1 s.2.2.2.1 s.2.2.2.2.1 s.2.2.2.2.2) (res8 ((xs.drop n).foldl (stepS t) s) (mayAt t ((xs.drop n).foldl (stepS t) s) xs)) := by
  intro m
  induction m with
  | zero =>
    intro n s hm hn
    obtain rfl : n = xs.length := by omega
    apply ev_succ
    simp only [spec_StateAt_L6, Int.lt_irrefl, decide_false, cond_false]
    rw [List.drop_eq_nil_of_le (Nat.le_refl _)]
    exact spec_may_loop t xs y0 y1 y2 y3 y4 y5 y6 y7 y8 y9 z0 z1 z2 z3 z4 z5 s hx xs.length 0 [] (by omega) (by omega) (by simp)
  | succ m ih =>
    intro n s hm hn
    have hlt : n < xs.length := by omega
    have ih' := fun s' => ih (n + 1) s' (by omega) (by omega)
    rw [drop_cons hlt]
    apply ev_succ
    simp only [spec_StateAt_L6, show (n : Int) < (xs.length : Int) by omega, show (0 : Int) ≤ (n : Int) by omega, decide_true, cond_true, rd_nat (k := K9_0) hlt, wsucc (show n < 9223372036854775807 by omega), spec_Laid_eq, Option.bind_some, beqI]
    generalize xs[n] = c
    simp only [List.foldl_cons, stepS]
    by_cases h1 : c.1 = 1
    · simp only [h1, decide_true, cond_true, show ¬ (1 : Int) = 2 by omega, decide_false, cond_false, true_and, false_and, if_false]
      by_cases h2 : c.2.1 ≤ t
      · simp only [h2, decide_true, cond_true, if_true]; exact ih' _
      · simp only [h2, decide_false, cond_false, if_false]; exact ih' s
    · simp only [h1, decide_false, cond_false, false_and, if_false]
      by_cases h2 : c.1 = 2
      · by_cases h3 : c.2.2.1 ≤ t
        · simp only [h2, h3, decide_true, cond_true, and_self, if_true]; exact ih' _
        · simp only [h2, h3, decide_true, decide_false, cond_true, cond_false, and_false, if_false]; exact ih' s
      · simp only [h2, decide_false, cond_false, false_and, if_false]; exact ih' s
theorem spec_StateAt_eq (a0 : ByteArray) (a1 vf vt d s v : Int) (w c : ByteArray) (b : Int) (xs : List Ch) (t : Int) : spec_StateAt a0 a1 vf vt d s v w c b xs t = some (stateV a0 a1 vf vt d s v w c b xs t) := by
  refine evF_eq ?_
  unfold spec_StateAt_F stateV
  simp only [spec_TafOk_eq, Option.bind_some]
  cases h : tafV a0 a1 vf vt d s v w c b xs with
  | false => exact ev_eq (ev_now _) (by simp)
  | true =>
    simp only [Bool.not_true, cond_false, true_and]
    by_cases h1 : t < vf
    · simp only [h1, decide_true, cond_true]; exact ev_eq (ev_now _) (by rw [if_neg (by omega)])
    · by_cases h2 : t ≥ vt
      · simp only [h1, h2, decide_true, decide_false, cond_true, cond_false]; exact ev_eq (ev_now _) (by rw [if_neg (by omega)])
      · simp only [h1, h2, decide_false, cond_false]
        rw [if_pos (by omega)]
        exact spec_sky_loop t xs a0 a1 vf vt d s v w c b 0 0 0 (bs []) (bs []) 0 (taf_len h) xs.length 0 (d, s, v, w, c, b) (by omega) (by omega)
end Go.Proofs.YtmcmkdiefpepnaaDoor.SA
