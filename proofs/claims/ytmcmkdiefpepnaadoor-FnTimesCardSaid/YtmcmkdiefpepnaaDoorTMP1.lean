/-
  Part of a proof by the engine: texts that a program of ours printed, or plain lemmas on them. No condition but what each theorem says.
-/
import Derived.Test.YtmcmkdiefpepnaaDoorTM
import Derived.Test.YtmcmkdiefpepnaaDoorDTP1
set_option linter.unusedVariables false
set_option linter.unusedSimpArgs false
namespace Go.Proofs.YtmcmkdiefpepnaaDoor.TM
open Go Go.Eng Go.Proofs.YtmcmkdiefpepnaaDoor.DT Go.Proofs.YtmcmkdiefpepnaaDoor.EX
/-! ### draws: from bytes something is drawn -/
structure Bytes (xs : List Int) : Prop where
  len : xs.length ≤ 1048576
  b : ∀ x ∈ xs, 0 ≤ x ∧ x ≤ 255
def At (xs : List Int) (p : Int) : Prop := 0 ≤ p ∧ p ≤ xs.length
theorem next_ok {xs : List Int} {p : Int} (hx : Bytes xs) (hp : At xs p) : ∃ v q, spec_l1Rd_next xs p = some (v, xs, q) ∧ (0 ≤ v ∧ v ≤ 255) ∧ At xs q := by
  obtain ⟨h1, h2⟩ := hp
  have hl := hx.len
  unfold spec_l1Rd_next
  by_cases h : p ≥ (xs.length : Int)
  · exact ⟨0, p, by simp only [h, decide_true, cond_true], by omega, h1, h2⟩
  · have hn : p.toNat < xs.length := by omega
    have e0 : IntKind.i64.wrap (p + 1) = p + 1 := w64 (by omega) (by omega)
    have e : IntKind.i64.wrap (p + 1 - 1) = (p.toNat : Int) := by rw [w64 (by omega) (by omega)]; omega
    have hb := hx.b _ (List.getElem_mem hn)
    have r1 : rd (Kind.int IntKind.u8) xs (p.toNat : Int) = xs[p.toNat] := rd_nat (k := .int .u8) hn
    refine ⟨xs[p.toNat], p + 1, ?_, hb, by omega, by omega⟩
    simp only [h, e0, e, r1, show (0 : Int) ≤ (p.toNat : Int) by omega, show (p.toNat : Int) < (xs.length : Int) by omega, decide_true, decide_false, cond_true, cond_false, w64 (n := xs[p.toNat]) (by omega) (by omega)]
theorem below_ok {xs : List Int} {p : Int} (n : Int) (hn : n ≤ 65536) (hx : Bytes xs) (hp : At xs p) : ∃ v q, spec_l1Rd_below n xs p = some (v, xs, q) ∧ (0 ≤ v ∧ (1 < n → v < n)) ∧ At xs q := by
  unfold spec_l1Rd_below
  by_cases h1 : n ≤ 1
  · exact ⟨0, p, by simp only [h1, decide_true, cond_true], by omega, hp⟩
  · obtain ⟨v, q, e, hv, hq⟩ := next_ok hx hp
    have hn0 : ¬ n = 0 := by omega
    by_cases h2 : n ≤ 256
    · refine ⟨v.tmod n, q, by simp only [h1, h2, hn0, e, decide_true, decide_false, cond_true, cond_false, Option.bind_some, Bool.not_false], ⟨Int.tmod_nonneg _ hv.1, fun _ => Int.tmod_lt_of_pos _ (by omega)⟩, hq⟩
    · obtain ⟨u, r, e', hu, hr⟩ := next_ok hx hq
      refine ⟨(v * 256 + u).tmod n, r, ?_, ⟨Int.tmod_nonneg _ (by omega), fun _ => Int.tmod_lt_of_pos _ (by omega)⟩, hr⟩
      simp only [h1, h2, hn0, e, e', decide_true, decide_false, cond_true, cond_false, Option.bind_some, Bool.not_false, w64 (n := v * 256) (by omega) (by omega), w64 (n := v * 256 + u) (by omega) (by omega)]
theorem word_loop {xs : List Int} (hx : Bytes xs) : ∀ (m i : Nat) (a p : Int), 8 - i = m → i ≤ 8 → At xs p → ∃ v q, Ev (fun k => spec_l1Rd_word_L3 k a (i : Int) xs p) (v, xs, q) ∧ At xs q := by
  intro m
  induction m with
  | zero =>
    intro i a p hm hi hp
    obtain rfl : i = 8 := by omega
    refine ⟨a, p, ev_succ ?_, hp⟩
    simp only [spec_l1Rd_word_L3, show ¬ ((8 : Nat) : Int) < 8 by omega, decide_false, cond_false]
    exact ev_now _
  | succ m ih =>
    intro i a p hm hi hp
    obtain ⟨v, q, e, hv, hq⟩ := next_ok hx hp
    obtain ⟨u, r, e', hr⟩ := ih (i + 1) (IntKind.u64.wrap (((BitVec.ofInt IntKind.u64.bits (IntKind.u64.wrap (a * 2 ^ min (Int.toNat 8) IntKind.u64.bits)) ||| BitVec.ofInt IntKind.u64.bits (IntKind.u64.wrap v)).toNat : Nat) : Int)) q (by omega) (by omega) hq
    refine ⟨u, r, ev_succ ?_, hr⟩
    simp only [spec_l1Rd_word_L3, show (i : Int) < 8 by omega, decide_true, cond_true, e, Option.bind_some, wsucc (show i < 9223372036854775807 by omega)]
    exact e'
theorem word_ok {xs : List Int} {p : Int} (hx : Bytes xs) (hp : At xs p) : ∃ v q, spec_l1Rd_word xs p = some (v, xs, q) ∧ At xs q := by
  obtain ⟨v, q, e, hq⟩ := word_loop hx 8 0 0 p (by omega) (by omega) hp
  exact ⟨v, q, evF_eq e, hq⟩
theorem time_ok {xs : List Int} {p : Int} (hx : Bytes xs) (hp : At xs p) : ∃ v q, spec_l1Rd_time xs p = some (v, xs, q) ∧ At xs q := by
  unfold spec_l1Rd_time
  obtain ⟨v, q, e, hv, hq⟩ := below_ok 6 (by omega) hx hp
  simp only [e, Option.bind_some, beqI]
  obtain ⟨a, r, ea, _, hr⟩ := below_ok 3000 (by omega) hx hq
  obtain ⟨b, r', eb, hr'⟩ := word_ok hx hq
  obtain ⟨c, r'', ec, _, hr''⟩ := below_ok 60000 (by omega) hx hq
  by_cases h0 : v = 0
  · exact ⟨a, r, by simp [h0, ea], hr⟩
  · by_cases h1 : v = 1
    · exact ⟨_, r, by simp only [h0, h1, ea, Option.bind_some, decide_true, decide_false, cond_true, cond_false, show ¬ ((1 : Int) = 0) by omega]; rfl, hr⟩
    · by_cases h2 : v = 2
      · exact ⟨_, r', by simp only [h0, h1, h2, eb, Option.bind_some, decide_true, decide_false, cond_true, cond_false, show ¬ ((2 : Int) = 0) by omega, show ¬ ((2 : Int) = 1) by omega]; rfl, hr'⟩
      · exact ⟨_, r'', by simp only [h0, h1, h2, ec, Option.bind_some, decide_true, decide_false, cond_true, cond_false]; rfl, hr''⟩
theorem draw_ok {xs : List Int} (hx : Bytes xs) : ∃ v, spec_DrawStamp xs = some v := by
  have hp : At xs 0 := ⟨Int.le_refl _, by omega⟩
  obtain ⟨v, q, e, hv, hq⟩ := below_ok 12 (by omega) hx hp
  obtain ⟨a, r, ea, ha, hr⟩ := below_ok 6 (by omega) hx hq
  obtain ⟨b, r', eb, hr'⟩ := time_ok hx hq
  have hlen : ((([-1, 52596000, 52596001, 0, 9223372036854775807, -9223372036854775808] : List Int).length : Nat) : Int) = 6 := rfl
  have hlt := ha.2 (by omega)
  unfold spec_DrawStamp spec_l1Open spec_l2DrawTime spec_l1Rd_once
  simp only [Option.bind_some, e]
  cases h : (v == IntKind.i64.wrap (12 - 1)) with
  | true =>
    exact ⟨_, by simp only [cond_true, ea, Option.bind_some, hlen, ha.1, hlt, decide_true]; rfl⟩
  | false =>
    exact ⟨_, by simp only [cond_false, eb, Option.bind_some]; rfl⟩
/-! ### the time of a date -/
theorem timeOf_eq (t j : Nat) (ht : t ≤ 52596000) (hj : Sm j ≤ t / 1440 ∧ t / 1440 < Sm (j + 1)) :
    impl_TimeOf (2000 + ((j / 12 : Nat) : Int)) (((j % 12 : Nat) : Int) + 1) (((t / 1440 - Sm j : Nat) : Int) + 1) ((t / 60 % 24 : Nat) : Int) ((t % 60 : Nat) : Int) = some ((t : Int), true) := by
  have hj' := month_le hj.1 (by omega)
  unfold impl_TimeOf
  simp only [beqI, in_eq, Option.bind_some]
  by_cases h12 : j = 1200
  · subst h12
    have hs := Sm_1200
    rw [hs] at hj ⊢
    have e : t = 52596000 := by omega
    subst e
    rfl
  · have hne : ¬ (2000 + ((j / 12 : Nat) : Int) = 2100) := by omega
    have hm := days_impl (j / 12) (j % 12) (by omega)
    rw [show 12 * (j / 12) + j % 12 = j by omega] at hm
    have hm2 : Sm (j + 1) = Sm j + ml j := rfl
    have hd : ((t / 1440 - Sm j : Nat) : Int) + 1 ≤ ((ml j : Nat) : Int) := by
      generalize Sm j = s at *
      omega
    have hml := ml_pos j
    have hto := daysTo_eq (j / 12) (j % 12 + 1) (((t / 1440 - Sm j : Nat) : Int) + 1) (by omega) (by omega) (by
      generalize Sm j = s at *
      omega)
    rw [show 12 * (j / 12) + (j % 12 + 1 - 1) = j by omega, show ((j % 12 + 1 : Nat) : Int) = ((j % 12 : Nat) : Int) + 1 by omega] at hto
    simp only [hne, hm, hd, hto, decide_true, decide_false, Bool.false_and, cond_false, show (2000 : Int) ≤ 2000 + ((j / 12 : Nat) : Int) by omega, show 2000 + ((j / 12 : Nat) : Int) ≤ 2099 by omega, show (1 : Int) ≤ ((j % 12 : Nat) : Int) + 1 by omega, show ((j % 12 : Nat) : Int) + 1 ≤ 12 by omega,
      show (1 : Int) ≤ ((t / 1440 - Sm j : Nat) : Int) + 1 by omega, show (0 : Int) ≤ ((t / 60 % 24 : Nat) : Int) by omega, show ((t / 60 % 24 : Nat) : Int) ≤ 23 by omega, show (0 : Int) ≤ ((t % 60 : Nat) : Int) by omega, show ((t % 60 : Nat) : Int) ≤ 59 by omega, Bool.and_self, Bool.not_true, Option.bind_some]
    have hb := Sm_bound (i := j) (by omega)
    have e1 : ((Sm j : Nat) : Int) + (((t / 1440 - Sm j : Nat) : Int) + 1) - 1 = ((t / 1440 : Nat) : Int) := by
      generalize Sm j = s at *
      omega
    rw [e1, w64 (n := ((t / 1440 : Nat) : Int) * 1440) (by omega) (by omega), w64 (n := ((t / 60 % 24 : Nat) : Int) * 60) (by omega) (by omega), w64 (n := ((t / 1440 : Nat) : Int) * 1440 + _) (by omega) (by omega), w64 (by omega) (by omega)]
    congr 2
    omega
end Go.Proofs.YtmcmkdiefpepnaaDoor.TM
