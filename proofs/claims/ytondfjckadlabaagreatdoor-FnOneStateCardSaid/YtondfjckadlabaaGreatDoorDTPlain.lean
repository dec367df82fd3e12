/-
  Part of a proof by the engine: texts that a program of ours printed, or plain lemmas on them. No condition but what each theorem says.
-/
import Derived.Test.YtondfjckadlabaaGreatDoorDT
import Derived.Test.YtondfjckadlabaaGreatDoorCal
set_option linter.unusedVariables false
set_option linter.unusedSimpArgs false
namespace Go.Proofs.YtondfjckadlabaaGreatDoor.DT
open Go Go.Eng Go.Proofs.YtondfjckadlabaaGreatDoor.EX
def isDig (c : UInt8) : Bool := decide (48 ≤ c.toNat) && decide (c.toNat ≤ 57)
theorem digits_loop (s : ByteArray) (hs : s.size ≤ 9223372036854775807) : ∀ (m n : Nat), s.size - n = m → n ≤ s.size →
    Ev (fun k => impl_digits_L2 k s (n : Int)) (((L s).drop n).all isDig && decide (0 < s.size)) := by
  intro m
  induction m with
  | zero =>
    intro n hm hn
    obtain rfl : n = s.size := by omega
    apply ev_succ
    simp only [impl_digits_L2, Int.lt_irrefl, decide_false, cond_false]
    rw [List.drop_eq_nil_of_le (by rw [L_length]; omega)]
    exact ev_eq (ev_now _) (by simp)
  | succ m ih =>
    intro n hm hn
    have h1 : (n : Int) < (s.size : Int) := by omega
    have h2 : (0 : Int) ≤ (n : Int) := by omega
    have hl : n < (L s).length := by rw [L_length]; omega
    apply ev_succ
    simp only [impl_digits_L2, h1, h2, decide_true, cond_true, wsucc (show n < 9223372036854775807 by omega), bt_nat, List.getD, List.getElem?_eq_getElem hl, Option.getD_some]
    rw [drop_cons hl, List.all_cons]
    by_cases c1 : ((L s)[n].toNat : Int) < 48
    · simp only [c1, decide_true, cond_true]
      exact ev_eq (ev_now _) (by simp [isDig]; omega)
    · by_cases c2 : ((L s)[n].toNat : Int) > 57
      · simp only [c1, c2, decide_true, decide_false, cond_true, cond_false]
        exact ev_eq (ev_now _) (by simp [isDig]; omega)
      · simp only [c1, c2, decide_false, cond_false]
        have hd : isDig (L s)[n] = true := by simp [isDig]; omega
        rw [hd, Bool.true_and]
        exact ih (n + 1) (by omega) (by omega)
theorem impl_digits_eq {s : ByteArray} (hs : s.size ≤ 9223372036854775807) : impl_digits s = some ((L s).all isDig && decide (0 < s.size)) := by
  refine evF_eq ?_
  have := digits_loop s hs s.size 0 (by omega) (by omega)
  simpa [impl_digits_F] using this
theorem in_eq (a b c : Int) : impl_in a b c = some (decide (b ≤ a) && decide (a ≤ c)) := by
  unfold impl_in
  by_cases h : a ≥ b
  · simp [h]
  · simp [h]
theorem l2Time_eq (t : Int) : spec_l2Time t = some (decide (0 ≤ t) && decide (t ≤ 52596000)) := by
  unfold spec_l2Time
  by_cases h : t ≥ 0 <;> simp [h]
theorem isTime_eq (t : Int) : impl_isTime t = some (decide (0 ≤ t) && decide (t ≤ 52596000)) := by
  simp [impl_isTime, in_eq]
/-! ### numbers -/
theorem itoa_len {n : Int} (h0 : -9223372036854775808 ≤ n) (h1 : n ≤ 9223372036854775807) : (Lib.itoa n).length ≤ 21 := Lib.itoa_length_le n h0 h1
theorem dec_eq {n : Int} (h0 : -9223372036854775808 ≤ n) (h1 : n ≤ 9223372036854775807) : impl_dec n = some (bs (Lib.itoa n)) := by
  simp [impl_dec, dFmt, h0, h1]
theorem pad_len {n : Int} {w : Nat} (h0 : -9223372036854775808 ≤ n) (h1 : n ≤ 9223372036854775807) : (pad n w).length ≤ 21 + w := by
  have := itoa_len h0 h1
  simp [pad]; omega
theorem fill_eq {n : Int} {w : Nat} (h0 : -9223372036854775808 ≤ n) (h1 : n ≤ 9223372036854775807) (hw : w ≤ 1000) : impl_fill n (w : Int) = some (bs (pad n w)) := by
  have hl := itoa_len h0 h1
  unfold impl_fill
  rw [dec_eq h0 h1, Option.bind_some, size_bs, w64 (by omega) (by omega)]
  have hc : (if (w : Int) - ((Lib.itoa n).length : Int) > 0 then (w : Int) - ((Lib.itoa n).length : Int) else 0) = ((w - (Lib.itoa n).length : Nat) : Int) := by split <;> omega
  rw [hc]
  have hr : dRep (bs [48]) ((w - (Lib.itoa n).length : Nat) : Int) = some (bs (List.replicate (w - (Lib.itoa n).length) 48)) := by
    unfold dRep
    simp only [size_bs, List.length_singleton, Int.toNat_natCast, Nat.one_mul, show (0 : Int) ≤ ((w - (Lib.itoa n).length : Nat) : Int) by omega, show ((w - (Lib.itoa n).length : Nat) : Int) ≤ 9223372036854775807 by omega, show w - (Lib.itoa n).length ≤ 140737488355328 by omega, decide_true, Bool.and_self, cond_true]
    congr 2
    exact repeat_one _
  rw [hr, Option.bind_some]
  simp only [size_bs, List.length_replicate, show w - (Lib.itoa n).length + (Lib.itoa n).length ≤ 9223372036854775807 by omega, decide_true, cond_true]
  congr 1
/-! ### dates -/
theorem days_spec (y k : Nat) (hk : k < 12) (hy : y < 100 ∨ k = 0) : spec_l2Days (2000 + (y : Int)) ((k : Int) + 1) = some ((ml (12 * y + k) : Nat) : Int) := by
  unfold spec_l2Days
  rw [tmod4, ml_at y k hk]
  simp only [beqI, bneI]
  by_cases h1 : k = 1
  · subst h1
    have h2 : ¬ (2000 + (y : Int) = 2100) := by omega
    by_cases h3 : y % 4 = 0
    · simp [h2, h3]
    · simp [h2, h3, show ¬ ((y : Int) % 4) = 0 by omega]
  · simp only [show ¬ ((k : Int) + 1 = 2) by omega, decide_false, cond_false, h1, if_false]
    by_cases h3 : k = 3
    · subst h3; simp
    · by_cases h5 : k = 5
      · subst h5; simp
      · by_cases h8 : k = 8
        · subst h8; simp
        · by_cases h10 : k = 10
          · subst h10; simp
          · simp [h3, h5, h8, h10, show ¬ ((k : Int) + 1 = 4) by omega, show ¬ ((k : Int) + 1 = 6) by omega, show ¬ ((k : Int) + 1 = 9) by omega, show ¬ ((k : Int) + 1 = 11) by omega]
theorem days_impl (y k : Nat) (hk : k < 12) : impl_monthDays (2000 + (y : Int)) ((k : Int) + 1) = some ((ml (12 * y + k) : Nat) : Int) := by
  unfold impl_monthDays impl_leap
  rw [tmod4, ml_at y k hk]
  simp only [beqI, Option.bind_some]
  by_cases h1 : k = 1
  · subst h1
    by_cases h3 : y % 4 = 0
    · simp [h3]
    · simp [h3, show ¬ ((y : Int) % 4) = 0 by omega]
  · simp only [show ¬ ((k : Int) + 1 = 2) by omega, decide_false, cond_false, h1, if_false]
    by_cases h3 : k = 3
    · subst h3; simp
    · by_cases h5 : k = 5
      · subst h5; simp
      · by_cases h8 : k = 8
        · subst h8; simp
        · by_cases h10 : k = 10
          · subst h10; simp
          · simp [h3, h5, h8, h10, show ¬ ((k : Int) + 1 = 4) by omega, show ¬ ((k : Int) + 1 = 6) by omega, show ¬ ((k : Int) + 1 = 9) by omega, show ¬ ((k : Int) + 1 = 11) by omega]
theorem daysTo_loop (y m : Nat) (d : Int) (hy : y ≤ 101) (hm : 1 ≤ m ∧ m ≤ 12) (hd : -100000 ≤ d ∧ d ≤ 100000) : ∀ (n k : Nat), m - k = n → 1 ≤ k → k ≤ m →
    Ev (fun q => impl_daysTo_L3 q (2000 + (y : Int)) (m : Int) d ((Sm (12 * y + (k - 1)) : Nat) : Int) (k : Int)) (((Sm (12 * y + (m - 1)) : Nat) : Int) + d - 1) := by
  intro n
  induction n with
  | zero =>
    intro k hn h1 hk
    obtain rfl : k = m := by omega
    have hb := Sm_bound (i := 12 * y + (k - 1)) (by omega)
    apply ev_succ
    simp only [impl_daysTo_L3, Int.lt_irrefl, decide_false, cond_false]
    refine ev_eq (ev_now _) ?_
    rw [w64 (n := ((Sm (12 * y + (k - 1)) : Nat) : Int) + d) (by omega) (by omega), w64 (by omega) (by omega)]
  | succ n ih =>
    intro k hn h1 hk
    have hb := Sm_bound (i := 12 * y + (k - 1) + 1) (by omega)
    have hdays := days_impl y (k - 1) (by omega)
    rw [show (((k - 1 : Nat) : Int) + 1) = (k : Int) by omega] at hdays
    have e1 : IntKind.i64.wrap (((Sm (12 * y + (k - 1)) : Nat) : Int) + ((ml (12 * y + (k - 1)) : Nat) : Int)) = ((Sm (12 * y + (k + 1 - 1)) : Nat) : Int) := by
      have : Sm (12 * y + (k + 1 - 1)) = Sm (12 * y + (k - 1)) + ml (12 * y + (k - 1)) := by
        rw [show 12 * y + (k + 1 - 1) = 12 * y + (k - 1) + 1 by omega]; rfl
      have h2 : Sm (12 * y + (k - 1) + 1) = Sm (12 * y + (k - 1)) + ml (12 * y + (k - 1)) := rfl
      rw [w64 (by omega) (by omega), this]; omega
    apply ev_succ
    simp only [impl_daysTo_L3, show (k : Int) < (m : Int) by omega, decide_true, cond_true, hdays, Option.bind_some, e1, wsucc (show k < 9223372036854775807 by omega)]
    exact ih (k + 1) (by omega) (by omega) (by omega)
theorem daysTo_eq (y m : Nat) (d : Int) (hy : y ≤ 101) (hm : 1 ≤ m ∧ m ≤ 12) (hd : -100000 ≤ d ∧ d ≤ 100000) :
    impl_daysTo (2000 + (y : Int)) (m : Int) d = some (((Sm (12 * y + (m - 1)) : Nat) : Int) + d - 1) := by
  refine evF_eq ?_
  unfold impl_daysTo_F
  have e : IntKind.i64.wrap ((IntKind.i64.wrap ((IntKind.i64.wrap (2000 + (y : Int) - 2000)) * 365)) + (IntKind.i64.wrap (Int.tdiv (IntKind.i64.wrap ((IntKind.i64.wrap (2000 + (y : Int) - 2000)) + 3)) 4))) = ((Sm (12 * y + (1 - 1)) : Nat) : Int) := by
    rw [show (2000 + (y : Int) - 2000) = (y : Int) by omega, w64 (n := (y : Int)) (by omega) (by omega), w64 (n := (y : Int) * 365) (by omega) (by omega), w64 (n := (y : Int) + 3) (by omega) (by omega), Int.tdiv_eq_ediv_of_nonneg (by omega), w64 (n := ((y : Int) + 3) / 4) (by omega) (by omega), w64 (by omega) (by omega), show 12 * y + (1 - 1) = 12 * y from rfl, Sm_year]
    omega
  rw [e]
  exact daysTo_loop y m d hy hm hd (m - 1) 1 rfl (Nat.le_refl _) hm.1
theorem date_loop (t j : Nat) (z0 z1 z2 z3 z4 : Int) (hj : Sm j ≤ t / 1440 ∧ t / 1440 < Sm (j + 1)) (hj' : j ≤ 1200) : ∀ (n i : Nat), j - i = n → i ≤ j →
    Ev (fun q => spec_DateOf_L5 q ((t / 1440 - Sm i : Nat) : Int) z0 z1 z2 z3 z4 (2000 + ((i / 12 : Nat) : Int)) (((i % 12 : Nat) : Int) + 1) 1 ((t / 60 % 24 : Nat) : Int) ((t % 60 : Nat) : Int)) (dateV t j) := by
  intro n
  have hb1 := Sm_bound (i := j + 1) (by omega)
  induction n with
  | zero =>
    intro i hn hi
    obtain rfl : i = j := by omega
    have hdays := days_spec (i / 12) (i % 12) (by omega) (by omega)
    rw [show 12 * (i / 12) + i % 12 = i by omega] at hdays
    have h2 : Sm (i + 1) = Sm i + ml i := rfl
    apply ev_succ
    simp only [spec_DateOf_L5, hdays, Option.bind_some, show ¬ ((t / 1440 - Sm i : Nat) : Int) ≥ ((ml i : Nat) : Int) by omega, decide_false, cond_false]
    refine ev_eq (ev_now _) ?_
    rw [w64 (by omega) (by omega)]; rfl
  | succ n ih =>
    intro i hn hi
    have hdays := days_spec (i / 12) (i % 12) (by omega) (by omega)
    rw [show 12 * (i / 12) + i % 12 = i by omega] at hdays
    have h2 : Sm (i + 1) = Sm i + ml i := rfl
    have h3 := Sm_mono (show i + 1 ≤ j by omega)
    have hm := ml_pos i
    have := ih (i + 1) (by omega) (by omega)
    have e1 : IntKind.i64.wrap (((t / 1440 - Sm i : Nat) : Int) - ((ml i : Nat) : Int)) = ((t / 1440 - Sm (i + 1) : Nat) : Int) := by rw [w64 (by omega) (by omega)]; omega
    apply ev_succ
    simp only [spec_DateOf_L5, hdays, Option.bind_some, show ((t / 1440 - Sm i : Nat) : Int) ≥ ((ml i : Nat) : Int) by omega, decide_true, cond_true, e1, beqI]
    by_cases h11 : i % 12 = 11
    · have e2 : IntKind.i64.wrap (2000 + ((i / 12 : Nat) : Int) + 1) = 2000 + (((i + 1) / 12 : Nat) : Int) := by rw [w64 (by omega) (by omega)]; omega
      have e3 : (((i + 1) % 12 : Nat) : Int) + 1 = 1 := by omega
      have e4 : IntKind.i64.wrap (((i % 12 : Nat) : Int) + 1 + 1) = 13 := by rw [w64 (by omega) (by omega)]; omega
      simp only [e4, decide_true, cond_true, e2]
      rw [e3] at this; exact this
    · have e2 : (i + 1) / 12 = i / 12 := by omega
      have e3 : IntKind.i64.wrap (((i % 12 : Nat) : Int) + 1 + 1) = (((i + 1) % 12 : Nat) : Int) + 1 := by rw [w64 (by omega) (by omega)]; omega
      simp only [e3, show ¬ ((((i + 1) % 12 : Nat) : Int) + 1 = 13) by omega, decide_false, cond_false]
      rw [e2] at this; exact this
theorem date_spec (t j : Nat) (ht : t ≤ 52596000) (hj : Sm j ≤ t / 1440 ∧ t / 1440 < Sm (j + 1)) : spec_DateOf (t : Int) = some (dateV t j) := by
  refine evF_eq ?_
  have hj' := month_le hj.1 (by omega)
  obtain ⟨e1, e2, e3⟩ := hour_eq t ht
  unfold spec_DateOf_F
  rw [l2Time_eq]
  simp only [show (0 : Int) ≤ (t : Int) by omega, show (t : Int) ≤ 52596000 by omega, decide_true, Bool.and_self, Option.bind_some, Bool.not_true, cond_false, e1, e2, e3]
  exact date_loop t j 0 0 0 0 0 hj hj' j 0 (by omega) (by omega)
theorem date_last (t j m : Nat) (ht : t ≤ 52596000) (hj : Sm j ≤ t / 1440) (hj' : j ≤ 1200) (hm : m = j % 12 + 1) :
    ((impl_daysTo (2000 + ((j / 12 : Nat) : Int)) (m : Int) 1).bind fun val => some (2000 + ((j / 12 : Nat) : Int), (m : Int), IntKind.i64.wrap ((IntKind.i64.wrap (((t / 1440 : Nat) : Int) - val)) + 1), Int.tmod (IntKind.i64.wrap (Int.tdiv (t : Int) 60)) 24, Int.tmod (t : Int) 60, true)) = some (dateV t j) := by
  have hd : t / 1440 ≤ 36525 := by clear hj hm hj'; omega
  have hq : j / 12 ≤ 101 ∧ 1 ≤ m ∧ m ≤ 12 := by clear hj hd ht; omega
  have e0 : 12 * (j / 12) + (m - 1) = j := by clear hj hd ht; omega
  have e5 : (m : Int) = ((j % 12 : Nat) : Int) + 1 := by clear hj hd ht; omega
  have e6 : IntKind.i64.wrap (IntKind.i64.wrap (((t / 1440 : Nat) : Int) - (((Sm j : Nat) : Int) + 1 - 1)) + 1) = ((t / 1440 - Sm j : Nat) : Int) + 1 := by
    generalize t / 1440 = day at hj hd ⊢
    generalize Sm j = s at hj ⊢
    clear e0 e5 hq hm ht
    rw [w64 (n := (day : Int) - _) (by omega) (by omega), w64 (by omega) (by omega)]; omega
  obtain ⟨e1, e2, _⟩ := hour_eq t ht
  rw [daysTo_eq (j / 12) m 1 hq.1 hq.2 ⟨by decide, by decide⟩, Option.bind_some, e0, e1, e2, e6, e5]
  rfl
theorem date_month (t j : Nat) (z0 z1 z2 z3 z4 : Int) (ht : t ≤ 52596000) (hj : Sm j ≤ t / 1440 ∧ t / 1440 < Sm (j + 1)) (hj' : j ≤ 1200) : ∀ (n m : Nat), j % 12 + 1 - m = n → 1 ≤ m → m ≤ j % 12 + 1 →
    Ev (fun q => impl_DateOf_L8 q (t : Int) ((t / 1440 : Nat) : Int) (2000 + ((j / 12 : Nat) : Int)) (m : Int) z0 z1 z2 z3 z4) (dateV t j) := by
  intro n
  induction n with
  | zero =>
    intro m hn h1 hm
    obtain rfl : m = j % 12 + 1 := by omega
    have last := date_last t j (j % 12 + 1) ht hj.1 hj' rfl
    apply ev_succ
    simp only [impl_DateOf_L8]
    by_cases h12 : ((j % 12 + 1 : Nat) : Int) < 12
    · have e4 : IntKind.i64.wrap (((j % 12 + 1 : Nat) : Int) + 1) = ((j % 12 + 2 : Nat) : Int) := by rw [w64 (by omega) (by omega)]; omega
      simp only [h12, decide_true, cond_true, e4]
      rw [daysTo_eq (j / 12) (j % 12 + 2) 1 (by omega) (by omega) (by omega), show 12 * (j / 12) + (j % 12 + 2 - 1) = j + 1 by omega]
      simp only [Option.bind_some, show ¬ ((Sm (j + 1) : Nat) : Int) + 1 - 1 ≤ ((t / 1440 : Nat) : Int) by omega, decide_false, cond_false]
      exact ev_of last
    · simp only [h12, decide_false, cond_false]
      exact ev_of last
  | succ n ih =>
    intro m hn h1 hm
    have h3 := Sm_mono (show 12 * (j / 12) + (m + 1 - 1) ≤ j by omega)
    apply ev_succ
    simp only [impl_DateOf_L8, show (m : Int) < 12 by omega, decide_true, cond_true, wsucc (show m < 9223372036854775807 by omega)]
    rw [daysTo_eq (j / 12) (m + 1) 1 (by omega) (by omega) (by omega)]
    simp only [Option.bind_some, show ((Sm (12 * (j / 12) + (m + 1 - 1)) : Nat) : Int) + 1 - 1 ≤ ((t / 1440 : Nat) : Int) by omega, decide_true, cond_true]
    exact ih (m + 1) (by omega) (by omega) (by omega)
theorem date_year (t j : Nat) (z0 z1 z2 z3 z4 : Int) (ht : t ≤ 52596000) (hj : Sm j ≤ t / 1440 ∧ t / 1440 < Sm (j + 1)) (hj' : j ≤ 1200) : ∀ (n y : Nat), j / 12 - y = n → y ≤ j / 12 →
    Ev (fun q => impl_DateOf_L5 q (t : Int) ((t / 1440 : Nat) : Int) (2000 + (y : Int)) z0 z1 z2 z3 z4) (dateV t j) := by
  intro n
  induction n with
  | zero =>
    intro y hn hy
    obtain rfl : y = j / 12 := by omega
    have e4 : IntKind.i64.wrap (2000 + ((j / 12 : Nat) : Int) + 1) = 2000 + ((j / 12 + 1 : Nat) : Int) := by rw [w64 (by omega) (by omega)]; omega
    have h3 := Sm_mono (show j + 1 ≤ 12 * (j / 12 + 1) + (1 - 1) by omega)
    have hd := daysTo_eq (j / 12 + 1) 1 1 (by omega) (by omega) (by omega)
    apply ev_succ
    simp only [impl_DateOf_L5, e4]
    rw [show ((1 : Nat) : Int) = 1 from rfl] at hd
    rw [hd]
    simp only [Option.bind_some, show ¬ ((Sm (12 * (j / 12 + 1) + (1 - 1)) : Nat) : Int) + 1 - 1 ≤ ((t / 1440 : Nat) : Int) by omega, decide_false, cond_false]
    exact date_month t j z0 z1 z2 z3 z4 ht hj hj' (j % 12 + 1 - 1) 1 rfl (by omega) (by omega)
  | succ n ih =>
    intro y hn hy
    have e4 : IntKind.i64.wrap (2000 + (y : Int) + 1) = 2000 + ((y + 1 : Nat) : Int) := by rw [w64 (by omega) (by omega)]; omega
    have h3 := Sm_mono (show 12 * (y + 1) + (1 - 1) ≤ j by omega)
    have hd := daysTo_eq (y + 1) 1 1 (by omega) (by omega) (by omega)
    apply ev_succ
    simp only [impl_DateOf_L5, e4]
    rw [show ((1 : Nat) : Int) = 1 from rfl] at hd
    rw [hd]
    simp only [Option.bind_some, show ((Sm (12 * (y + 1) + (1 - 1)) : Nat) : Int) + 1 - 1 ≤ ((t / 1440 : Nat) : Int) by omega, decide_true, cond_true]
    exact ih (y + 1) (by omega) (by omega)
theorem date_impl (t j : Nat) (ht : t ≤ 52596000) (hj : Sm j ≤ t / 1440 ∧ t / 1440 < Sm (j + 1)) : impl_DateOf (t : Int) = some (dateV t j) := by
  refine evF_eq ?_
  have hj' := month_le hj.1 (by omega)
  obtain ⟨e1, e2, e3⟩ := hour_eq t ht
  have e4 : IntKind.i64.wrap (2000 + (IntKind.i64.wrap (Int.tdiv ((t / 1440 : Nat) : Int) 366))) = 2000 + ((t / 1440 / 366 : Nat) : Int) := by
    rw [Int.tdiv_eq_ediv_of_nonneg (by omega), w64 (n := _ / _) (by omega) (by omega), w64 (by omega) (by omega)]; omega
  have hle : t / 1440 / 366 ≤ j / 12 := by
    apply Nat.le_of_not_lt
    intro hlt
    have h3 := Sm_mono (show j + 1 ≤ 12 * (t / 1440 / 366) by omega)
    rw [Sm_year] at h3
    omega
  unfold impl_DateOf_F
  rw [isTime_eq]
  simp only [show (0 : Int) ≤ (t : Int) by omega, show (t : Int) ≤ 52596000 by omega, decide_true, Bool.and_self, Option.bind_some, Bool.not_true, cond_false, e3, e4]
  exact date_year t j 0 0 0 0 0 ht hj hj' (j / 12 - t / 1440 / 366) (t / 1440 / 366) rfl hle
/-! ### two digits -/
def d2 (n : Nat) : List UInt8 := [UInt8.ofNat (48 + n / 10), UInt8.ofNat (48 + n % 10)]
theorem pad2 {n : Nat} (h : n < 100) : pad (n : Int) 2 = d2 n := by
  unfold pad
  rw [itoa_pos (by omega), Int.toNat_natCast]
  by_cases h1 : n < 10
  · rw [Lib.decDigits_one h1, d2, show n / 10 = 0 by omega, show n % 10 = n by omega]; rfl
  · rw [decDigits_step n h1, Lib.decDigits_one (show n / 10 < 10 by omega)]; rfl
theorem pad2_impl {n : Nat} (h : n < 100) : impl_fill (n : Int) 2 = some (bs (d2 n)) := by
  rw [← pad2 h]; exact fill_eq (w := 2) (by omega) (by omega) (by omega)
end Go.Proofs.YtondfjckadlabaaGreatDoor.DT
