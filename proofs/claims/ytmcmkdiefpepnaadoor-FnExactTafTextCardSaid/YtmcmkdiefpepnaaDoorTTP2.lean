/-
  Part of a proof by the engine: texts that a program of ours printed, or plain lemmas on them. No condition but what each theorem says.
-/
import Derived.Test.YtmcmkdiefpepnaaDoorTTP1
set_option linter.unusedVariables false
set_option linter.unusedSimpArgs false
namespace Go.Proofs.YtmcmkdiefpepnaaDoor.TT
open Go Go.Eng Go.Proofs.YtmcmkdiefpepnaaDoor.SA Go.Proofs.YtmcmkdiefpepnaaDoor.EX
/-! ### two digits -/
def d2 (n : Nat) : List UInt8 := [UInt8.ofNat (48 + n / 10), UInt8.ofNat (48 + n % 10)]
theorem pad2 {n : Nat} (h : n < 100) : pad (n : Int) 2 = d2 n := by
  unfold pad
  rw [itoa_pos (by omega), Int.toNat_natCast]
  by_cases h1 : n < 10
  · rw [Lib.decDigits_one h1, d2, show n / 10 = 0 by omega, show n % 10 = n by omega]; rfl
  · rw [decDigits_step n h1, Lib.decDigits_one (show n / 10 < 10 by omega)]; rfl
theorem pad2_spec {n : Nat} (h : n < 100) : spec_l2Pad (n : Int) 2 = some (bs (d2 n)) := by
  rw [← pad2 h]; exact l2Pad_eq (w := 2) (by omega) (by omega) (by omega)
theorem pad2_impl {n : Nat} (h : n < 100) : impl_fill (n : Int) 2 = some (bs (d2 n)) := by
  rw [← pad2 h]; exact fill_eq (w := 2) (by omega) (by omega) (by omega)
/-! ### the day -/
noncomputable def mon (d : Nat) : Nat := (month_of d).choose
theorem mon_spec (d : Nat) : Sm (mon d) ≤ d ∧ d < Sm (mon d + 1) := (month_of d).choose_spec
noncomputable def dayN (d : Nat) : Nat := d - Sm (mon d) + 1
theorem dayN_le (d : Nat) : dayN d ≤ 31 := by
  have h := mon_spec d
  have h1 := ml_pos (mon d)
  have h2 : Sm (mon d + 1) = Sm (mon d) + ml (mon d) := rfl
  unfold dayN; omega
noncomputable def dh (t : Nat) : List UInt8 := d2 (dayN (t / 1440)) ++ d2 (t / 60 % 24)
theorem day_cast (d : Nat) : ((d - Sm (mon d) : Nat) : Int) + 1 = (dayN d : Int) := by unfold dayN; omega
theorem dayTime_eq (t : Nat) (ht : t ≤ 52596000) : spec_l21DayTime (t : Int) = some (bs (dh t ++ d2 (t % 60))) := by
  unfold spec_l21DayTime
  rw [date_spec t _ ht (mon_spec _), Option.bind_some]
  simp only [dateV, day_cast, pad2_spec (show dayN (t / 1440) < 100 from Nat.lt_of_le_of_lt (dayN_le _) (by omega)), pad2_spec (show t / 60 % 24 < 100 by omega), pad2_spec (show t % 60 < 100 by omega), Option.bind_some]
  have e : ∀ a b, bs (d2 a) ++ bs (d2 b) = bs (d2 a ++ d2 b) := fun a b => rfl
  have e1 : ∀ a, (bs (d2 a)).size = 2 := fun a => rfl
  have e2 : ∀ a b, (bs (d2 a ++ d2 b)).size = 4 := fun a b => rfl
  simp only [e, e1, e2]
  rfl
theorem dayHour_eq (t : Nat) (ht : t ≤ 52596000) : impl_dayHour (t : Int) = some (bs (dh t)) := by
  unfold impl_dayHour
  rw [date_impl t _ ht (mon_spec _), Option.bind_some]
  simp only [dateV, day_cast, pad2_impl (show dayN (t / 1440) < 100 from Nat.lt_of_le_of_lt (dayN_le _) (by omega)), pad2_impl (show t / 60 % 24 < 100 by omega), Option.bind_some]
  have e : ∀ a b, bs (d2 a) ++ bs (d2 b) = bs (d2 a ++ d2 b) := fun a b => rfl
  have e1 : ∀ a, (bs (d2 a)).size = 2 := fun a => rfl
  simp only [e, e1]
  rfl
theorem dayHourMinute_eq (t : Nat) (ht : t ≤ 52596000) : impl_dayHourMinute (t : Int) = some (bs (dh t ++ d2 (t % 60))) := by
  unfold impl_dayHourMinute
  rw [date_impl t _ ht (mon_spec _), Option.bind_some, dayHour_eq t ht]
  simp only [dateV, pad2_impl (show t % 60 < 100 by omega), Option.bind_some]
  have e1 : ∀ a, (bs (d2 a)).size = 2 := fun a => rfl
  have e2 : (bs (dh t)).size = 4 := rfl
  simp only [e1, e2]
  rfl
/-! ### spans -/
noncomputable def spanT (a b : Nat) : List UInt8 := dh a ++ [47] ++ (if b % 1440 = 0 then d2 (dayN (b / 1440 - 1)) ++ [50, 52] else dh b)
theorem d2_00 {n : Nat} (h : n < 100) : d2 n = [48, 48] ↔ n = 0 := by
  constructor
  · intro hd
    have h1 : UInt8.ofNat (48 + n / 10) = 48 := (List.cons.inj hd).1
    have h2 : UInt8.ofNat (48 + n % 10) = 48 := (List.cons.inj (List.cons.inj hd).2).1
    have h3 := congrArg UInt8.toNat h1
    have h4 := congrArg UInt8.toNat h2
    simp at h3 h4
    omega
  · rintro rfl; rfl
theorem cut4 (a b c : Nat) : (bs (d2 a ++ d2 b ++ d2 c)).extract 0 4 = bs (d2 a ++ d2 b) := L_inj (by rw [L_extract]; rfl)
theorem cut2 (a b c : Nat) : (bs (d2 a ++ d2 b ++ d2 c)).extract 0 2 = bs (d2 a) := L_inj (by rw [L_extract]; rfl)
theorem cut2' (a b : Nat) : (bs (d2 a ++ d2 b)).extract 0 2 = bs (d2 a) := L_inj (by rw [L_extract]; rfl)
theorem cut24 (a b : Nat) : (bs (d2 a ++ d2 b)).extract 2 4 = bs (d2 b) := L_inj (by rw [L_extract]; rfl)
theorem spanText_spec (a b : Nat) (ha : a ≤ 52596000) (hb : b ≤ 52596000) (h60 : b % 60 = 0) (hb0 : 0 < b) : spec_l21SpanText (a : Int) (b : Int) = some (bs (spanT a b)) := by
  unfold spec_l21SpanText spanT
  have s6 : ∀ x y z, (bs (d2 x ++ d2 y ++ d2 z)).size = 6 := fun x y z => rfl
  have s4 : ∀ x y, (bs (d2 x ++ d2 y)).size = 4 := fun x y => rfl
  have s2 : ∀ x, (bs (d2 x)).size = 2 := fun x => rfl
  have t4 : Int.toNat 4 = 4 := rfl
  have t0 : Int.toNat 0 = 0 := rfl
  have t2 : Int.toNat 2 = 2 := rfl
  have c4 : ((4 : Nat) : Int) = 4 := rfl
  have c6 : ((6 : Nat) : Int) = 6 := rfl
  rw [dayTime_eq b hb, Option.bind_some, dayTime_eq a ha]
  simp only [dh, cut4, cut2, cut24, s6, s4, s2, t4, t0, t2, c4, c6, Option.bind_some, beq_bytes]
  have hq : (bs (d2 (b / 60 % 24)) = bs [48, 48]) ↔ b % 1440 = 0 := by
    rw [show (bs (d2 (b / 60 % 24)) = bs [48, 48]) ↔ (d2 (b / 60 % 24) = [48, 48]) from ⟨fun h => by have := congrArg L h; rwa [L_bs, L_bs] at this, fun h => by rw [h]⟩, d2_00 (by omega)]
    omega
  by_cases h : b % 1440 = 0
  · rw [if_pos h]
    have e : IntKind.i64.wrap ((b : Int) - 60) = ((b - 60 : Nat) : Int) := by rw [w64 (by omega) (by omega)]; omega
    rw [e, dayTime_eq (b - 60) (by omega)]
    simp only [hq.2 h, dh, cut2, s6, show (b - 60) / 1440 = b / 1440 - 1 by omega, Option.bind_some, decide_true, cond_true]
    rfl
  · rw [if_neg h]
    simp only [show ¬ (bs (d2 (b / 60 % 24)) = bs [48, 48]) from fun q => h (hq.1 q), decide_false, cond_false]
    rfl
theorem spanText_impl (a b : Nat) (ha : a ≤ 52596000) (hb : b ≤ 52596000) (hb0 : 0 < b) : impl_spanText (a : Int) (b : Int) = some (bs (spanT a b)) := by
  unfold impl_spanText spanT
  have s4 : ∀ x y, (bs (d2 x ++ d2 y)).size = 4 := fun x y => rfl
  have t0 : Int.toNat 0 = 0 := rfl
  have t2 : Int.toNat 2 = 2 := rfl
  have c4 : ((4 : Nat) : Int) = 4 := rfl
  have hm : (Int.tmod (b : Int) 1440) = ((b % 1440 : Nat) : Int) := by rw [Int.tmod_eq_emod_of_nonneg (by omega)]; omega
  rw [dayHour_eq b hb, Option.bind_some, dayHour_eq a ha, hm, beqI]
  by_cases h : b % 1440 = 0
  · rw [if_pos h]
    have e : IntKind.i64.wrap ((b : Int) - 1440) = ((b - 1440 : Nat) : Int) := by rw [w64 (by omega) (by omega)]; omega
    rw [e, dayHour_eq (b - 1440) (by omega), h]
    simp only [dh, cut2', s4, t0, t2, c4, show (b - 1440) / 1440 = b / 1440 - 1 by omega, Option.bind_some, Int.natCast_zero, decide_true, cond_true]
    rfl
  · rw [if_neg h]
    simp only [show ¬ (((b % 1440 : Nat) : Int) = 0) by omega, decide_false, cond_false, Option.bind_some]
    rfl
/-! ### words -/
def J (xs : List ByteArray) : List UInt8 := Lib.join (xs.map L) [32]
theorem tail_cons (sep y : List UInt8) (r : List (List UInt8)) : Lib.joinTail sep (y :: r) = sep ++ y ++ Lib.joinTail sep r := by simp [Lib.joinTail]
theorem words_loop (xs : List ByteArray) (hl : xs.length ≤ 1000) (hs : ∀ x ∈ xs, x.size ≤ 1000) : ∀ (m n : Nat) (s : ByteArray), xs.length - n = m → 1 ≤ n → n ≤ xs.length → s.size ≤ n * 1001 →
    Ev (fun k => spec_l21Words_L3 k xs s (n : Int)) (bs (L s ++ Lib.joinTail [32] ((xs.drop n).map L))) := by
  intro m
  induction m with
  | zero =>
    intro n s hm h1 hn hz
    obtain rfl : n = xs.length := by omega
    apply ev_succ
    simp only [spec_l21Words_L3, Int.lt_irrefl, decide_false, cond_false]
    refine ev_eq (ev_now _) ?_
    rw [List.drop_length, List.map_nil, show Lib.joinTail [32] [] = [] from rfl, List.append_nil, bs_L]
  | succ m ih =>
    intro n s hm h1 hn hz
    have hlt : n < xs.length := by omega
    have hx := hs _ (List.getElem_mem hlt)
    have e1 : (bs [32]).size = 1 := rfl
    apply ev_succ
    simp only [spec_l21Words_L3, show (n : Int) < (xs.length : Int) by omega, show (n : Int) > 0 by omega, show (0 : Int) ≤ (n : Int) by omega, decide_true, cond_true, rd_nat (k := .str) hlt, wsucc (show n < 9223372036854775807 by omega), ByteArray.size_append, e1,
      show s.size + 1 ≤ 9223372036854775807 by omega, show s.size + 1 + xs[n].size ≤ 9223372036854775807 by omega]
    refine ev_eq (ih (n + 1) _ (by omega) (by omega) (by omega) (by rw [ByteArray.size_append, ByteArray.size_append, e1]; omega)) ?_
    rw [drop_cons hlt, List.map_cons, tail_cons, L_append, L_append, L_bs]
    simp only [List.append_assoc]
theorem words_eq {xs : List ByteArray} (hl : xs.length ≤ 1000) (hs : ∀ x ∈ xs, x.size ≤ 1000) : spec_l21Words xs = some (bs (J xs)) := by
  refine evF_eq ?_
  unfold spec_l21Words_F J
  cases xs with
  | nil =>
    apply ev_succ
    simp only [spec_l21Words_L3, List.length_nil, show ¬ (0 : Int) < ((0 : Nat) : Int) by omega, decide_false, cond_false]
    exact ev_now _
  | cons x r =>
    have hx := hs x List.mem_cons_self
    have e0 : (bs []).size = 0 := rfl
    have hlen : (x :: r).length = r.length + 1 := rfl
    apply ev_succ
    simp only [spec_l21Words_L3, show (0 : Int) < ((x :: r).length : Int) by omega, show ¬ (0 : Int) > 0 by omega, show (0 : Int) ≤ (0 : Int) by omega, decide_true, decide_false, cond_true, cond_false, e0, show rd Kind.str (x :: r) 0 = x from rfl,
      show 0 + x.size ≤ 9223372036854775807 by omega, show IntKind.i64.wrap (0 + 1) = ((1 : Nat) : Int) from rfl]
    refine ev_eq (words_loop (x :: r) hl hs r.length 1 _ (by omega) (by omega) (by omega) (by rw [ByteArray.size_append, e0]; omega)) ?_
    rw [List.map_cons, Lib.join_cons, L_append, L_bs]
    rfl
theorem J_len {xs : List ByteArray} (hl : xs.length ≤ 1000) (hs : ∀ x ∈ xs, x.size ≤ 1000) : (J xs).length ≤ 2000000 := by
  unfold J
  cases xs with
  | nil => exact Nat.zero_le _
  | cons x r =>
    rw [List.map_cons, Lib.join_cons, List.length_append, Lib.joinTail_length]
    have hx := hs x List.mem_cons_self
    have : ∀ l : List ByteArray, (∀ x ∈ l, x.size ≤ 1000) → Lib.lens (l.map L) ≤ 1000 * l.length := by
      intro l
      induction l with
      | nil => intro _; exact Nat.le_refl _
      | cons y l ih =>
        intro h
        have h1 := h y List.mem_cons_self
        have h2 := ih fun z hz => h z (List.mem_cons_of_mem _ hz)
        simp only [Lib.lens, List.map_cons, List.sum_cons, L_length, List.length_cons] at h2 ⊢
        omega
    have h2 := this r fun z hz => hs z (List.mem_cons_of_mem _ hz)
    rw [L_length, List.length_map]
    simp only [List.length_cons, List.length_nil] at hl ⊢
    omega
theorem join_eq {xs : List ByteArray} (hl : xs.length ≤ 1000) (hs : ∀ x ∈ xs, x.size ≤ 1000) : dJoin xs (bs [32]) = some (bs (J xs)) := by
  have h := J_len hl hs
  have e : Lib.join (xs.map (·.data.toList)) (bs [32]).data.toList = J xs := rfl
  unfold dJoin
  rw [e]
  simp only [show xs.length ≤ 140737488355328 by omega, show (J xs).length ≤ 140737488355328 by omega, decide_true, Bool.and_self, cond_true]
end Go.Proofs.YtmcmkdiefpepnaaDoor.TT
