/-
  Part of a proof by the engine: texts that a program of ours printed, or plain lemmas on them. No condition but what each theorem says.
-/
import Derived.Test.YtgkejafaggaocaaDoorRQ
import Derived.Test.YtgkejafaggaocaaDoorDTPlain
import Derived.Test.YtgkejafaggaocaaDoorSTPlain
set_option linter.unusedVariables false
set_option linter.unusedSimpArgs false
namespace Go.Proofs.YtgkejafaggaocaaDoor.RQ
open Go Go.Eng Go.Proofs.YtgkejafaggaocaaDoor.DT Go.Proofs.YtgkejafaggaocaaDoor.EX
def isLow (c : UInt8) : Bool := decide (97 ≤ c.toNat) && decide (c.toNat ≤ 122)
/-- A parameter's name. -/
def paramV (s : ByteArray) : Bool := (L s).all isLow && (decide (1 ≤ s.size) && decide (s.size ≤ 4))
theorem param_loop_spec (s : ByteArray) (hs : s.size ≤ 9223372036854775807) : ∀ (m n : Nat), s.size - n = m → n ≤ s.size →
    Ev (fun k => spec_l25ParamOk_L2 k s (n : Int)) (((L s).drop n).all isLow && (decide (1 ≤ s.size) && decide (s.size ≤ 4))) := by
  intro m
  induction m with
  | zero =>
    intro n hm hn
    obtain rfl : n = s.size := by omega
    apply ev_succ
    simp only [spec_l25ParamOk_L2, Int.lt_irrefl, decide_false, cond_false]
    rw [List.drop_eq_nil_of_le (by rw [L_length]; omega), List.all_nil, Bool.true_and]
    by_cases h : (s.size : Int) ≥ 1
    · simp only [h, decide_true, cond_true]
      exact ev_eq (ev_now _) (by rw [decide_eq_true (show 1 ≤ s.size by omega), Bool.true_and, decide_eq_decide]; omega)
    · simp only [h, decide_false, cond_false]
      exact ev_eq (ev_now _) (by rw [decide_eq_false (show ¬ 1 ≤ s.size by omega), Bool.false_and])
  | succ m ih =>
    intro n hm hn
    have h1 : (n : Int) < (s.size : Int) := by omega
    have h2 : (0 : Int) ≤ (n : Int) := by omega
    have hl : n < (L s).length := by rw [L_length]; omega
    apply ev_succ
    simp only [spec_l25ParamOk_L2, h1, h2, decide_true, cond_true, wsucc (show n < 9223372036854775807 by omega), bt_nat, List.getD, List.getElem?_eq_getElem hl, Option.getD_some]
    rw [drop_cons hl, List.all_cons]
    by_cases c1 : ((L s)[n].toNat : Int) < 97
    · simp only [c1, decide_true, cond_true]
      exact ev_eq (ev_now _) (by simp [isLow]; omega)
    · by_cases c2 : ((L s)[n].toNat : Int) > 122
      · simp only [c1, c2, decide_true, decide_false, cond_true, cond_false]
        exact ev_eq (ev_now _) (by simp [isLow]; omega)
      · simp only [c1, c2, decide_false, cond_false]
        have hd : isLow (L s)[n] = true := by simp [isLow]; omega
        rw [hd, Bool.true_and]
        exact ih (n + 1) (by omega) (by omega)
theorem param_loop_impl (s : ByteArray) (hs : s.size ≤ 9223372036854775807) : ∀ (m n : Nat), s.size - n = m → n ≤ s.size →
    Ev (fun k => impl_paramOk_L2 k s (n : Int)) (((L s).drop n).all isLow && (decide (1 ≤ s.size) && decide (s.size ≤ 4))) := by
  intro m
  induction m with
  | zero =>
    intro n hm hn
    obtain rfl : n = s.size := by omega
    apply ev_succ
    simp only [impl_paramOk_L2, Int.lt_irrefl, decide_false, cond_false, in_eq, Option.bind_some]
    rw [List.drop_eq_nil_of_le (by rw [L_length]; omega), List.all_nil, Bool.true_and]
    refine ev_eq (ev_now _) ?_
    congr 1 <;> (rw [decide_eq_decide]; omega)
  | succ m ih =>
    intro n hm hn
    have h1 : (n : Int) < (s.size : Int) := by omega
    have h2 : (0 : Int) ≤ (n : Int) := by omega
    have hl : n < (L s).length := by rw [L_length]; omega
    apply ev_succ
    simp only [impl_paramOk_L2, h1, h2, decide_true, cond_true, wsucc (show n < 9223372036854775807 by omega), bt_nat, List.getD, List.getElem?_eq_getElem hl, Option.getD_some]
    rw [drop_cons hl, List.all_cons]
    by_cases c1 : ((L s)[n].toNat : Int) < 97
    · simp only [c1, decide_true, cond_true]
      exact ev_eq (ev_now _) (by simp [isLow]; omega)
    · by_cases c2 : ((L s)[n].toNat : Int) > 122
      · simp only [c1, c2, decide_true, decide_false, cond_true, cond_false]
        exact ev_eq (ev_now _) (by simp [isLow]; omega)
      · simp only [c1, c2, decide_false, cond_false]
        have hd : isLow (L s)[n] = true := by simp [isLow]; omega
        rw [hd, Bool.true_and]
        exact ih (n + 1) (by omega) (by omega)
theorem param_spec {s : ByteArray} (hs : s.size ≤ 9223372036854775807) : spec_l25ParamOk s = some (paramV s) := by
  refine evF_eq ?_
  have := param_loop_spec s hs s.size 0 (by omega) (by omega)
  simpa [spec_l25ParamOk_F, paramV] using this
theorem param_impl {s : ByteArray} (hs : s.size ≤ 9223372036854775807) : impl_paramOk s = some (paramV s) := by
  refine evF_eq ?_
  have := param_loop_impl s hs s.size 0 (by omega) (by omega)
  simpa [impl_paramOk_F, paramV] using this
end Go.Proofs.YtgkejafaggaocaaDoor.RQ

namespace Go.Proofs.YtgkejafaggaocaaDoor.RQ
open Go Go.Eng Go.Proofs.YtgkejafaggaocaaDoor.DT Go.Proofs.YtgkejafaggaocaaDoor.EX
theorem l2In_eq (a b c : Int) : spec_l2In a b c = some (decide (b ≤ a) && decide (a ≤ c)) := by
  unfold spec_l2In
  by_cases h : a ≥ b
  · simp [h]
  · simp [h]
def rng (lo hi x : Int) : Bool := decide (lo ≤ x) && decide (x ≤ hi)
def rise : Int → List Int → Bool
  | _, [] => true
  | p, x :: r => decide (p < x) && rise x r
def rise0 : List Int → Bool
  | [] => true
  | x :: r => rise x r
/-- A list that rises within bounds. -/
def riseV (l : List Int) (lo hi : Int) : Bool := decide (l.length ≤ 40) && (l.all (rng lo hi) && rise0 l)
theorem rd_prev {l : List Int} {n : Nat} (h : n < l.length) (hl : l.length ≤ 40) : rd (Kind.int IntKind.i64) l (IntKind.i64.wrap (((n + 1 : Nat) : Int) - 1)) = l[n] := by
  rw [w64 (by omega) (by omega), show ((n + 1 : Nat) : Int) - 1 = (n : Int) by omega]
  exact rd_nat (k := .int .i64) h
theorem rise_loop_spec {l : List Int} (lo hi : Int) (hl : l.length ≤ 40) : ∀ (m n : Nat) (h : n < l.length), l.length - (n + 1) = m →
    Ev (fun k => spec_l25Rises_L4 k l lo hi ((n + 1 : Nat) : Int)) ((l.drop (n + 1)).all (rng lo hi) && rise l[n] (l.drop (n + 1)))
  | 0, n, h, hm => by
    apply ev_succ
    simp only [spec_l25Rises_L4, show ¬ ((n + 1 : Nat) : Int) < (l.length : Int) by omega, decide_false, cond_false]
    rw [List.drop_eq_nil_of_le (by omega)]
    exact ev_now _
  | m + 1, n, h, hm => by
    have h1 : n + 1 < l.length := by omega
    have hw : IntKind.i64.wrap (((n + 1 : Nat) : Int) - 1) = (n : Int) := by rw [w64 (by omega) (by omega)]; omega
    have r1 : rd (Kind.int IntKind.i64) l ((n + 1 : Nat) : Int) = l[n + 1] := rd_nat (k := .int .i64) h1
    have r0 : rd (Kind.int IntKind.i64) l (n : Int) = l[n] := rd_nat (k := .int .i64) h
    apply ev_succ
    simp only [spec_l25Rises_L4, l2In_eq, show ((n + 1 : Nat) : Int) < (l.length : Int) by omega, show (0 : Int) ≤ ((n + 1 : Nat) : Int) by omega, show ((n + 1 : Nat) : Int) > 0 by omega, hw, show (0 : Int) ≤ (n : Int) by omega, show (n : Int) < (l.length : Int) by omega, r0, r1, decide_true, cond_true, Option.bind_some, wsucc (show n + 1 < 9223372036854775807 by omega)]
    rw [drop_cons h1, List.all_cons]
    show Ev _ ((rng lo hi l[n + 1] && _) && (decide (l[n] < l[n + 1]) && rise l[n + 1] (l.drop (n + 1 + 1))))
    cases hr : rng lo hi l[n + 1] with
    | false =>
      unfold rng at hr
      simp only [hr, Bool.not_false, cond_true]
      exact ev_now _
    | true =>
      unfold rng at hr
      simp only [hr, Bool.not_true, cond_false, Bool.true_and]
      by_cases hc : l[n + 1] ≤ l[n]
      · simp only [hc, decide_true, cond_true]
        exact ev_eq (ev_now _) (by rw [decide_eq_false (show ¬ l[n] < l[n + 1] by omega)]; simp)
      · simp only [hc, decide_false, cond_false]
        rw [decide_eq_true (show l[n] < l[n + 1] by omega), Bool.true_and]
        exact rise_loop_spec lo hi hl m (n + 1) h1 (by omega)
theorem rise_loop_impl {l : List Int} (hl : l.length ≤ 40) : ∀ (m n : Nat) (h : n < l.length), l.length - (n + 1) = m →
    Ev (fun k => impl_risesIn_L4 k l ((n + 1 : Nat) : Int)) (rise l[n] (l.drop (n + 1)))
  | 0, n, h, hm => by
    apply ev_succ
    simp only [impl_risesIn_L4, show ¬ ((n + 1 : Nat) : Int) < (l.length : Int) by omega, decide_false, cond_false]
    rw [List.drop_eq_nil_of_le (by omega)]
    exact ev_now _
  | m + 1, n, h, hm => by
    have h1 : n + 1 < l.length := by omega
    have hw : IntKind.i64.wrap (((n + 1 : Nat) : Int) - 1) = (n : Int) := by rw [w64 (by omega) (by omega)]; omega
    have r1 : rd (Kind.int IntKind.i64) l ((n + 1 : Nat) : Int) = l[n + 1] := rd_nat (k := .int .i64) h1
    have r0 : rd (Kind.int IntKind.i64) l (n : Int) = l[n] := rd_nat (k := .int .i64) h
    apply ev_succ
    simp only [impl_risesIn_L4, show ((n + 1 : Nat) : Int) < (l.length : Int) by omega, show (0 : Int) ≤ ((n + 1 : Nat) : Int) by omega, hw, show (0 : Int) ≤ (n : Int) by omega, show (n : Int) < (l.length : Int) by omega, r0, r1, decide_true, cond_true, wsucc (show n + 1 < 9223372036854775807 by omega)]
    rw [drop_cons h1]
    show Ev _ (decide (l[n] < l[n + 1]) && rise l[n + 1] (l.drop (n + 1 + 1)))
    by_cases hc : l[n] ≥ l[n + 1]
    · simp only [hc, decide_true, cond_true]
      exact ev_eq (ev_now _) (by rw [decide_eq_false (show ¬ l[n] < l[n + 1] by omega)]; rfl)
    · simp only [hc, decide_false, cond_false]
      rw [decide_eq_true (show l[n] < l[n + 1] by omega), Bool.true_and]
      exact rise_loop_impl hl m (n + 1) h1 (by omega)
theorem each_loop {l : List Int} (lo hi : Int) (hl : l.length ≤ 40) : ∀ (m n : Nat), l.length - n = m → n ≤ l.length →
    Ev (fun k => impl_each_L4 k lo hi l (l.length : Int) (n : Int)) ((l.drop n).all (rng lo hi))
  | 0, n, hm, hn => by
    apply ev_succ
    simp only [impl_each_L4, show ¬ (n : Int) < (l.length : Int) by omega, decide_false, cond_false]
    rw [List.drop_eq_nil_of_le (by omega)]
    exact ev_now _
  | m + 1, n, hm, hn => by
    have h1 : n < l.length := by omega
    have r1 : rd (Kind.int IntKind.i64) l (n : Int) = l[n] := rd_nat (k := .int .i64) h1
    apply ev_succ
    simp only [impl_each_L4, in_eq, show (n : Int) < (l.length : Int) by omega, show (0 : Int) ≤ (n : Int) by omega, r1, decide_true, cond_true, Option.bind_some, wsucc (show n < 9223372036854775807 by omega)]
    rw [drop_cons h1, List.all_cons]
    cases hr : rng lo hi l[n] with
    | false =>
      unfold rng at hr
      simp only [hr, Bool.not_false, cond_true]
      exact ev_now _
    | true =>
      unfold rng at hr
      simp only [hr, Bool.not_true, cond_false, Bool.true_and]
      exact each_loop lo hi hl m (n + 1) (by omega) (by omega)
theorem rises_impl (l : List Int) (lo hi : Int) : impl_risesIn l lo hi = some (riseV l lo hi) := by
  refine evF_eq ?_
  unfold impl_risesIn_F riseV
  by_cases hl : (l.length : Int) > 40
  · simp only [hl, decide_true, cond_true]
    exact ev_eq (ev_now _) (by rw [decide_eq_false (show ¬ l.length ≤ 40 by omega)]; rfl)
  · have he : impl_each l (l.length : Int) lo hi = some (l.all (rng lo hi)) := by
      refine evF_eq ?_
      have := each_loop (l := l) lo hi (by omega) l.length 0 (by omega) (by omega)
      unfold impl_each_F
      simp only [bneI, decide_true, Bool.not_true, cond_false]
      exact this
    simp only [hl, decide_false, cond_false, he, Option.bind_some]
    rw [decide_eq_true (show l.length ≤ 40 by omega), Bool.true_and]
    cases hr : l.all (rng lo hi) with
    | false => exact ev_now _
    | true =>
      simp only [Bool.not_true, cond_false, Bool.true_and]
      cases hL : l with
      | nil =>
        apply ev_succ
        exact ev_now _
      | cons x r =>
        have := rise_loop_impl (l := x :: r) (by rw [← hL]; omega) r.length 0 (by simp) (by simp)
        exact this
theorem rises_spec (l : List Int) (lo hi : Int) : spec_l25Rises l lo hi = some (riseV l lo hi) := by
  refine evF_eq ?_
  unfold spec_l25Rises_F riseV
  by_cases hl : (l.length : Int) > 40
  · simp only [hl, decide_true, cond_true]
    exact ev_eq (ev_now _) (by rw [decide_eq_false (show ¬ l.length ≤ 40 by omega)]; rfl)
  · simp only [hl, decide_false, cond_false]
    rw [decide_eq_true (show l.length ≤ 40 by omega), Bool.true_and]
    cases hL : l with
    | nil =>
      apply ev_succ
      exact ev_now _
    | cons x r =>
      have h2 := rise_loop_spec (l := x :: r) lo hi (by rw [← hL]; omega) r.length 0 (by simp) (by simp)
      have r1 : rd (Kind.int IntKind.i64) (x :: r) 0 = x := rd_nat (k := .int .i64) (n := 0) (by simp)
      apply ev_succ
      simp only [spec_l25Rises_L4, l2In_eq, show (0 : Int) < ((x :: r).length : Int) by (rw [List.length_cons]; omega), show (0 : Int) ≤ 0 by omega, show ¬ (0 : Int) > 0 by omega, r1, decide_true, decide_false, cond_true, cond_false, Option.bind_some]
      rw [List.all_cons]
      show Ev _ ((rng lo hi x && _) && rise x r)
      cases hr : rng lo hi x with
      | false =>
        unfold rng at hr
        simp only [hr, Bool.not_false, cond_true]
        exact ev_now _
      | true =>
        unfold rng at hr
        simp only [hr, Bool.not_true, cond_false, Bool.true_and]
        exact h2
end Go.Proofs.YtgkejafaggaocaaDoor.RQ

namespace Go.Proofs.YtgkejafaggaocaaDoor.RQ
open Go Go.Eng Go.Proofs.YtgkejafaggaocaaDoor.DT Go.Proofs.YtgkejafaggaocaaDoor.EX
theorem less_total : ∀ a b : List UInt8, (Op.bytesLess a b || a == b) = !Op.bytesLess b a
  | [], [] => by simp [Op.bytesLess]
  | [], _ :: _ => by simp [Op.bytesLess]
  | _ :: _, [] => by simp [Op.bytesLess]
  | x :: a, y :: b => by
    have ih := less_total a b
    simp only [Op.bytesLess]
    by_cases h : x = y
    · subst h
      have h1 : ¬ x < x := UInt8.lt_irrefl x
      have h2 : (x :: a == x :: b) = (a == b) := by simp
      simp only [h1, decide_false, Bool.false_or, beq_self_eq_true, Bool.true_and, h2]
      exact ih
    · have e1 : (x == y) = false := by simp [h]
      have e2 : (y == x) = false := by simp [Ne.symm h]
      have e3 : (x :: a == y :: b) = false := by simp [h]
      rw [e1, e2, e3]
      simp only [Bool.false_and, Bool.or_false]
      have h3 : ¬ x.toNat = y.toNat := fun k => h (UInt8.toNat_inj.1 k)
      rw [show decide (x < y) = decide (x.toNat < y.toNat) from rfl, show decide (y < x) = decide (y.toNat < x.toNat) from rfl]
      by_cases hc : x.toNat < y.toNat
      · rw [decide_eq_true hc, decide_eq_false (by omega)]; rfl
      · rw [decide_eq_false hc, decide_eq_true (by omega)]; rfl
def names : ByteArray → List ByteArray → Bool
  | _, [] => true
  | p, x :: r => paramV x && (Op.bytesLess p.toList x.toList && names x r)
def names0 : List ByteArray → Bool
  | [] => true
  | x :: r => paramV x && names x r
def timesV (a b c : List Int) : Bool := riseV a 0 52596000 && (riseV b 0 360 && riseV c 0 1100)
def reqV (ps : List ByteArray) (a b c : List Int) : Bool := decide (ps.length ≤ 40) && (names0 ps && timesV a b c)
def Small (ps : List ByteArray) : Prop := ∀ s ∈ ps, s.size ≤ 9223372036854775807
theorem req_loop_spec {ps : List ByteArray} {a b c : List Int} (hl : ps.length ≤ 40) (hs : Small ps) : ∀ (m n : Nat) (h : n < ps.length), ps.length - (n + 1) = m →
    Ev (fun k => spec_l25RequestOk_L4 k ((n + 1 : Nat) : Int) ps a b c) (names ps[n] (ps.drop (n + 1)) && timesV a b c)
  | 0, n, h, hm => by
    apply ev_succ
    simp only [spec_l25RequestOk_L4, show ¬ ((n + 1 : Nat) : Int) < (ps.length : Int) by omega, decide_false, cond_false, rises_spec, Option.bind_some]
    rw [List.drop_eq_nil_of_le (by omega)]
    unfold timesV
    cases riseV a 0 52596000 <;> cases riseV b 0 360 <;> exact ev_now _
  | m + 1, n, h, hm => by
    have h1 : n + 1 < ps.length := by omega
    have hw : IntKind.i64.wrap (((n + 1 : Nat) : Int) - 1) = (n : Int) := by rw [w64 (by omega) (by omega)]; omega
    have r1 : rd Kind.str ps ((n + 1 : Nat) : Int) = ps[n + 1] := rd_nat (k := .str) h1
    have r0 : rd Kind.str ps (n : Int) = ps[n] := rd_nat (k := .str) h
    apply ev_succ
    simp only [spec_l25RequestOk_L4, show ((n + 1 : Nat) : Int) < (ps.length : Int) by omega, show (0 : Int) ≤ ((n + 1 : Nat) : Int) by omega, show ((n + 1 : Nat) : Int) > 0 by omega, hw, show (0 : Int) ≤ (n : Int) by omega, show (n : Int) < (ps.length : Int) by omega, r0, r1, decide_true, cond_true, param_spec (hs _ (List.getElem_mem h1)), Option.bind_some, wsucc (show n + 1 < 9223372036854775807 by omega), less_total]
    rw [drop_cons h1]
    show Ev _ ((paramV ps[n + 1] && (Op.bytesLess ps[n].toList ps[n + 1].toList && names ps[n + 1] (ps.drop (n + 1 + 1)))) && timesV a b c)
    cases paramV ps[n + 1] with
    | false => exact ev_now _
    | true =>
      cases Op.bytesLess ps[n].toList ps[n + 1].toList with
      | false => exact ev_now _
      | true => exact req_loop_spec hl hs m (n + 1) h1 (by omega)
theorem req_loop_impl {ps : List ByteArray} {a b c : List Int} (hl : ps.length ≤ 40) (hs : Small ps) : ∀ (m n : Nat) (h : n < ps.length), ps.length - (n + 1) = m →
    Ev (fun k => impl_requestOk_L4 k ps (ps.length : Int) ((n + 1 : Nat) : Int) ps a b c) (names ps[n] (ps.drop (n + 1)) && timesV a b c)
  | 0, n, h, hm => by
    apply ev_succ
    simp only [impl_requestOk_L4, show ¬ ((n + 1 : Nat) : Int) < (ps.length : Int) by omega, decide_false, cond_false, rises_impl, Option.bind_some]
    rw [List.drop_eq_nil_of_le (by omega)]
    unfold timesV
    cases riseV a 0 52596000 <;> cases riseV b 0 360 <;> exact ev_now _
  | m + 1, n, h, hm => by
    have h1 : n + 1 < ps.length := by omega
    have hw : IntKind.i64.wrap (((n + 1 : Nat) : Int) - 1) = (n : Int) := by rw [w64 (by omega) (by omega)]; omega
    have r1 : rd Kind.str ps ((n + 1 : Nat) : Int) = ps[n + 1] := rd_nat (k := .str) h1
    have r0 : rd Kind.str ps (n : Int) = ps[n] := rd_nat (k := .str) h
    apply ev_succ
    simp only [impl_requestOk_L4, show ((n + 1 : Nat) : Int) < (ps.length : Int) by omega, show (0 : Int) ≤ ((n + 1 : Nat) : Int) by omega, show ((n + 1 : Nat) : Int) > 0 by omega, hw, show (0 : Int) ≤ (n : Int) by omega, show (n : Int) < (ps.length : Int) by omega, r0, r1, decide_true, cond_true, param_impl (hs _ (List.getElem_mem h1)), Option.bind_some, wsucc (show n + 1 < 9223372036854775807 by omega)]
    rw [drop_cons h1]
    show Ev _ ((paramV ps[n + 1] && (Op.bytesLess ps[n].toList ps[n + 1].toList && names ps[n + 1] (ps.drop (n + 1 + 1)))) && timesV a b c)
    cases paramV ps[n + 1] with
    | false => exact ev_now _
    | true =>
      cases Op.bytesLess ps[n].toList ps[n + 1].toList with
      | false => exact ev_now _
      | true => exact req_loop_impl hl hs m (n + 1) h1 (by omega)
theorem req_spec {ps : List ByteArray} (a b c : List Int) (hs : Small ps) : spec_l25RequestOk ps a b c = some (reqV ps a b c) := by
  refine evF_eq ?_
  unfold spec_l25RequestOk_F reqV
  by_cases hl : (ps.length : Int) > 40
  · simp only [hl, decide_true, cond_true]
    exact ev_eq (ev_now _) (by rw [decide_eq_false (show ¬ ps.length ≤ 40 by omega)]; rfl)
  · simp only [hl, decide_false, cond_false]
    rw [decide_eq_true (show ps.length ≤ 40 by omega), Bool.true_and]
    cases hL : ps with
    | nil =>
      apply ev_succ
      simp only [spec_l25RequestOk_L4, List.length_nil, show ¬ (0 : Int) < ((0 : Nat) : Int) by omega, decide_false, cond_false, rises_spec, Option.bind_some, names0, Bool.true_and]
      unfold timesV
      cases riseV a 0 52596000 <;> cases riseV b 0 360 <;> exact ev_now _
    | cons x r =>
      have hx : x.size ≤ 9223372036854775807 := hs x (by rw [hL]; exact List.mem_cons_self ..)
      have h2 := req_loop_spec (ps := x :: r) (a := a) (b := b) (c := c) (by rw [← hL]; omega) (by rw [← hL]; exact hs) r.length 0 (by simp) (by simp)
      have r1 : rd Kind.str (x :: r) 0 = x := rd_nat (k := .str) (n := 0) (by simp)
      apply ev_succ
      simp only [spec_l25RequestOk_L4, show (0 : Int) < ((x :: r).length : Int) by (rw [List.length_cons]; omega), show (0 : Int) ≤ 0 by omega, show ¬ (0 : Int) > 0 by omega, r1, decide_true, decide_false, cond_true, cond_false, param_spec hx, Option.bind_some]
      show Ev _ ((paramV x && names x r) && timesV a b c)
      cases paramV x with
      | false => exact ev_now _
      | true => exact h2
theorem req_impl {ps : List ByteArray} (a b c : List Int) (hs : Small ps) : impl_requestOk ps a b c = some (reqV ps a b c) := by
  refine evF_eq ?_
  unfold impl_requestOk_F reqV
  by_cases hl : (ps.length : Int) > 40
  · simp only [hl, decide_true, cond_true]
    exact ev_eq (ev_now _) (by rw [decide_eq_false (show ¬ ps.length ≤ 40 by omega)]; rfl)
  · simp only [hl, decide_false, cond_false]
    rw [decide_eq_true (show ps.length ≤ 40 by omega), Bool.true_and]
    cases hL : ps with
    | nil =>
      apply ev_succ
      simp only [impl_requestOk_L4, List.length_nil, show ¬ (0 : Int) < ((0 : Nat) : Int) by omega, decide_false, cond_false, rises_impl, Option.bind_some, names0, Bool.true_and]
      unfold timesV
      cases riseV a 0 52596000 <;> cases riseV b 0 360 <;> exact ev_now _
    | cons x r =>
      have hx : x.size ≤ 9223372036854775807 := hs x (by rw [hL]; exact List.mem_cons_self ..)
      have h2 := req_loop_impl (ps := x :: r) (a := a) (b := b) (c := c) (by rw [← hL]; omega) (by rw [← hL]; exact hs) r.length 0 (by simp) (by simp)
      have r1 : rd Kind.str (x :: r) 0 = x := rd_nat (k := .str) (n := 0) (by simp)
      apply ev_succ
      simp only [impl_requestOk_L4, show (0 : Int) < ((x :: r).length : Int) by (rw [List.length_cons]; omega), show (0 : Int) ≤ 0 by omega, show ¬ (0 : Int) > 0 by omega, r1, decide_true, decide_false, cond_true, cond_false, param_impl hx, Option.bind_some]
      show Ev _ ((paramV x && names x r) && timesV a b c)
      cases paramV x with
      | false => exact ev_now _
      | true => exact h2
end Go.Proofs.YtgkejafaggaocaaDoor.RQ

namespace Go.Proofs.YtgkejafaggaocaaDoor.RQ
open Go Go.Eng Go.Proofs.YtgkejafaggaocaaDoor.DT Go.Proofs.YtgkejafaggaocaaDoor.EX
def J (sep : UInt8) (xs : List ByteArray) : List UInt8 := Lib.join (xs.map L) [sep]
theorem tail_len (sep : List UInt8) (c : Nat) : ∀ (xs : List ByteArray), (∀ x ∈ xs, x.size ≤ c) → (Lib.joinTail sep (xs.map L)).length ≤ xs.length * (sep.length + c)
  | [], _ => by simp [Lib.joinTail]
  | x :: r, h => by
    have h1 := tail_len sep c r fun y hy => h y (List.mem_cons_of_mem _ hy)
    have h2 := h x (List.mem_cons_self ..)
    have e : Lib.joinTail sep ((x :: r).map L) = sep ++ L x ++ Lib.joinTail sep (r.map L) := by simp [Lib.joinTail]
    rw [e, List.length_append, List.length_append, L_length, List.length_cons, Nat.add_mul]
    omega
theorem J_len {sep : UInt8} {c : Nat} {xs : List ByteArray} (h : ∀ x ∈ xs, x.size ≤ c) : (J sep xs).length ≤ xs.length * (1 + c) := by
  unfold J
  cases xs with
  | nil => simp [Lib.join]
  | cons x r =>
    have h1 := tail_len [sep] c r fun y hy => h y (List.mem_cons_of_mem _ hy)
    have h2 := h x (List.mem_cons_self ..)
    rw [List.map_cons, Lib.join_cons, List.length_append, L_length, List.length_cons, Nat.add_mul]
    simp only [List.length_singleton] at h1
    omega
theorem join_eq {sep : UInt8} {xs : List ByteArray} (hl : xs.length ≤ 1000) (hs : ∀ x ∈ xs, x.size ≤ 100000) : dJoin xs (bs [sep]) = some (bs (J sep xs)) := by
  have h := J_len (sep := sep) (c := 100000) hs
  have h2 : xs.length * (1 + 100000) ≤ 1000 * (1 + 100000) := Nat.mul_le_mul_right _ hl
  have e : Lib.join (xs.map (·.data.toList)) (bs [sep]).data.toList = J sep xs := rfl
  unfold dJoin
  rw [e, decide_eq_true (show xs.length ≤ 140737488355328 by omega), decide_eq_true (show (J sep xs).length ≤ 140737488355328 by omega)]
  rfl
end Go.Proofs.YtgkejafaggaocaaDoor.RQ

namespace Go.Proofs.YtgkejafaggaocaaDoor.RQ
open Go Go.Eng Go.Proofs.YtgkejafaggaocaaDoor.DT Go.Proofs.YtgkejafaggaocaaDoor.EX
theorem max16 : 2000 ≤ maxBytes / 16 := by decide
/-- The parts with one more. -/
def addV (w : ByteArray) (vals l : List ByteArray) : List ByteArray := if vals.length = 0 then l else l ++ [w ++ bs [61] ++ bs (J 47 vals)]
theorem add1_loop {w : ByteArray} {l vals ps : List ByteArray} {a b c : List Int} (hv : vals.length ≤ 40) (hs : ∀ x ∈ vals, x.size ≤ 1000) (hw : w.size ≤ 1000) (hl : l.length ≤ 1000)
    (hof : ∀ (i : Nat) (h : i < vals.length), Q1.impl_RequestText_2 (i : Int) ps a b c = some (vals[i], ps, a, b, c)) : ∀ (m n : Nat), vals.length - n = m → n ≤ vals.length →
    Ev (fun k => Q1.impl_RequestText_1_L2 k w (vals.length : Int) (n : Int) ps a b c l (vals.take n)) (ps, a, b, c, addV w vals l)
  | 0, n, hm, hn => by
    obtain rfl : n = vals.length := by omega
    have hJ := J_len (sep := 47) (c := 1000) hs
    have hJ2 : vals.length * (1 + 1000) ≤ 40 * (1 + 1000) := Nat.mul_le_mul_right _ hv
    have h61 : (bs [61]).size = 1 := rfl
    have hmx := max16
    apply ev_succ
    unfold addV
    by_cases h0 : vals.length = 0
    · simp only [Q1.impl_RequestText_1_L2, show ¬ (vals.length : Int) < (vals.length : Int) by omega, show ¬ (vals.length : Int) > 0 by omega, decide_false, cond_false]
      rw [if_pos h0]
      exact ev_now _
    · simp only [Q1.impl_RequestText_1_L2, show ¬ (vals.length : Int) < (vals.length : Int) by omega, show (vals.length : Int) > 0 by omega, decide_true, decide_false, cond_true, cond_false, h61, show w.size + 1 ≤ 9223372036854775807 by omega, List.take_length, join_eq (sep := 47) (xs := vals) (by omega) (fun x hx => Nat.le_trans (hs x hx) (by omega)), Option.bind_some, ByteArray.size_append, size_bs, List.length_singleton, show w.size + 1 + (J 47 vals).length ≤ 9223372036854775807 by omega, show l.length + 1 ≤ maxBytes / 16 by omega]
      rw [if_neg h0]
      exact ev_now _
  | m + 1, n, hm, hn => by
    have h1 : n < vals.length := by omega
    have hmx := max16
    have ht : (vals.take n).length = n := by rw [List.length_take]; omega
    apply ev_succ
    simp only [Q1.impl_RequestText_1_L2, show (n : Int) < (vals.length : Int) by omega, decide_true, cond_true, hof n h1, Option.bind_some, ht, List.length_singleton, show n + 1 ≤ maxBytes / 16 by omega, wsucc (show n < 9223372036854775807 by omega)]
    rw [List.take_append_getElem h1]
    exact add1_loop hv hs hw hl hof m (n + 1) (by omega) (by omega)
theorem add1_eq {w : ByteArray} {l vals ps : List ByteArray} {a b c : List Int} (hv : vals.length ≤ 40) (hs : ∀ x ∈ vals, x.size ≤ 1000) (hw : w.size ≤ 1000) (hl : l.length ≤ 1000)
    (hof : ∀ (i : Nat) (h : i < vals.length), Q1.impl_RequestText_2 (i : Int) ps a b c = some (vals[i], ps, a, b, c)) : Q1.impl_RequestText_1 w (vals.length : Int) ps a b c l = some (ps, a, b, c, addV w vals l) := by
  refine evF_eq ?_
  have := add1_loop (w := w) (l := l) hv hs hw hl hof vals.length 0 (by omega) (by omega)
  rw [List.take_zero] at this
  exact this
theorem add2_loop {w : ByteArray} {l vals ps : List ByteArray} {a b c : List Int} (hv : vals.length ≤ 40) (hs : ∀ x ∈ vals, x.size ≤ 1000) (hw : w.size ≤ 1000) (hl : l.length ≤ 1000)
    (hof : ∀ (i : Nat) (h : i < vals.length), Q2.impl_RequestText_3 (i : Int) ps a b c = some (vals[i], ps, a, b, c)) : ∀ (m n : Nat), vals.length - n = m → n ≤ vals.length →
    Ev (fun k => Q2.impl_RequestText_1_L2 k w (vals.length : Int) (n : Int) ps a b c l (vals.take n)) (ps, a, b, c, addV w vals l)
  | 0, n, hm, hn => by
    obtain rfl : n = vals.length := by omega
    have hJ := J_len (sep := 47) (c := 1000) hs
    have hJ2 : vals.length * (1 + 1000) ≤ 40 * (1 + 1000) := Nat.mul_le_mul_right _ hv
    have h61 : (bs [61]).size = 1 := rfl
    have hmx := max16
    apply ev_succ
    unfold addV
    by_cases h0 : vals.length = 0
    · simp only [Q2.impl_RequestText_1_L2, show ¬ (vals.length : Int) < (vals.length : Int) by omega, show ¬ (vals.length : Int) > 0 by omega, decide_false, cond_false]
      rw [if_pos h0]
      exact ev_now _
    · simp only [Q2.impl_RequestText_1_L2, show ¬ (vals.length : Int) < (vals.length : Int) by omega, show (vals.length : Int) > 0 by omega, decide_true, decide_false, cond_true, cond_false, h61, show w.size + 1 ≤ 9223372036854775807 by omega, List.take_length, join_eq (sep := 47) (xs := vals) (by omega) (fun x hx => Nat.le_trans (hs x hx) (by omega)), Option.bind_some, ByteArray.size_append, size_bs, List.length_singleton, show w.size + 1 + (J 47 vals).length ≤ 9223372036854775807 by omega, show l.length + 1 ≤ maxBytes / 16 by omega]
      rw [if_neg h0]
      exact ev_now _
  | m + 1, n, hm, hn => by
    have h1 : n < vals.length := by omega
    have hmx := max16
    have ht : (vals.take n).length = n := by rw [List.length_take]; omega
    apply ev_succ
    simp only [Q2.impl_RequestText_1_L2, show (n : Int) < (vals.length : Int) by omega, decide_true, cond_true, hof n h1, Option.bind_some, ht, List.length_singleton, show n + 1 ≤ maxBytes / 16 by omega, wsucc (show n < 9223372036854775807 by omega)]
    rw [List.take_append_getElem h1]
    exact add2_loop hv hs hw hl hof m (n + 1) (by omega) (by omega)
theorem add2_eq {w : ByteArray} {l vals ps : List ByteArray} {a b c : List Int} (hv : vals.length ≤ 40) (hs : ∀ x ∈ vals, x.size ≤ 1000) (hw : w.size ≤ 1000) (hl : l.length ≤ 1000)
    (hof : ∀ (i : Nat) (h : i < vals.length), Q2.impl_RequestText_3 (i : Int) ps a b c = some (vals[i], ps, a, b, c)) : Q2.impl_RequestText_1 w (vals.length : Int) ps a b c l = some (ps, a, b, c, addV w vals l) := by
  refine evF_eq ?_
  have := add2_loop (w := w) (l := l) hv hs hw hl hof vals.length 0 (by omega) (by omega)
  rw [List.take_zero] at this
  exact this
theorem add3_loop {w : ByteArray} {l vals ps : List ByteArray} {a b c : List Int} (hv : vals.length ≤ 40) (hs : ∀ x ∈ vals, x.size ≤ 1000) (hw : w.size ≤ 1000) (hl : l.length ≤ 1000)
    (hof : ∀ (i : Nat) (h : i < vals.length), Q3.impl_RequestText_4 (i : Int) ps a b c = some (vals[i], ps, a, b, c)) : ∀ (m n : Nat), vals.length - n = m → n ≤ vals.length →
    Ev (fun k => Q3.impl_RequestText_1_L2 k w (vals.length : Int) (n : Int) ps a b c l (vals.take n)) (ps, a, b, c, addV w vals l)
  | 0, n, hm, hn => by
    obtain rfl : n = vals.length := by omega
    have hJ := J_len (sep := 47) (c := 1000) hs
    have hJ2 : vals.length * (1 + 1000) ≤ 40 * (1 + 1000) := Nat.mul_le_mul_right _ hv
    have h61 : (bs [61]).size = 1 := rfl
    have hmx := max16
    apply ev_succ
    unfold addV
    by_cases h0 : vals.length = 0
    · simp only [Q3.impl_RequestText_1_L2, show ¬ (vals.length : Int) < (vals.length : Int) by omega, show ¬ (vals.length : Int) > 0 by omega, decide_false, cond_false]
      rw [if_pos h0]
      exact ev_now _
    · simp only [Q3.impl_RequestText_1_L2, show ¬ (vals.length : Int) < (vals.length : Int) by omega, show (vals.length : Int) > 0 by omega, decide_true, decide_false, cond_true, cond_false, h61, show w.size + 1 ≤ 9223372036854775807 by omega, List.take_length, join_eq (sep := 47) (xs := vals) (by omega) (fun x hx => Nat.le_trans (hs x hx) (by omega)), Option.bind_some, ByteArray.size_append, size_bs, List.length_singleton, show w.size + 1 + (J 47 vals).length ≤ 9223372036854775807 by omega, show l.length + 1 ≤ maxBytes / 16 by omega]
      rw [if_neg h0]
      exact ev_now _
  | m + 1, n, hm, hn => by
    have h1 : n < vals.length := by omega
    have hmx := max16
    have ht : (vals.take n).length = n := by rw [List.length_take]; omega
    apply ev_succ
    simp only [Q3.impl_RequestText_1_L2, show (n : Int) < (vals.length : Int) by omega, decide_true, cond_true, hof n h1, Option.bind_some, ht, List.length_singleton, show n + 1 ≤ maxBytes / 16 by omega, wsucc (show n < 9223372036854775807 by omega)]
    rw [List.take_append_getElem h1]
    exact add3_loop hv hs hw hl hof m (n + 1) (by omega) (by omega)
theorem add3_eq {w : ByteArray} {l vals ps : List ByteArray} {a b c : List Int} (hv : vals.length ≤ 40) (hs : ∀ x ∈ vals, x.size ≤ 1000) (hw : w.size ≤ 1000) (hl : l.length ≤ 1000)
    (hof : ∀ (i : Nat) (h : i < vals.length), Q3.impl_RequestText_4 (i : Int) ps a b c = some (vals[i], ps, a, b, c)) : Q3.impl_RequestText_1 w (vals.length : Int) ps a b c l = some (ps, a, b, c, addV w vals l) := by
  refine evF_eq ?_
  have := add3_loop (w := w) (l := l) hv hs hw hl hof vals.length 0 (by omega) (by omega)
  rw [List.take_zero] at this
  exact this
theorem add4_loop {w : ByteArray} {l vals ps : List ByteArray} {a b c : List Int} (hv : vals.length ≤ 40) (hs : ∀ x ∈ vals, x.size ≤ 1000) (hw : w.size ≤ 1000) (hl : l.length ≤ 1000)
    (hof : ∀ (i : Nat) (h : i < vals.length), Q4.impl_RequestText_5 (i : Int) ps a b c = some (vals[i], ps, a, b, c)) : ∀ (m n : Nat), vals.length - n = m → n ≤ vals.length →
    Ev (fun k => Q4.impl_RequestText_1_L2 k w (vals.length : Int) (n : Int) ps a b c l (vals.take n)) (ps, a, b, c, addV w vals l)
  | 0, n, hm, hn => by
    obtain rfl : n = vals.length := by omega
    have hJ := J_len (sep := 47) (c := 1000) hs
    have hJ2 : vals.length * (1 + 1000) ≤ 40 * (1 + 1000) := Nat.mul_le_mul_right _ hv
    have h61 : (bs [61]).size = 1 := rfl
    have hmx := max16
    apply ev_succ
    unfold addV
    by_cases h0 : vals.length = 0
    · simp only [Q4.impl_RequestText_1_L2, show ¬ (vals.length : Int) < (vals.length : Int) by omega, show ¬ (vals.length : Int) > 0 by omega, decide_false, cond_false]
      rw [if_pos h0]
      exact ev_now _
    · simp only [Q4.impl_RequestText_1_L2, show ¬ (vals.length : Int) < (vals.length : Int) by omega, show (vals.length : Int) > 0 by omega, decide_true, decide_false, cond_true, cond_false, h61, show w.size + 1 ≤ 9223372036854775807 by omega, List.take_length, join_eq (sep := 47) (xs := vals) (by omega) (fun x hx => Nat.le_trans (hs x hx) (by omega)), Option.bind_some, ByteArray.size_append, size_bs, List.length_singleton, show w.size + 1 + (J 47 vals).length ≤ 9223372036854775807 by omega, show l.length + 1 ≤ maxBytes / 16 by omega]
      rw [if_neg h0]
      exact ev_now _
  | m + 1, n, hm, hn => by
    have h1 : n < vals.length := by omega
    have hmx := max16
    have ht : (vals.take n).length = n := by rw [List.length_take]; omega
    apply ev_succ
    simp only [Q4.impl_RequestText_1_L2, show (n : Int) < (vals.length : Int) by omega, decide_true, cond_true, hof n h1, Option.bind_some, ht, List.length_singleton, show n + 1 ≤ maxBytes / 16 by omega, wsucc (show n < 9223372036854775807 by omega)]
    rw [List.take_append_getElem h1]
    exact add4_loop hv hs hw hl hof m (n + 1) (by omega) (by omega)
theorem add4_eq {w : ByteArray} {l vals ps : List ByteArray} {a b c : List Int} (hv : vals.length ≤ 40) (hs : ∀ x ∈ vals, x.size ≤ 1000) (hw : w.size ≤ 1000) (hl : l.length ≤ 1000)
    (hof : ∀ (i : Nat) (h : i < vals.length), Q4.impl_RequestText_5 (i : Int) ps a b c = some (vals[i], ps, a, b, c)) : Q4.impl_RequestText_1 w (vals.length : Int) ps a b c l = some (ps, a, b, c, addV w vals l) := by
  refine evF_eq ?_
  have := add4_loop (w := w) (l := l) hv hs hw hl hof vals.length 0 (by omega) (by omega)
  rw [List.take_zero] at this
  exact this
end Go.Proofs.YtgkejafaggaocaaDoor.RQ

namespace Go.Proofs.YtgkejafaggaocaaDoor.RQ
open Go Go.Eng Go.Proofs.YtgkejafaggaocaaDoor.DT Go.Proofs.YtgkejafaggaocaaDoor.EX
theorem tail_cons (sep y : List UInt8) (r : List (List UInt8)) : Lib.joinTail sep (y :: r) = sep ++ y ++ Lib.joinTail sep r := by simp [Lib.joinTail]
theorem part_loop {vals : List ByteArray} (hv : vals.length ≤ 40) (hs : ∀ x ∈ vals, x.size ≤ 1000) : ∀ (m n : Nat) (s : ByteArray), vals.length - n = m → 1 ≤ n → n ≤ vals.length → s.size ≤ 5000 * (n + 1) →
    Ev (fun k => spec_l25Part_L5 k vals s (n : Int)) (bs (L s ++ Lib.joinTail [47] ((vals.drop n).map L)))
  | 0, n, s, hm, h1, hn, hz => by
    apply ev_succ
    simp only [spec_l25Part_L5, show ¬ (n : Int) < (vals.length : Int) by omega, decide_false, cond_false]
    rw [List.drop_eq_nil_of_le (by omega), List.map_nil, show Lib.joinTail [47] [] = [] from rfl, List.append_nil, bs_L]
    exact ev_now _
  | m + 1, n, s, hm, h1, hn, hz => by
    have h2 : n < vals.length := by omega
    have r1 : rd Kind.str vals (n : Int) = vals[n] := rd_nat (k := .str) h2
    have hx := hs vals[n] (List.getElem_mem h2)
    have e47 : (bs [47]).size = 1 := rfl
    apply ev_succ
    simp only [spec_l25Part_L5, show (n : Int) < (vals.length : Int) by omega, show (n : Int) > 0 by omega, show (0 : Int) ≤ (n : Int) by omega, r1, ByteArray.size_append, e47, show s.size + 1 ≤ 9223372036854775807 by omega, show s.size + 1 + vals[n].size ≤ 9223372036854775807 by omega, decide_true, cond_true, wsucc (show n < 9223372036854775807 by omega)]
    refine ev_eq (part_loop hv hs m (n + 1) _ (by omega) (by omega) (by omega) (by rw [ByteArray.size_append, ByteArray.size_append, e47]; omega)) ?_
    rw [drop_cons h2, List.map_cons, tail_cons, L_append, L_append, L_bs]
    simp only [List.append_assoc]
/-- A part's text. -/
def partV (w : ByteArray) (vals : List ByteArray) : ByteArray := if vals.length = 0 then bs [] else w ++ bs [61] ++ bs (J 47 vals)
theorem part_eq {w : ByteArray} {vals : List ByteArray} (hv : vals.length ≤ 40) (hs : ∀ x ∈ vals, x.size ≤ 1000) (hw : w.size ≤ 1000) : spec_l25Part w vals = some (partV w vals) := by
  refine evF_eq ?_
  unfold spec_l25Part_F partV
  cases hV : vals with
  | nil => exact ev_now _
  | cons x r =>
    have hx := hs x (by rw [hV]; exact List.mem_cons_self ..)
    have e61 : (bs [61]).size = 1 := rfl
    have hz : (w ++ bs [61]).size = w.size + 1 := by rw [ByteArray.size_append, e61]
    have h0 : ((((x :: r).length : Nat) : Int) == 0) = false := by rw [beqI, decide_eq_false_iff_not, List.length_cons]; omega
    have r1 : rd Kind.str (x :: r) 0 = x := rd_nat (k := .str) (n := 0) (by simp)
    have hlp := part_loop (vals := x :: r) (by rw [← hV]; exact hv) (by rw [← hV]; exact hs) r.length 1 (w ++ bs [61] ++ x) (by simp) (by omega) (by simp) (by rw [ByteArray.size_append, hz]; omega)
    rw [h0, if_neg (by simp), e61]
    simp only [cond_false, show w.size + 1 ≤ 9223372036854775807 by omega, decide_true, cond_true]
    apply ev_succ
    simp only [spec_l25Part_L5, show (0 : Int) < ((x :: r).length : Int) by (rw [List.length_cons]; omega), show ¬ (0 : Int) > 0 by omega, show (0 : Int) ≤ 0 by omega, r1, hz, show w.size + 1 + x.size ≤ 9223372036854775807 by omega, decide_true, decide_false, cond_true, cond_false, show IntKind.i64.wrap (0 + 1) = ((1 : Nat) : Int) from rfl]
    refine ev_eq hlp (L_inj ?_)
    unfold J
    rw [List.map_cons, Lib.join_cons, L_bs, L_append, L_append, L_append, L_append, L_bs]
    simp only [List.drop_succ_cons, List.drop_zero, List.append_assoc, L_bs]
end Go.Proofs.YtgkejafaggaocaaDoor.RQ

namespace Go.Proofs.YtgkejafaggaocaaDoor.RQ
open Go Go.Eng Go.Proofs.YtgkejafaggaocaaDoor.DT Go.Proofs.YtgkejafaggaocaaDoor.EX Go.Proofs.YtgkejafaggaocaaDoor.ST Go.Proofs.YtgkejafaggaocaaDoor.QV
def decT (l : List Int) : List ByteArray := l.map fun x => bs (Lib.itoa x)
noncomputable def stT (l : List Int) : List ByteArray := l.map fun x => (spec_Stamp x).getD (bs [])
def In64 (l : List Int) : Prop := ∀ x ∈ l, -9223372036854775808 ≤ x ∧ x ≤ 9223372036854775807
theorem rise_in {l : List Int} {lo hi : Int} (h : riseV l lo hi = true) : l.length ≤ 40 ∧ ∀ x ∈ l, lo ≤ x ∧ x ≤ hi := by
  unfold riseV at h
  rw [Bool.and_eq_true, Bool.and_eq_true, decide_eq_true_eq, List.all_eq_true] at h
  refine ⟨h.1, fun x hx => ?_⟩
  have := h.2.1 x hx
  unfold rng at this
  rw [Bool.and_eq_true, decide_eq_true_eq, decide_eq_true_eq] at this
  exact this
theorem decs_loop {l : List Int} (hl : l.length ≤ 40) (hi : In64 l) : ∀ (m n : Nat), l.length - n = m → n ≤ l.length →
    Ev (fun k => spec_l25Decs_L3 k l (n : Int) ((decT l).take n)) (decT l)
  | 0, n, hm, hn => by
    obtain rfl : n = l.length := by omega
    apply ev_succ
    simp only [spec_l25Decs_L3, show ¬ (l.length : Int) < (l.length : Int) by omega, decide_false, cond_false]
    rw [show l.length = (decT l).length by unfold decT; rw [List.length_map], List.take_length]
    exact ev_now _
  | m + 1, n, hm, hn => by
    have h1 : n < l.length := by omega
    have h1' : n < (decT l).length := by unfold decT; rw [List.length_map]; exact h1
    have hmx := max16
    have r1 : rd (Kind.int IntKind.i64) l (n : Int) = l[n] := rd_nat (k := .int .i64) h1
    have hx := hi l[n] (List.getElem_mem h1)
    have ht : ((decT l).take n).length = n := by rw [List.length_take]; omega
    have e : bs (Lib.itoa l[n]) = (decT l)[n] := (List.getElem_map (fun x => bs (Lib.itoa x))).symm
    apply ev_succ
    simp only [spec_l25Decs_L3, show (n : Int) < (l.length : Int) by omega, show (0 : Int) ≤ (n : Int) by omega, r1, l1Dec_eq hx.1 hx.2, Option.bind_some, ht, List.length_singleton, show n + 1 ≤ maxBytes / 16 by omega, decide_true, cond_true, wsucc (show n < 9223372036854775807 by omega)]
    rw [e, List.take_append_getElem h1']
    exact decs_loop hl hi m (n + 1) (by omega) (by omega)
theorem decs_eq {l : List Int} (hl : l.length ≤ 40) (hi : In64 l) : spec_l25Decs l = some (decT l) := by
  refine evF_eq ?_
  exact decs_loop hl hi l.length 0 (by omega) (by omega)
end Go.Proofs.YtgkejafaggaocaaDoor.RQ

namespace Go.Proofs.YtgkejafaggaocaaDoor.RQ
open Go Go.Eng Go.Proofs.YtgkejafaggaocaaDoor.DT Go.Proofs.YtgkejafaggaocaaDoor.EX Go.Proofs.YtgkejafaggaocaaDoor.ST Go.Proofs.YtgkejafaggaocaaDoor.QV
theorem names_all : ∀ (r : List ByteArray) (p : ByteArray), names p r = true → ∀ x ∈ r, paramV x = true
  | [], _, _, x, hx => by cases hx
  | y :: r, p, h, x, hx => by
    unfold names at h
    rw [Bool.and_eq_true, Bool.and_eq_true] at h
    rcases List.mem_cons.1 hx with rfl | hx
    · exact h.1
    · exact names_all r y h.2.2 x hx
theorem names0_all {ps : List ByteArray} (h : names0 ps = true) : ∀ x ∈ ps, x.size ≤ 4 := by
  have key : ∀ x, paramV x = true → x.size ≤ 4 := fun x hx => by
    unfold paramV at hx
    rw [Bool.and_eq_true, Bool.and_eq_true, decide_eq_true_eq, decide_eq_true_eq] at hx
    exact hx.2.2
  cases ps with
  | nil => intro x hx; cases hx
  | cons y r =>
    unfold names0 at h
    rw [Bool.and_eq_true] at h
    intro x hx
    rcases List.mem_cons.1 hx with rfl | hx
    · exact key _ h.1
    · exact key _ (names_all r y h.2 x hx)
/-- The parts that stand. -/
noncomputable def chain (ps : List ByteArray) (a b c : List Int) : List ByteArray :=
  addV (bs [108, 101, 118, 101, 108]) (decT c) (addV (bs [115, 116, 101, 112]) (decT b) (addV (bs [116, 105, 109, 101]) (stT a) (addV (bs [112, 97, 114, 97, 109]) ps [])))
theorem addV_len (w : ByteArray) (v l : List ByteArray) : (addV w v l).length ≤ l.length + 1 := by
  unfold addV
  split
  · omega
  · simp
theorem stamp_of {a : List Int} (h : ∀ x ∈ a, 0 ≤ x ∧ x ≤ 52596000) : ∀ x ∈ a, impl_Stamp x = some ((spec_Stamp x).getD (bs [])) ∧ spec_Stamp x = some ((spec_Stamp x).getD (bs [])) ∧ ((spec_Stamp x).getD (bs [])).size = 17 := fun x hx => by
  obtain ⟨s, h1, h2, h3⟩ := stamp_both (h x hx).1 (h x hx).2
  rw [h2]
  exact ⟨h1, rfl, h3⟩
theorem decT_size {l : List Int} (h : In64 l) : ∀ x ∈ decT l, x.size ≤ 1000 := fun x hx => by
  unfold decT at hx
  obtain ⟨n, hn, rfl⟩ := List.mem_map.1 hx
  have := itoa_len (h n hn).1 (h n hn).2
  rw [size_bs]; omega
theorem text_impl {ps : List ByteArray} {a b c : List Int} (hs : Small ps) (hr : reqV ps a b c = true) : impl_RequestText ps a b c = dJoin (chain ps a b c) (bs [44]) := by
  have hr' := hr
  unfold reqV timesV at hr'
  rw [Bool.and_eq_true, Bool.and_eq_true, Bool.and_eq_true, Bool.and_eq_true, decide_eq_true_eq] at hr'
  obtain ⟨hl, hn, ha, hb, hc⟩ := hr'
  have hps := names0_all hn
  obtain ⟨la, ia⟩ := rise_in ha
  obtain ⟨lb, ib⟩ := rise_in hb
  obtain ⟨lc, ic⟩ := rise_in hc
  have hst := stamp_of ia
  have db : In64 b := fun x hx => by have := ib x hx; omega
  have dc : In64 c := fun x hx => by have := ic x hx; omega
  have s0 : (addV (bs [112, 97, 114, 97, 109]) ps []).length ≤ 1 := addV_len _ _ _
  have s1 : (addV (bs [116, 105, 109, 101]) (stT a) (addV (bs [112, 97, 114, 97, 109]) ps [])).length ≤ 2 := Nat.le_trans (addV_len _ _ _) (by omega)
  have s2 : (addV (bs [115, 116, 101, 112]) (decT b) (addV (bs [116, 105, 109, 101]) (stT a) (addV (bs [112, 97, 114, 97, 109]) ps []))).length ≤ 3 := Nat.le_trans (addV_len _ _ _) (by omega)
  have e1 := add1_eq (w := bs [112, 97, 114, 97, 109]) (l := []) (vals := ps) (ps := ps) (a := a) (b := b) (c := c) hl (fun x hx => Nat.le_trans (hps x hx) (by omega)) (by decide) (by simp) (fun i h => by
    have r1 : rd Kind.str ps (i : Int) = ps[i] := rd_nat (k := .str) h
    unfold Q1.impl_RequestText_2
    simp only [show (0 : Int) ≤ (i : Int) by omega, show (i : Int) < (ps.length : Int) by omega, decide_true, cond_true, r1])
  have e2 := add2_eq (w := bs [116, 105, 109, 101]) (l := addV (bs [112, 97, 114, 97, 109]) ps []) (vals := stT a) (ps := ps) (a := a) (b := b) (c := c) (by unfold stT; rw [List.length_map]; exact la) (fun x hx => by
    unfold stT at hx
    obtain ⟨n, hn, rfl⟩ := List.mem_map.1 hx
    have := (hst n hn).2.2
    omega) (by decide) (by omega) (fun i h => by
    have h' : i < a.length := by unfold stT at h; rwa [List.length_map] at h
    have r1 : rd (Kind.int IntKind.i64) a (i : Int) = a[i] := rd_nat (k := .int .i64) h'
    have e : (stT a)[i] = (spec_Stamp a[i]).getD (bs []) := List.getElem_map _
    unfold Q2.impl_RequestText_3
    simp only [show (0 : Int) ≤ (i : Int) by omega, show (i : Int) < (a.length : Int) by omega, decide_true, cond_true, r1, (hst a[i] (List.getElem_mem h')).1, Option.bind_some, e])
  have e3 := add3_eq (w := bs [115, 116, 101, 112]) (l := addV (bs [116, 105, 109, 101]) (stT a) (addV (bs [112, 97, 114, 97, 109]) ps [])) (vals := decT b) (ps := ps) (a := a) (b := b) (c := c) (by unfold decT; rw [List.length_map]; exact lb) (decT_size db) (by decide) (by omega) (fun i h => by
    have h' : i < b.length := by unfold decT at h; rwa [List.length_map] at h
    have r1 : rd (Kind.int IntKind.i64) b (i : Int) = b[i] := rd_nat (k := .int .i64) h'
    have e : (decT b)[i] = bs (Lib.itoa b[i]) := List.getElem_map _
    have hx := db b[i] (List.getElem_mem h')
    unfold Q3.impl_RequestText_4
    simp only [show (0 : Int) ≤ (i : Int) by omega, show (i : Int) < (b.length : Int) by omega, decide_true, cond_true, r1, dec_eq hx.1 hx.2, Option.bind_some, e])
  have e4 := add4_eq (w := bs [108, 101, 118, 101, 108]) (l := addV (bs [115, 116, 101, 112]) (decT b) (addV (bs [116, 105, 109, 101]) (stT a) (addV (bs [112, 97, 114, 97, 109]) ps []))) (vals := decT c) (ps := ps) (a := a) (b := b) (c := c) (by unfold decT; rw [List.length_map]; exact lc) (decT_size dc) (by decide) (by omega) (fun i h => by
    have h' : i < c.length := by unfold decT at h; rwa [List.length_map] at h
    have r1 : rd (Kind.int IntKind.i64) c (i : Int) = c[i] := rd_nat (k := .int .i64) h'
    have e : (decT c)[i] = bs (Lib.itoa c[i]) := List.getElem_map _
    have hx := dc c[i] (List.getElem_mem h')
    unfold Q4.impl_RequestText_5
    simp only [show (0 : Int) ≤ (i : Int) by omega, show (i : Int) < (c.length : Int) by omega, decide_true, cond_true, r1, dec_eq hx.1 hx.2, Option.bind_some, e])
  rw [show (stT a).length = a.length by unfold stT; rw [List.length_map]] at e2
  rw [show (decT b).length = b.length by unfold decT; rw [List.length_map]] at e3
  rw [show (decT c).length = c.length by unfold decT; rw [List.length_map]] at e4
  unfold impl_RequestText
  simp only [req_impl a b c hs, hr, Option.bind_some, Bool.not_true, cond_false, add_51, add_52, add_54, add_55, e1, e2, e3, e4]
  unfold chain
  cases dJoin _ (bs [44]) <;> rfl
end Go.Proofs.YtgkejafaggaocaaDoor.RQ

namespace Go.Proofs.YtgkejafaggaocaaDoor.RQ
open Go Go.Eng Go.Proofs.YtgkejafaggaocaaDoor.DT Go.Proofs.YtgkejafaggaocaaDoor.EX Go.Proofs.YtgkejafaggaocaaDoor.ST Go.Proofs.YtgkejafaggaocaaDoor.QV
/-- Texts with commas between those that are not empty. -/
def commas : ByteArray → List ByteArray → ByteArray
  | s, [] => s
  | s, p :: r => if p ≠ bs [] ∧ s ≠ bs [] then commas (s ++ bs [44] ++ p) r else commas (s ++ p) r
theorem comma_loop {P : List ByteArray} (hP : P.length ≤ 1000) (hs : ∀ x ∈ P, x.size ≤ 1000000) : ∀ (m n : Nat) (s : ByteArray), P.length - n = m → n ≤ P.length → s.size ≤ 2000000 * n →
    Ev (fun k => spec_RequestText_L11 k s (n : Int) P) (commas s (P.drop n))
  | 0, n, s, hm, hn, hz => by
    apply ev_succ
    simp only [spec_RequestText_L11, show ¬ (n : Int) < (P.length : Int) by omega, decide_false, cond_false]
    rw [List.drop_eq_nil_of_le (by omega)]
    exact ev_now _
  | m + 1, n, s, hm, hn, hz => by
    have h1 : n < P.length := by omega
    have r1 : rd Kind.str P (n : Int) = P[n] := rd_nat (k := .str) h1
    have hx := hs P[n] (List.getElem_mem h1)
    have e44 : (bs [44]).size = 1 := rfl
    apply ev_succ
    rw [drop_cons h1]
    simp only [spec_RequestText_L11, show (n : Int) < (P.length : Int) by omega, show (0 : Int) ≤ (n : Int) by omega, r1, beq_bytes, ByteArray.size_append, e44, show s.size + 1 ≤ 9223372036854775807 by omega, show s.size + 1 + P[n].size ≤ 9223372036854775807 by omega, show s.size + P[n].size ≤ 9223372036854775807 by omega, decide_true, cond_true, wsucc (show n < 9223372036854775807 by omega)]
    unfold commas
    by_cases c1 : P[n] = bs []
    · rw [if_neg (fun h => h.1 c1), decide_eq_true c1]
      exact comma_loop hP hs m (n + 1) _ (by omega) (by omega) (by rw [ByteArray.size_append]; omega)
    · by_cases c2 : s = bs []
      · rw [if_neg (fun h => h.2 c2), decide_eq_false c1, decide_eq_true c2]
        exact comma_loop hP hs m (n + 1) _ (by omega) (by omega) (by rw [ByteArray.size_append]; omega)
      · rw [if_pos ⟨c1, c2⟩, decide_eq_false c1, decide_eq_false c2]
        exact comma_loop hP hs m (n + 1) _ (by omega) (by omega) (by rw [ByteArray.size_append, ByteArray.size_append, e44]; omega)
end Go.Proofs.YtgkejafaggaocaaDoor.RQ

namespace Go.Proofs.YtgkejafaggaocaaDoor.RQ
open Go Go.Eng Go.Proofs.YtgkejafaggaocaaDoor.DT Go.Proofs.YtgkejafaggaocaaDoor.EX Go.Proofs.YtgkejafaggaocaaDoor.ST Go.Proofs.YtgkejafaggaocaaDoor.QV
def full (P : List ByteArray) : List ByteArray := P.filter fun p => decide (p ≠ bs [])
theorem bs_ne {s : ByteArray} (h : 0 < s.size) : s ≠ bs [] := by
  rintro rfl
  exact absurd h (by decide)
theorem size_ne {s : ByteArray} (h : s ≠ bs []) : 0 < s.size := by
  rcases Nat.eq_zero_or_pos s.size with h0 | h0
  · exfalso
    apply h
    apply L_inj
    rw [L_bs]
    exact List.eq_nil_of_length_eq_zero (by rw [L_length]; exact h0)
  · exact h0
theorem app_nil (s : ByteArray) : s ++ bs [] = s := L_inj (by rw [L_append, L_bs, List.append_nil])
theorem nil_app (s : ByteArray) : bs [] ++ s = s := L_inj (by rw [L_append, L_bs, List.nil_append])
theorem commas_full : ∀ (P : List ByteArray) (s : ByteArray), s ≠ bs [] → commas s P = bs (L s ++ Lib.joinTail [44] ((full P).map L))
  | [], s, _ => by
    show s = _
    rw [show full [] = [] from rfl, List.map_nil, show Lib.joinTail [44] [] = [] from rfl, List.append_nil, bs_L]
  | p :: r, s, hs => by
    unfold commas
    by_cases hp : p = bs []
    · rw [if_neg (fun h => h.1 hp), hp, app_nil, commas_full r s hs]
      congr 3
    · have h1 : full (p :: r) = p :: full r := by unfold full; rw [List.filter_cons_of_pos (by simp [hp])]
      have h2 : s ++ bs [44] ++ p ≠ bs [] := bs_ne (by rw [ByteArray.size_append, ByteArray.size_append, show (bs [44]).size = 1 from rfl]; omega)
      rw [if_pos ⟨hp, hs⟩, commas_full r _ h2, h1, List.map_cons, tail_cons, L_append, L_append, L_bs]
      simp only [List.append_assoc]
theorem commas_join : ∀ P : List ByteArray, commas (bs []) P = bs (J 44 (full P))
  | [] => rfl
  | p :: r => by
    unfold commas
    rw [if_neg (fun h => h.2 rfl), nil_app]
    by_cases hp : p = bs []
    · rw [hp, commas_join r]
      congr 2
    · have h1 : full (p :: r) = p :: full r := by unfold full; rw [List.filter_cons_of_pos (by simp [hp])]
      rw [commas_full r p hp, h1]
      unfold J
      rw [List.map_cons, Lib.join_cons]
theorem addV_full (w : ByteArray) (v l : List ByteArray) : addV w v l = l ++ full [partV w v] := by
  unfold addV partV
  by_cases h : v.length = 0
  · rw [if_pos h, if_pos h, show full [bs []] = [] from rfl, List.append_nil]
  · rw [if_neg h, if_neg h]
    have : w ++ bs [61] ++ bs (J 47 v) ≠ bs [] := bs_ne (by rw [ByteArray.size_append, ByteArray.size_append, show (bs [61]).size = 1 from rfl]; omega)
    unfold full
    rw [List.filter_cons_of_pos (by simp [this])]; rfl
theorem chain_full (ps : List ByteArray) (a b c : List Int) : chain ps a b c = full [partV (bs [112, 97, 114, 97, 109]) ps, partV (bs [116, 105, 109, 101]) (stT a), partV (bs [115, 116, 101, 112]) (decT b), partV (bs [108, 101, 118, 101, 108]) (decT c)] := by
  unfold chain
  rw [addV_full, addV_full, addV_full, addV_full, List.nil_append]
  unfold full
  rw [← List.filter_append, ← List.filter_append, ← List.filter_append]
  rfl
end Go.Proofs.YtgkejafaggaocaaDoor.RQ

namespace Go.Proofs.YtgkejafaggaocaaDoor.RQ
open Go Go.Eng Go.Proofs.YtgkejafaggaocaaDoor.DT Go.Proofs.YtgkejafaggaocaaDoor.EX Go.Proofs.YtgkejafaggaocaaDoor.ST Go.Proofs.YtgkejafaggaocaaDoor.QV
theorem partV_size {w : ByteArray} {v : List ByteArray} (hv : v.length ≤ 40) (hs : ∀ x ∈ v, x.size ≤ 1000) (hw : w.size ≤ 1000) : (partV w v).size ≤ 1000000 := by
  have hJ := J_len (sep := 47) (c := 1000) hs
  have hJ2 : v.length * (1 + 1000) ≤ 40 * (1 + 1000) := Nat.mul_le_mul_right _ hv
  unfold partV
  split
  · exact Nat.zero_le _
  · simp only [ByteArray.size_append, size_bs, List.length_singleton]; omega
theorem stamps_loop {ps : List ByteArray} {a b c : List Int} (hl : ps.length ≤ 40) (hps : ∀ x ∈ ps, x.size ≤ 1000) (la : a.length ≤ 40) (lb : b.length ≤ 40) (lc : c.length ≤ 40) (db : In64 b) (dc : In64 c)
    (hst : ∀ x ∈ a, spec_Stamp x = some ((spec_Stamp x).getD (bs [])) ∧ ((spec_Stamp x).getD (bs [])).size = 17) : ∀ (m n : Nat), a.length - n = m → n ≤ a.length →
    Ev (fun k => spec_RequestText_L5 k (n : Int) ps a b c ((stT a).take n)) (bs (J 44 (chain ps a b c)))
  | 0, n, hm, hn => by
    obtain rfl : n = a.length := by omega
    have hsT : ∀ x ∈ stT a, x.size ≤ 1000 := fun x hx => by
      unfold stT at hx
      obtain ⟨y, hy, rfl⟩ := List.mem_map.1 hx
      have := (hst y hy).2
      omega
    have lT : (stT a).length = a.length := by unfold stT; rw [List.length_map]
    have lB : (decT b).length = b.length := by unfold decT; rw [List.length_map]
    have lC : (decT c).length = c.length := by unfold decT; rw [List.length_map]
    apply ev_succ
    rw [← lT, List.take_length, lT]
    simp only [spec_RequestText_L5, show ¬ (a.length : Int) < (a.length : Int) by omega, decide_false, cond_false, part_eq hl hps (show (bs [112, 97, 114, 97, 109]).size ≤ 1000 by decide), part_eq (vals := stT a) (by omega) hsT (show (bs [116, 105, 109, 101]).size ≤ 1000 by decide), decs_eq lb db, decs_eq lc dc, part_eq (vals := decT b) (by omega) (decT_size db) (show (bs [115, 116, 101, 112]).size ≤ 1000 by decide), part_eq (vals := decT c) (by omega) (decT_size dc) (show (bs [108, 101, 118, 101, 108]).size ≤ 1000 by decide), Option.bind_some]
    rw [chain_full, ← commas_join]
    refine comma_loop (P := [partV (bs [112, 97, 114, 97, 109]) ps, partV (bs [116, 105, 109, 101]) (stT a), partV (bs [115, 116, 101, 112]) (decT b), partV (bs [108, 101, 118, 101, 108]) (decT c)]) (by simp) (fun x hx => ?_) 4 0 (bs []) (by simp) (by simp) (Nat.le_refl 0)
    simp only [List.mem_cons, List.not_mem_nil, or_false] at hx
    rcases hx with rfl | rfl | rfl | rfl
    · exact partV_size hl hps (by decide)
    · exact partV_size (by omega) hsT (by decide)
    · exact partV_size (by omega) (decT_size db) (by decide)
    · exact partV_size (by omega) (decT_size dc) (by decide)
  | m + 1, n, hm, hn => by
    have h1 : n < a.length := by omega
    have h1' : n < (stT a).length := by unfold stT; rw [List.length_map]; exact h1
    have hmx := max16
    have r1 : rd (Kind.int IntKind.i64) a (n : Int) = a[n] := rd_nat (k := .int .i64) h1
    have hx := hst a[n] (List.getElem_mem h1)
    have ht : ((stT a).take n).length = n := by rw [List.length_take]; omega
    have e : (spec_Stamp a[n]).getD (bs []) = (stT a)[n] := (List.getElem_map (fun x => (spec_Stamp x).getD (bs []))).symm
    apply ev_succ
    simp only [spec_RequestText_L5, show (n : Int) < (a.length : Int) by omega, show (0 : Int) ≤ (n : Int) by omega, r1, decide_true, cond_true]
    rw [hx.1]
    simp only [Option.bind_some, ht, List.length_singleton, show n + 1 ≤ maxBytes / 16 by omega, decide_true, cond_true, wsucc (show n < 9223372036854775807 by omega)]
    rw [e, List.take_append_getElem h1']
    exact stamps_loop hl hps la lb lc db dc hst m (n + 1) (by omega) (by omega)
end Go.Proofs.YtgkejafaggaocaaDoor.RQ

namespace Go.Proofs.YtgkejafaggaocaaDoor.RQ
open Go Go.Eng Go.Proofs.YtgkejafaggaocaaDoor.DT Go.Proofs.YtgkejafaggaocaaDoor.EX
theorem toInt64S_eq (xs : List Int) (hx : xs.length ≤ 1048576) : laws_toInt64S xs = some xs := by
  refine evF_eq ?_
  have hmax : 1048576 ≤ maxBytes / 8 := by decide
  simp only [laws_toInt64S_F, Int.le_refl, decide_true, cond_true, Int.toNat_natCast, show xs.length ≤ maxBytes / 8 by omega]
  have h0 := ev_upto (l := fun k n => laws_toInt64S_L3 k xs (n : Int) (xs.take n ++ List.replicate (xs.length - n) 0)) (N := xs.length) (r := xs) (fun n hn k => by
    have hl := copy_len (z := (0 : Int)) (Nat.le_of_lt hn)
    simp only [laws_toInt64S_L3, show (n : Int) < (xs.length : Int) by omega, show (0 : Int) ≤ (n : Int) by omega, decide_true, cond_true, hl, rd_nat (k := .int .i64) hn, wsucc (show n < 9223372036854775807 by omega)]
    rw [setW_nat (by rw [hl]; exact hn), Option.bind_some, copy_step hn]) (ev_succ (by
    simp only [laws_toInt64S_L3, Int.lt_irrefl, decide_false, cond_false]
    exact ev_eq (ev_now _) (by simp)))
  simpa using h0
theorem eqInt64S_self (xs : List Int) (hx : xs.length ≤ 1048576) : laws_eqInt64S xs xs = some true := by
  refine evF_eq ?_
  simp only [laws_eqInt64S_F, bne_self_eq_false, cond_false]
  exact ev_upto (l := fun k n => laws_eqInt64S_L4 k xs xs (n : Int)) (N := xs.length) (fun n hn k => by
    simp only [laws_eqInt64S_L4, show (n : Int) < (xs.length : Int) by omega, show (0 : Int) ≤ (n : Int) by omega, decide_true, cond_true, bne_self_eq_false, wsucc (show n < 9223372036854775807 by omega), cond_false, Option.bind_some, Bool.not_true]) (ev_succ (by
    simp only [laws_eqInt64S_L4, Int.lt_irrefl, decide_false, cond_false]
    exact ev_now _))
theorem toStringS_eq (xs : List ByteArray) (hx : xs.length ≤ 1048576) : laws_toStringS xs = some xs := by
  refine evF_eq ?_
  have hmax : 1048576 ≤ maxBytes / 16 := by decide
  simp only [laws_toStringS_F, Int.le_refl, decide_true, cond_true, Int.toNat_natCast, show xs.length ≤ maxBytes / 16 by omega]
  have h0 := ev_upto (l := fun k n => laws_toStringS_L3 k xs (n : Int) (xs.take n ++ List.replicate (xs.length - n) (bs []))) (N := xs.length) (r := xs) (fun n hn k => by
    have hl := copy_len (z := bs []) (Nat.le_of_lt hn)
    simp only [laws_toStringS_L3, show (n : Int) < (xs.length : Int) by omega, show (0 : Int) ≤ (n : Int) by omega, decide_true, cond_true, hl, rd_nat (k := .str) hn, wsucc (show n < 9223372036854775807 by omega)]
    rw [setW_nat (by rw [hl]; exact hn), Option.bind_some, copy_step hn]) (ev_succ (by
    simp only [laws_toStringS_L3, Int.lt_irrefl, decide_false, cond_false]
    exact ev_eq (ev_now _) (by simp)))
  simpa using h0
theorem eqStringS_self (xs : List ByteArray) (hx : xs.length ≤ 1048576) : laws_eqStringS xs xs = some true := by
  refine evF_eq ?_
  simp only [laws_eqStringS_F, bne_self_eq_false, cond_false]
  exact ev_upto (l := fun k n => laws_eqStringS_L4 k xs xs (n : Int)) (N := xs.length) (fun n hn k => by
    simp only [laws_eqStringS_L4, show (n : Int) < (xs.length : Int) by omega, show (0 : Int) ≤ (n : Int) by omega, decide_true, cond_true, beq_self_bytes, wsucc (show n < 9223372036854775807 by omega), cond_false, Option.bind_some, Bool.not_true]) (ev_succ (by
    simp only [laws_eqStringS_L4, Int.lt_irrefl, decide_false, cond_false]
    exact ev_now _))
theorem szS_loop {xs : List ByteArray} (hx : xs.length ≤ 1048576) (hs : Small xs) : ∀ (m n : Nat) (b : Int), xs.length - n = m → n ≤ xs.length → 0 ≤ b ∧ b ≤ 1048576 →
    ∃ v, Ev (fun k => laws_szStringS_L5 k xs b (n : Int)) v ∧ (v < 0 ∨ (0 ≤ v ∧ v ≤ 1048576))
  | 0, n, b, hm, hn, hb => by
    refine ⟨b, ?_, .inr hb⟩
    apply ev_succ
    simp only [laws_szStringS_L5, show ¬ (n : Int) < (xs.length : Int) by omega, decide_false, cond_false]
    exact ev_now _
  | m + 1, n, b, hm, hn, hb => by
    have h1 : n < xs.length := by omega
    have r1 : rd Kind.str xs (n : Int) = xs[n] := rd_nat (k := .str) h1
    have hz := hs xs[n] (List.getElem_mem h1)
    have hw : IntKind.i64.wrap (b - (xs[n].size : Int)) = b - (xs[n].size : Int) := w64 (by omega) (by omega)
    by_cases hc : b - (xs[n].size : Int) < 0
    · refine ⟨-1, ?_, .inl (by omega)⟩
      apply ev_succ
      simp only [laws_szStringS_L5, show (n : Int) < (xs.length : Int) by omega, show (0 : Int) ≤ (n : Int) by omega, r1, hw, hc, decide_true, cond_true]
      exact ev_now _
    · obtain ⟨v, hv, hv'⟩ := szS_loop hx hs m (n + 1) (b - (xs[n].size : Int)) (by omega) (by omega) (by omega)
      refine ⟨v, ?_, hv'⟩
      apply ev_succ
      simp only [laws_szStringS_L5, show (n : Int) < (xs.length : Int) by omega, show (0 : Int) ≤ (n : Int) by omega, r1, hw, hc, decide_true, decide_false, cond_true, cond_false, wsucc (show n < 9223372036854775807 by omega)]
      exact hv
theorem szS_eq {xs : List ByteArray} (hx : xs.length ≤ 9223372036854775807) (hs : Small xs) : ∃ v, laws_szStringS xs 1048576 = some v ∧ (v < 0 ∨ (xs.length ≤ 1048576 ∧ 0 ≤ v ∧ v ≤ 1048576)) := by
  have hw : IntKind.i64.wrap (1048576 - (xs.length : Int)) = 1048576 - (xs.length : Int) := w64 (by omega) (by omega)
  by_cases hc : (1048576 : Int) - (xs.length : Int) < 0
  · refine ⟨-1, evF_eq ?_, .inl (by omega)⟩
    unfold laws_szStringS_F
    simp only [hw, hc, decide_true, cond_true]
    exact ev_now _
  · obtain ⟨v, hv, hv'⟩ := szS_loop (xs := xs) (by omega) hs xs.length 0 (1048576 - (xs.length : Int)) (by omega) (by omega) (by omega)
    refine ⟨v, evF_eq ?_, hv'.imp id fun h => ⟨by omega, h⟩⟩
    unfold laws_szStringS_F
    simp only [hw, hc, decide_false, cond_false]
    exact hv
theorem szI_eq {xs : List Int} {b : Int} (hx : xs.length ≤ 9223372036854775807) (hb : 0 ≤ b ∧ b ≤ 1048576) : ∃ v, laws_szInt64S xs b = some v ∧ (v < 0 ∨ (xs.length ≤ 1048576 ∧ 0 ≤ v ∧ v ≤ 1048576)) := by
  have hw : IntKind.i64.wrap (b - (xs.length : Int)) = b - (xs.length : Int) := w64 (by omega) (by omega)
  unfold laws_szInt64S
  rw [hw]
  by_cases hc : b - (xs.length : Int) < 0
  · exact ⟨-1, by rw [decide_eq_true hc]; rfl, .inl (by omega)⟩
  · exact ⟨b - (xs.length : Int), by rw [decide_eq_false hc]; rfl, .inr ⟨by omega, by omega, by omega⟩⟩
end Go.Proofs.YtgkejafaggaocaaDoor.RQ

namespace Go.Proofs.YtgkejafaggaocaaDoor.RQ
open Go Go.Eng Go.Proofs.YtgkejafaggaocaaDoor.DT Go.Proofs.YtgkejafaggaocaaDoor.EX Go.Proofs.YtgkejafaggaocaaDoor.ST
theorem both (ps : List ByteArray) (a b c : List Int) (hs : Small ps) : ∃ t, spec_RequestText ps a b c = some t ∧ impl_RequestText ps a b c = some t := by
  cases hr : reqV ps a b c with
  | false =>
    refine ⟨bs [], evF_eq ?_, ?_⟩
    · unfold spec_RequestText_F
      simp only [req_spec a b c hs, hr, Option.bind_some, Bool.not_false, cond_true]
      exact ev_now _
    · unfold impl_RequestText
      simp only [req_impl a b c hs, hr, Option.bind_some, Bool.not_false, cond_true]
  | true =>
    have hr' := hr
    unfold reqV timesV at hr'
    rw [Bool.and_eq_true, Bool.and_eq_true, Bool.and_eq_true, Bool.and_eq_true, decide_eq_true_eq] at hr'
    obtain ⟨hl, hn, ha, hb, hc⟩ := hr'
    have hps : ∀ x ∈ ps, x.size ≤ 1000 := fun x hx => Nat.le_trans (names0_all hn x hx) (by omega)
    obtain ⟨la, ia⟩ := rise_in ha
    obtain ⟨lb, ib⟩ := rise_in hb
    obtain ⟨lc, ic⟩ := rise_in hc
    have hst := stamp_of ia
    have db : In64 b := fun x hx => by have := ib x hx; omega
    have dc : In64 c := fun x hx => by have := ic x hx; omega
    have hsT : ∀ x ∈ stT a, x.size ≤ 1000 := fun x hx => by
      unfold stT at hx
      obtain ⟨y, hy, rfl⟩ := List.mem_map.1 hx
      have := (hst y hy).2.2
      omega
    have lT : (stT a).length = a.length := by unfold stT; rw [List.length_map]
    have lB : (decT b).length = b.length := by unfold decT; rw [List.length_map]
    have lC : (decT c).length = c.length := by unfold decT; rw [List.length_map]
    have hlp := stamps_loop hl hps la lb lc db dc (fun x hx => (hst x hx).2) a.length 0 (by omega) (by omega)
    refine ⟨bs (J 44 (chain ps a b c)), evF_eq ?_, ?_⟩
    · unfold spec_RequestText_F
      simp only [req_spec a b c hs, hr, Option.bind_some, Bool.not_true, cond_false]
      exact hlp
    · rw [text_impl hs hr, chain_full]
      refine join_eq ?_ fun x hx => ?_
      · exact Nat.le_trans (List.length_filter_le _ _) (by simp)
      · have hx := (List.mem_filter.1 hx).1
        have key : ∀ {y : Nat}, y ≤ 50000 → y ≤ 100000 := fun h => by omega
        have pz : ∀ (w : ByteArray) (v : List ByteArray), v.length ≤ 40 → (∀ x ∈ v, x.size ≤ 1000) → w.size ≤ 10 → (partV w v).size ≤ 100000 := fun w v hv hs hw => by
          have hJ := J_len (sep := 47) (c := 1000) hs
          have hJ2 : v.length * (1 + 1000) ≤ 40 * (1 + 1000) := Nat.mul_le_mul_right _ hv
          unfold partV
          split
          · exact Nat.zero_le _
          · simp only [ByteArray.size_append, size_bs, List.length_singleton]; omega
        simp only [List.mem_cons, List.not_mem_nil, or_false] at hx
        rcases hx with rfl | rfl | rfl | rfl
        · exact pz _ _ hl hps (by decide)
        · exact pz _ _ (by omega) hsT (by decide)
        · exact pz _ _ (by omega) (decT_size db) (by decide)
        · exact pz _ _ (by omega) (decT_size dc) (by decide)
theorem law {ps : List ByteArray} {a b c : List Int} (hs : Small ps) (hp : ps.length ≤ 9223372036854775807) (ha : a.length ≤ 9223372036854775807) (hb : b.length ≤ 9223372036854775807) (hc : c.length ≤ 9223372036854775807) : laws_FnExactRequestText ps a b c = some true := by
  obtain ⟨v0, e0, h0⟩ := szS_eq hp hs
  unfold laws_FnExactRequestText laws_szRequest
  by_cases c0 : v0 < 0
  · simp only [e0, Option.bind_some, c0, decide_true, cond_true]; rfl
  · obtain ⟨l0, b0⟩ := h0.resolve_left c0
    obtain ⟨v1, e1, h1⟩ := szI_eq (xs := a) ha b0
    by_cases c1 : v1 < 0
    · simp only [e0, e1, Option.bind_some, c0, c1, decide_true, decide_false, cond_true, cond_false]; rfl
    · obtain ⟨l1, b1⟩ := h1.resolve_left c1
      obtain ⟨v2, e2, h2⟩ := szI_eq (xs := b) hb b1
      by_cases c2 : v2 < 0
      · simp only [e0, e1, e2, Option.bind_some, c0, c1, c2, decide_true, decide_false, cond_true, cond_false]; rfl
      · obtain ⟨l2, b2⟩ := h2.resolve_left c2
        obtain ⟨v3, e3, h3⟩ := szI_eq (xs := c) hc b2
        by_cases c3 : v3 < 0
        · simp only [e0, e1, e2, e3, Option.bind_some, c0, c1, c2, c3, decide_true, decide_false, cond_true, cond_false]; rfl
        · obtain ⟨l3, b3⟩ := h3.resolve_left c3
          obtain ⟨t, t1, t2⟩ := both ps a b c hs
          have et : laws_toRequest ps a b c = some (ps, a, b, c) := by
            unfold laws_toRequest
            simp only [toStringS_eq ps l0, toInt64S_eq a l1, toInt64S_eq b l2, toInt64S_eq c l3, Option.bind_some]
          have eq : laws_eqRequest ps a b c ps a b c = some true := by
            unfold laws_eqRequest
            simp only [eqStringS_self ps l0, eqInt64S_self a l1, eqInt64S_self b l2, eqInt64S_self c l3, Option.bind_some, Bool.not_true, cond_false]
          simp only [e0, e1, e2, e3, Option.bind_some, c0, c1, c2, c3, decide_false, cond_false, et, t1, t2, beq_self_bytes, Bool.not_true, eq]
theorem pure (z0 : denKs [.sl .str, .sl (.int .i64), .sl (.int .i64), .sl (.int .i64)]) (h0 : wfKs [.sl .str, .sl (.int .i64), .sl (.int .i64), .sl (.int .i64)] z0) : g_laws_FnExactRequestText.fn ((z0, ()), ()) = some true := by
  obtain ⟨w0, w1, w2, w3, _⟩ := h0
  exact law (fun s hs => wf_str.1 ((wf_sl.1 w0).2 s hs)) (wf_sl.1 w0).1 (wf_sl.1 w1).1 (wf_sl.1 w2).1 (wf_sl.1 w3).1
end Go.Proofs.YtgkejafaggaocaaDoor.RQ
