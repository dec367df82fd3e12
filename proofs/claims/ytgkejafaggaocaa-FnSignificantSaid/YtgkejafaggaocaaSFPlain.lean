/-
  Part of a proof by the engine: texts that a program of ours printed, or plain lemmas on them. No condition but what each theorem says.
-/
import Derived.Test.YtgkejafaggaocaaSF
import Derived.Test.YtgkejafaggaocaaSQPlain
import Derived.Test.YtgkejafaggaocaaDRP
set_option linter.unusedVariables false
set_option linter.unusedSimpArgs false
namespace Go.Proofs.Ytgkejafaggaocaa.SF
open Go Go.Eng Go.FT Ieee Go.Proofs.Ytgkejafaggaocaa.EX Go.Proofs.Ytgkejafaggaocaa.SJ Go.Proofs.Ytgkejafaggaocaa.SI
theorem inner (a b : List Int) (ha : a.length ≤ 1000) (hb : b.length ≤ 1000) (n : Nat) (hn : n < b.length) (hnext : Ev (fun k => laws_FnFewer_L12 k ((n + 1 : Nat) : Int) a b) true) :
    ∀ (m k : Nat) (fl : Bool), a.length - k = m → k ≤ a.length → (fl = true ∨ ∃ q, k ≤ q ∧ a[q]? = some b[n]) → Ev (fun z => laws_FnFewer_L16 z (n : Int) fl (k : Int) a b) true := by
  intro m
  induction m with
  | zero =>
    intro k fl hm hk hf
    have hfl : fl = true := by
      rcases hf with h | ⟨q, h1, h2⟩
      · exact h
      · have := (List.getElem?_eq_some_iff.1 h2).1; omega
    subst hfl
    apply ev_succ
    simp only [laws_FnFewer_L16, show ¬ ((k : Int) < (a.length : Int)) by omega, decide_false, cond_false, Bool.not_true, wsucc (show n < 9223372036854775807 by omega)]
    exact hnext
  | succ m ih =>
    intro k fl hm hk hf
    apply ev_succ
    have hlt : k < a.length := by omega
    cases fl with
    | true =>
      simp only [laws_FnFewer_L16, show ((k : Int) < (a.length : Int)) by omega, decide_true, cond_true, wsucc (show k < 9223372036854775807 by omega)]
      exact ih (k + 1) true (by omega) (by omega) (.inl rfl)
    | false =>
      simp only [laws_FnFewer_L16, show ((k : Int) < (a.length : Int)) by omega, show (0 : Int) ≤ (k : Int) by omega, show (0 : Int) ≤ (n : Int) by omega, show ((n : Int) < (b.length : Int)) by omega, decide_true, cond_true, cond_false, wsucc (show k < 9223372036854775807 by omega)]
      refine ih (k + 1) _ (by omega) (by omega) ?_
      rcases hf with h | ⟨q, h1, h2⟩
      · cases h
      · by_cases e : q = k
        · subst e
          left
          rw [rd_nat (k := .int .i64) hlt, rd_nat (k := .int .i64) hn]
          have := (List.getElem?_eq_some_iff.1 h2).2
          rw [this]
          exact beq_self_eq_true _
        · exact .inr ⟨q, by omega, h2⟩
theorem outer (a b : List Int) (ha : a.length ≤ 1000) (hb : b.length ≤ 1000) (h : ∀ x ∈ b, x ∈ a) : ∀ (m n : Nat), b.length - n = m → n ≤ b.length → Ev (fun k => laws_FnFewer_L12 k (n : Int) a b) true := by
  intro m
  induction m with
  | zero =>
    intro n hm hn
    apply ev_succ
    simp only [laws_FnFewer_L12, show ¬ ((n : Int) < (b.length : Int)) by omega, decide_false, cond_false]
    exact ev_now _
  | succ m ih =>
    intro n hm hn
    have hlt : n < b.length := by omega
    apply ev_succ
    simp only [laws_FnFewer_L12, show ((n : Int) < (b.length : Int)) by omega, decide_true, cond_true]
    obtain ⟨q, hq, e⟩ := List.getElem_of_mem (h _ (List.getElem_mem hlt))
    exact inner a b ha hb n hlt (ih (n + 1) (by omega) (by omega)) a.length 0 false (by omega) (by omega) (.inr ⟨q, by omega, by rw [List.getElem?_eq_getElem hq, e]⟩)
/-- A tenth of a whole number below 50. -/
def tenthOk (w : Nat) : Bool := match double.read w with
  | .number false m p => decide (-1074 ≤ p) && decide (p ≤ 0) && decide (m < 2 ^ 53)
  | _ => false
theorem tenth_all : ((List.range 50).all fun k => tenthOk (fdiv (fofi ((k : Nat) : Int)) 4621819117588971520)) = true := by kernel_rfl
theorem tenth_fin {n : Nat} : ∃ B, Fin (fdiv (fofi ((n : Int).tmod 50)) 4621819117588971520) B ∧ 0 ≤ B ∧ B.natAbs ≤ (2 ^ 53) * DD := by
  have h1 : (n : Int).tmod 50 = ((n % 50 : Nat) : Int) := by rw [Int.tmod_eq_emod_of_nonneg (by omega)]; omega
  rw [h1]
  have h2 := List.all_eq_true.1 tenth_all (n % 50) (List.mem_range.2 (Nat.mod_lt _ (by omega)))
  generalize fdiv (fofi ((n % 50 : Nat) : Int)) 4621819117588971520 = w at h2
  unfold tenthOk at h2
  split at h2
  · rename_i m p hr
    simp only [Bool.and_eq_true, decide_eq_true_eq] at h2
    refine ⟨_, ⟨false, m, p, hr, h2.1.1, rfl, h2.2⟩, by unfold sgn; simp only [Bool.false_eq_true, if_false]; exact Int.natCast_nonneg _, ?_⟩
    obtain ⟨e, he⟩ : ∃ e : Nat, e = 1074 := ⟨_, rfl⟩
    have hp : (p + 1074).toNat ≤ e := by omega
    unfold sgn
    simp only [Bool.false_eq_true, if_false, Int.natAbs_natCast]
    rw [DD_pow he]
    exact Nat.mul_le_mul (by omega) (Nat.pow_le_pow_right (by omega) hp)
  · cases h2
end Go.Proofs.Ytgkejafaggaocaa.SF

namespace Go.Proofs.Ytgkejafaggaocaa.SF
open Go Go.Eng Go.FT Ieee Go.Proofs.Ytgkejafaggaocaa.EX Go.Proofs.Ytgkejafaggaocaa.SJ Go.Proofs.Ytgkejafaggaocaa.SI Go.Proofs.Ytgkejafaggaocaa.DR
theorem size_good {l : List Int} {p : Int} (a0 a1 : Int) (h0 : a0 ≠ 0) (h1 : a1 ≤ 65536) (h : Rdr l p) : Answ (fun y => Rdr y.2.1 y.2.2 ∧ 1 ≤ y.1 ∧ y.1 ≤ max 1 a1) (spec_l1Rd_size a0 a1 l p) := by
  unfold spec_l1Rd_size
  refine good_chk (by simp [h0]) (good_bif (fun _ => ?_) (fun k => ?_))
  · refine good_bind (below_good a1 h1 h) fun y hy => ⟨_, rfl, hy.1, ?_, ?_⟩
    · rw [w64 (by omega) (by omega)]; omega
    · rw [w64 (by omega) (by omega)]; omega
  · have k' := of_decide_eq_false k
    refine good_bind (below_good _ (by omega) h) fun y hy => ⟨_, rfl, hy.1, ?_, ?_⟩
    · rw [w64 (by omega) (by omega)]; omega
    · rw [w64 (by omega) (by omega)]; omega
theorem tenth_good {l : List Int} {p : Int} (a0 a1 : Int) (h0 : -10000 ≤ a0) (h1 : a0 ≤ a1) (h2 : a1 ≤ 10000) (h : Rdr l p) : Answ (fun y => Rdr y.2.1 y.2.2) (spec_l1Rd_tenth a0 a1 l p) := by
  unfold spec_l1Rd_tenth
  rw [w64 (n := a1 - a0) (by omega) (by omega), w64 (n := a1 - a0 + 1) (by omega) (by omega)]
  exact good_bind (below_good _ (by omega) h) fun y hy => ⟨_, rfl, hy.1⟩
theorem word_loop : ∀ (m n : Nat) (v : Int) (l : List Int) (p : Int), n + m = 8 → Rdr l p → ∃ y, Ev (fun k => spec_l1Rd_word_L3 k v (n : Int) l p) y ∧ Rdr y.2.1 y.2.2
  | 0, n, v, l, p, h, hr => by
    refine ⟨(v, l, p), ?_, hr⟩
    apply ev_succ
    simp only [spec_l1Rd_word_L3, show ¬ ((n : Int) < 8) by omega, decide_false, cond_false]
    exact ev_now _
  | m + 1, n, v, l, p, h, hr => by
    obtain ⟨⟨u, l1, p1⟩, e, hr1, _⟩ := next_good hr
    obtain ⟨y, hy, hyr⟩ := word_loop m (n + 1) (IntKind.u64.wrap (↑(BitVec.ofInt IntKind.u64.bits (IntKind.u64.wrap (v * 2 ^ min (Int.toNat 8) IntKind.u64.bits)) ||| BitVec.ofInt IntKind.u64.bits (IntKind.u64.wrap u)).toNat : Int)) l1 p1 (by omega) hr1
    refine ⟨y, ?_, hyr⟩
    apply ev_succ
    simp only [spec_l1Rd_word_L3, show ((n : Int) < 8) by omega, decide_true, cond_true, e, Option.bind_some, wsucc (show n < 9223372036854775807 by omega)]
    exact hy
theorem word_good {l : List Int} {p : Int} (h : Rdr l p) : Answ (fun y => Rdr y.2.1 y.2.2) (spec_l1Rd_word l p) := by
  obtain ⟨y, hy, hyr⟩ := word_loop 8 0 0 l p (by omega) h
  exact ⟨y, evF_eq hy, hyr⟩
theorem number_good {l : List Int} {p : Int} (h : Rdr l p) : Answ (fun y => Rdr y.2.1 y.2.2) (spec_l1Rd_number l p) := by
  unfold spec_l1Rd_number
  refine good_bind (below_good 5 (by omega) h) fun y hy => good_bif (fun _ => ?_) fun _ => good_bif (fun _ => ?_) fun _ => good_bif (fun _ => ?_) fun _ => ?_
  · exact good_bind (below_good 300 (by omega) hy.1) fun z hz => ⟨_, rfl, hz.1⟩
  · refine good_bind (below_good 12 (by omega) hy.1) fun z hz => ?_
    have hz5 : z.1 < 12 := hz.2.2.2.1 (by omega)
    exact good_chk (chk_le hz.2.1) (good_chk (chk_lt hz5) (good_chk (chk_lt hz5) ⟨_, rfl, hz.1⟩))
  · refine good_bind (word_good hy.1) fun z hz => good_bind (below_good 60 (by omega) hz) fun u hu => ?_
    refine good_chk (chk_le ?_) ⟨_, rfl, hu.1⟩
    rw [w64 (n := 1 + u.1) (by omega) (by omega), wu64 (by omega) (by omega)]
    omega
  · exact good_bind (below_good 20 (by omega) hy.1) fun z hz => ⟨_, rfl, hz.1⟩
theorem float_good {l : List Int} {p : Int} (h : Rdr l p) : Answ (fun y => Rdr y.2.1 y.2.2) (spec_l1Rd_float l p) := by
  unfold spec_l1Rd_float
  refine good_bind (below_good 8 (by omega) h) fun y hy => good_bif (fun _ => ?_) fun _ => good_bif (fun _ => ?_) fun _ => good_bif (fun _ => ?_) fun _ => good_bif (fun _ => ?_) fun _ => ?_
  · exact ⟨_, rfl, hy.1⟩
  · refine good_bind (below_good 16 (by omega) hy.1) fun z hz => ?_
    have hz5 : z.1 < 16 := hz.2.2.2.1 (by omega)
    exact good_chk (chk_le hz.2.1) (good_chk (chk_lt hz5) (good_chk (chk_lt hz5) ⟨_, rfl, hz.1⟩))
  · exact good_bind (number_good hy.1) fun z hz => good_bind (below_good 1000 (by omega) hz) fun u hu => ⟨_, rfl, hu.1⟩
  · exact good_bind (below_good 1000 (by omega) hy.1) fun z hz => ⟨_, rfl, hz.1⟩
  · exact good_bind (below_good 1000 (by omega) hy.1) fun z hz => ⟨_, rfl, hz.1⟩
end Go.Proofs.Ytgkejafaggaocaa.SF

namespace Go.Proofs.Ytgkejafaggaocaa.SF
open Go Go.Eng Go.FT Ieee Go.Proofs.Ytgkejafaggaocaa.EX Go.Proofs.Ytgkejafaggaocaa.SJ Go.Proofs.Ytgkejafaggaocaa.SI Go.Proofs.Ytgkejafaggaocaa.DR
def AnsE {γ : Type} (Q : γ → Prop) (f : Nat → Option γ) : Prop := ∃ y, Ev f y ∧ Q y
theorem ansE_bind {α γ : Type} {P : α → Prop} {Q : γ → Prop} {m : Option α} {f : Nat → α → Option γ} (h : Answ P m) (k : ∀ y, P y → AnsE Q (fun z => f z y)) : AnsE Q (fun z => m.bind (f z)) := by
  obtain ⟨y, e, hy⟩ := h
  rw [e]
  exact k y hy
theorem ansE_bif {γ : Type} {Q : γ → Prop} {b : Bool} {t e : Nat → Option γ} (ht : b = true → AnsE Q t) (hf : b = false → AnsE Q e) : AnsE Q (fun z => bif b then t z else e z) := by
  cases b with
  | true => exact ht rfl
  | false => exact hf rfl
theorem ansE_chk {γ : Type} {Q : γ → Prop} {b : Bool} {t e : Nat → Option γ} (h : b = true) (k : AnsE Q t) : AnsE Q (fun z => bif b then t z else e z) := by
  rw [h]; exact k
theorem ansE_some {γ : Type} {Q : γ → Prop} {y : γ} (h : Q y) : AnsE Q (fun _ => some y) := ⟨y, ev_now _, h⟩
abbrev RL := List Int × Int × LV
theorem asc_end (t : Nat) (l : List Int) (p : Int) : ∀ (m : Nat) (xs : LV), 2 - xs.length = m → 1 ≤ xs.length → xs.length ≤ 60000 → ∃ ys : LV, Ev (fun k => spec_l1Rd_ascent_L13 k t l p xs) (l, p, ys) ∧ 2 ≤ ys.length ∧ ys.length ≤ 60001 := by
  intro m
  have hmax : 100000 ≤ maxBytes / 16 := by decide
  induction m with
  | zero =>
    intro xs hm h1 h2
    refine ⟨xs, ?_, by omega, by omega⟩
    apply ev_succ
    simp only [spec_l1Rd_ascent_L13, show ¬ ((xs.length : Int) < 2) by omega, decide_false, cond_false]
    exact ev_now _
  | succ m ih =>
    intro xs hm h1 h2
    obtain ⟨ys, hy, hy2⟩ := ih (xs ++ [((IntKind.i64.wrap ((rd K2_0 xs ((xs.length : Int) - 1)).fst - 1), t) : Int × Nat)]) (by simp only [List.length_append, List.length_singleton]; omega) (by simp) (by simp only [List.length_append, List.length_singleton]; omega)
    refine ⟨ys, ?_, hy2⟩
    apply ev_succ
    simp only [spec_l1Rd_ascent_L13, show ((xs.length : Int) < 2) by omega, w64 (n := (xs.length : Int) - 1) (by omega) (by omega), show (0 : Int) ≤ (xs.length : Int) - 1 by omega, show (xs.length : Int) - 1 < (xs.length : Int) by omega, List.length_singleton, show xs.length + 1 ≤ maxBytes / 16 by omega, decide_true, cond_true]
    exact hy
theorem asc_loop (n : Int) (hn : 1 ≤ n ∧ n ≤ 60000) : ∀ (m : Nat) (i : Nat) (a1 : Int) (t : Nat) (l : List Int) (p : Int) (xs : LV), n - i = m → xs.length = i → (i = 0 → a1 > 0) → Rdr l p →
    AnsE (fun y : RL => Rdr y.1 y.2.1 ∧ 2 ≤ y.2.2.length ∧ y.2.2.length ≤ 60001) (fun k => spec_l1Rd_ascent_L6 k n a1 t (i : Int) l p xs) := by
  intro m
  have hmax : 100000 ≤ maxBytes / 16 := by decide
  have hq : 0 ≤ Int.tdiv 12000 n ∧ Int.tdiv 12000 n ≤ 12000 := by
    rw [Int.tdiv_eq_ediv_of_nonneg (by omega)]
    exact ⟨Int.ediv_nonneg (by omega) (by omega), Int.ediv_le_self _ (by omega)⟩
  have hb : IntKind.i64.wrap ((IntKind.i64.wrap (Int.tdiv 12000 n)).tdiv 2) ≤ 65536 := by
    rw [w64 (n := Int.tdiv 12000 n) (by omega) (by omega), Int.tdiv_eq_ediv_of_nonneg (by omega), w64 (by omega) (by omega)]
    omega
  have fin : ∀ (t : Nat) (l : List Int) (p : Int) (xs : LV), 1 ≤ xs.length → xs.length ≤ 60000 → Rdr l p → ∃ y : RL, Ev (fun k => spec_l1Rd_ascent_L13 k t l p xs) y ∧ Rdr y.1 y.2.1 ∧ 2 ≤ y.2.2.length ∧ y.2.2.length ≤ 60001 := fun t l p xs h1 h2 hr => by
    obtain ⟨ys, hy, h3⟩ := asc_end t l p _ xs rfl h1 h2
    exact ⟨_, hy, hr, h3⟩
  induction m with
  | zero =>
    intro i a1 t l p xs hm hx h0 hr
    obtain ⟨y, hy, hQ⟩ := fin t l p xs (by omega) (by omega) hr
    refine ⟨y, ?_, hQ⟩
    apply ev_succ
    simp only [spec_l1Rd_ascent_L6, show ¬ ((i : Int) < n) by omega, decide_false, cond_false]
    exact hy
  | succ m ih =>
    intro i a1 t l p xs hm hx h0 hr
    by_cases hp : a1 > 0
    · obtain ⟨⟨v1, l1, p1⟩, e1, hr1, _⟩ := below_good _ hb hr
      obtain ⟨⟨v2, l2, p2⟩, e2, hr2, _⟩ := below_good 60 (by omega) hr1
      obtain ⟨⟨v3, l3, p3⟩, e3, hr3⟩ := once_good 6 (by omega) hr2
      simp only at hr1 hr2 hr3 e2 e3
      cases v3 with
      | true =>
        obtain ⟨⟨v4, l4, p4⟩, e4, hr4⟩ := tenth_good (-600) 200 (by omega) (by omega) (by omega) hr3
        simp only at hr4
        obtain ⟨y, hy, hQ⟩ := ih (i + 1) (IntKind.i64.wrap (IntKind.i64.wrap (a1 - 1) - v1)) v4 l4 p4 (xs ++ [(a1, t)]) (by omega) (by simp only [List.length_append, List.length_singleton]; omega) (by omega) hr4
        refine ⟨y, ?_, hQ⟩
        apply ev_succ
        simp only [spec_l1Rd_ascent_L6, show ((i : Int) < n) by omega, hp, List.length_singleton, show xs.length + 1 ≤ maxBytes / 16 by omega, show ¬ n = 0 by omega, decide_true, decide_false, Bool.not_false, cond_true, e1, e2, e3, e4, Option.bind_some, wsucc (show i < 9223372036854775807 by omega)]
        exact hy
      | false =>
        obtain ⟨y, hy, hQ⟩ := ih (i + 1) (IntKind.i64.wrap (IntKind.i64.wrap (a1 - 1) - v1)) (fadd t (fdiv (fofi (IntKind.i64.wrap (v2 - 38))) 4621819117588971520)) l3 p3 (xs ++ [(a1, t)]) (by omega) (by simp only [List.length_append, List.length_singleton]; omega) (by omega) hr3
        refine ⟨y, ?_, hQ⟩
        apply ev_succ
        simp only [spec_l1Rd_ascent_L6, show ((i : Int) < n) by omega, hp, List.length_singleton, show xs.length + 1 ≤ maxBytes / 16 by omega, show ¬ n = 0 by omega, decide_true, decide_false, Bool.not_false, cond_true, cond_false, e1, e2, e3, Option.bind_some, wsucc (show i < 9223372036854775807 by omega)]
        exact hy
    · obtain ⟨y, hy, hQ⟩ := fin t l p xs (by omega) (by omega) hr
      refine ⟨y, ?_, hQ⟩
      apply ev_succ
      simp only [spec_l1Rd_ascent_L6, show ((i : Int) < n) by omega, hp, decide_true, decide_false, cond_true, cond_false]
      exact hy
theorem ascent_good {l : List Int} {p : Int} (h : Rdr l p) : Answ (fun y : RL => Rdr y.1 y.2.1 ∧ 2 ≤ y.2.2.length ∧ y.2.2.length ≤ 60001) (spec_l1Rd_ascent 40 l p) := by
  have : AnsE (fun y : RL => Rdr y.1 y.2.1 ∧ 2 ≤ y.2.2.length ∧ y.2.2.length ≤ 60001) (fun k => spec_l1Rd_ascent_F k 40 l p) := by
    unfold spec_l1Rd_ascent_F
    refine ansE_bind (size_good 6 40 (by omega) (by omega) h) fun y hy => ansE_bind (below_good 300 (by omega) hy.1) fun z hz => ansE_bind (tenth_good (-100) 300 (by omega) (by omega) (by omega) hz.1) fun u hu => ?_
    have e1 : IntKind.i64.wrap (1 + y.1) = 1 + y.1 := w64 (by omega) (by omega)
    have e2 : IntKind.i64.wrap (10000 + z.1) = 10000 + z.1 := w64 (by omega) (by omega)
    rw [e1, e2]
    exact asc_loop (1 + y.1) (by omega) (1 + y.1).toNat 0 (10000 + z.1) u.1 u.2.1 u.2.2 [] (by omega) rfl (by omega) hu
  obtain ⟨y, hy, hQ⟩ := this
  exact ⟨y, evF_eq hy, hQ⟩
end Go.Proofs.Ytgkejafaggaocaa.SF

namespace Go.Proofs.Ytgkejafaggaocaa.SF
open Go Go.Eng Go.FT Ieee Go.Proofs.Ytgkejafaggaocaa.EX Go.Proofs.Ytgkejafaggaocaa.SJ Go.Proofs.Ytgkejafaggaocaa.SI Go.Proofs.Ytgkejafaggaocaa.DR
theorem setF_good (v : Nat) (xs : LV) (i : Int) (h0 : 0 ≤ i) (h1 : i < (xs.length : Int)) : Answ (fun ys : LV => ys.length = xs.length) (setO K2_0 1 [Cell.flt v] xs i) := by
  obtain ⟨n, rfl⟩ : ∃ n : Nat, i = (n : Int) := ⟨i.toNat, by omega⟩
  have hn : n < xs.length := by omega
  have hS : setO K2_0 1 [Cell.flt v] xs (n : Int) = (putK K2_0 1 [Cell.flt v] xs[n]).map fun y => xs.set n y := setO_put hn
  exact ⟨xs.set n (xs[n].1, v), by rw [hS]; rfl, by simp⟩
theorem setI_good (v : Int) (xs : LV) (i : Int) (h0 : 0 ≤ i) (h1 : i < (xs.length : Int)) : Answ (fun ys : LV => ys.length = xs.length) (setO K2_0 0 [Cell.int IntKind.i64 v] xs i) := by
  obtain ⟨n, rfl⟩ : ∃ n : Nat, i = (n : Int) := ⟨i.toNat, by omega⟩
  have hn : n < xs.length := by omega
  have hS : setO K2_0 0 [Cell.int IntKind.i64 v] xs (n : Int) = (putK K2_0 0 [Cell.int IntKind.i64 v] xs[n]).map fun y => xs.set n y := setO_put hn
  exact ⟨xs.set n (v, xs[n].2), by rw [hS]; rfl, by simp⟩
theorem many_loop (n : Int) (hn : n ≤ 1000) (l : List Int) (p : Int) : ∀ (m i : Nat) (xs : LV), n - i = m ∨ (m = 0 ∧ n ≤ i) → i ≤ 1000 → xs.length ≤ 71000 + i → ∃ ys : LV, Ev (fun k => spec_l6DrawAny_L20 k n (i : Int) l p xs) (l, p, ys) := by
  intro m
  have hmax : 100000 ≤ maxBytes / 16 := by decide
  induction m with
  | zero =>
    intro i xs hm hi hx
    refine ⟨xs, ?_⟩
    apply ev_succ
    simp only [spec_l6DrawAny_L20, show ¬ ((i : Int) < n) by omega, decide_false, cond_false]
    exact ev_now _
  | succ m ih =>
    intro i xs hm hi hx
    obtain ⟨ys, hy⟩ := ih (i + 1) (xs ++ [((IntKind.i64.wrap (10000 - (i : Int)), fofi ((i : Int).tmod 7)) : Int × Nat)]) (by omega) (by omega) (by simp only [List.length_append, List.length_singleton]; omega)
    refine ⟨ys, ?_⟩
    apply ev_succ
    simp only [spec_l6DrawAny_L20, show ((i : Int) < n) by omega, List.length_singleton, show xs.length + 1 ≤ maxBytes / 16 by omega, decide_true, cond_true, wsucc (show i < 9223372036854775807 by omega)]
    exact hy
abbrev QR (y : RL) : Prop := Rdr y.1 y.2.1
theorem tail_good (a b : LV) (ha : a.length ≤ 71000) {l : List Int} {p : Int} (h : Rdr l p) :
    AnsE QR (fun k => (spec_l1Rd_once 50 l p).bind fun v => bif v.fst then (spec_l1Rd_below 2 v.snd.fst v.snd.snd).bind fun w => spec_l6DrawAny_L20 k (IntKind.i64.wrap (400 + w.fst)) 0 w.snd.fst w.snd.snd a else some (v.snd.fst, v.snd.snd, b)) := by
  refine ansE_bind (once_good 50 (by omega) h) fun v hv => ansE_bif (fun _ => ?_) (fun _ => ansE_some hv)
  refine ansE_bind (below_good 2 (by omega) hv) fun w hw => ?_
  have h2 : w.1 < 2 := hw.2.2.2.1 (by omega)
  rw [w64 (n := 400 + w.1) (by omega) (by omega)]
  obtain ⟨ys, hy⟩ := many_loop (400 + w.1) (by omega) w.2.1 w.2.2 (400 + w.1).toNat 0 a (by omega) (by omega) (by omega)
  exact ⟨_, hy, hw.1⟩
theorem any_good {l : List Int} {p : Int} (h : Rdr l p) : Answ QR (spec_l6DrawAny l p) := by
  have : AnsE QR (fun k => spec_l6DrawAny_F k l p) := by
    unfold spec_l6DrawAny_F
    refine ansE_bind (ascent_good h) fun y ⟨hy, y2, y3⟩ => ansE_bind (once_good 7 (by omega) hy) fun z hz => ansE_bif (fun _ => ?_) fun _ => ?_
    · refine ansE_bind (below_good _ (by omega) hz) fun i ⟨hi, i0, _, i1, _⟩ => ansE_bind (below_good 6 (by omega) hi) fun c ⟨hc, _⟩ => ?_
      have hi1 := i1 (by omega)
      refine ansE_bif (fun _ => ?_) fun _ => ansE_bif (fun _ => ?_) fun _ => ansE_bif (fun _ => ?_) fun _ => ansE_bif (fun _ => ?_) fun _ => ansE_bif (fun _ => ?_) fun _ => ?_
      · refine ansE_bind ⟨_, rfl, trivial⟩ (P := fun _ => True) fun v _ => ansE_chk (chk_le i0) (ansE_chk (chk_lt hi1) (ansE_bind (setF_good _ _ _ i0 hi1) fun ys hys => ?_))
        exact tail_good _ _ (by simp) hc
      · refine ansE_bind (below_good 4 (by omega) hc) fun v hv => ?_
        have h4 : v.1 < 4 := hv.2.2.2.1 (by omega)
        refine ansE_chk (chk_le hv.2.1) (ansE_chk (chk_lt h4) (ansE_chk (chk_lt h4) (ansE_chk (chk_le i0) (ansE_chk (chk_lt hi1) (ansE_bind (setF_good _ _ _ i0 hi1) fun ys hys => ?_)))))
        exact tail_good _ _ (by simp) hv.1
      · refine ansE_bind (below_good 5 (by omega) hc) fun v hv => ?_
        have h4 : v.1 < 5 := hv.2.2.2.1 (by omega)
        refine ansE_chk (chk_le hv.2.1) (ansE_chk (chk_lt h4) (ansE_chk (chk_lt h4) (ansE_chk (chk_le i0) (ansE_chk (chk_lt hi1) (ansE_bind (setI_good _ _ _ i0 hi1) fun ys hys => ?_)))))
        exact tail_good _ _ (by simp) hv.1
      · exact ansE_chk (chk_and rfl (chk_le (by omega))) (tail_good _ _ (by simp) hc)
      · exact tail_good _ _ (by simp) hc
      · have e1 : IntKind.i64.wrap ((y.2.2.length : Int) - 1) = (y.2.2.length : Int) - 1 := w64 (by omega) (by omega)
        rw [e1]
        refine ansE_chk (chk_lt (by omega)) (ansE_chk (chk_lt (by omega)) (ansE_chk (chk_le (by omega)) (ansE_chk (chk_lt (by omega)) (ansE_bind (setI_good _ _ _ (by omega) (by omega)) fun ys hys => ?_))))
        exact tail_good _ _ (by simp) hc
    · exact tail_good _ _ (by simp) hz
  obtain ⟨y, hy, hQ⟩ := this
  exact ⟨y, evF_eq hy, hQ⟩
theorem draw_good {l : List Int} (hl : l.length ≤ 1048576) (hb : ∀ x ∈ l, 0 ≤ x ∧ x ≤ 255) : Answ (fun _ => True) (spec_DrawSignif l) := by
  unfold spec_DrawSignif
  refine good_bind (open_good hl hb) fun y hy => good_bind (any_good hy) fun z hz => good_bind (below_good 40 (by omega) hz) fun u hu => good_bind (once_good 12 (by omega) hu.1) fun v hv => good_bif (fun _ => ?_) fun _ => ⟨_, rfl, trivial⟩
  exact good_bind (float_good hv) fun w hw => ⟨_, rfl, trivial⟩
end Go.Proofs.Ytgkejafaggaocaa.SF
