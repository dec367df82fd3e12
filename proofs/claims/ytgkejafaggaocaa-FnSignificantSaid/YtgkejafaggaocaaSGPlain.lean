/-
  Part of a proof by the engine: texts that a program of ours printed, or plain lemmas on them. No condition but what each theorem says.
-/
import Derived.Test.YtgkejafaggaocaaSG
import Derived.Test.YtgkejafaggaocaaSQPlain
import Derived.Test.YtgkejafaggaocaaSFPlain
set_option linter.unusedVariables false
set_option linter.unusedSimpArgs false
namespace Go.Proofs.Ytgkejafaggaocaa.SG
open Go Go.Eng Go.FT Ieee Go.Proofs.Ytgkejafaggaocaa.EX Go.Proofs.Ytgkejafaggaocaa.SJ Go.Proofs.Ytgkejafaggaocaa.SI
theorem pick_none {D : Nat → Int} : ∀ {m n : Nat} {M : Int}, pick D m n (-1) M = -1 → ∀ k, n ≤ k → k < n + m → D k ≤ M
  | 0, n, M, _, k, h1, h2 => by omega
  | m + 1, n, M, h, k, h1, h2 => by
    unfold pick at h
    by_cases hm : M < D n
    · rw [if_pos hm] at h
      rcases pick_at (D := D) (m := m) (n := n + 1) (a := n) (M := D n) with e | ⟨q, _, _, e⟩ <;> omega
    · rw [if_neg hm] at h
      by_cases e : k = n
      · subst e; omega
      · exact pick_none h k (by omega) (by omega)
theorem pk_none {l : LV} {T : Int} {i j : Nat} (h : pk l T i j = -1) : ∀ k, i < k → k < j → offD l i j k ≤ T := fun k h1 h2 =>
  pick_none (D := offD l i j) (m := j - (i + 1)) (n := i + 1) h k (by omega) (by omega)
/-- Each two that stand one behind the other are so. -/
def Adj (R : Int → Int → Prop) : List Int → Prop
  | [] => True
  | [_] => True
  | x :: y :: r => R x y ∧ Adj R (y :: r)
theorem Adj.join {R : Int → Int → Prop} {x : Int} : ∀ {a b : List Int}, Adj R (a ++ [x]) → Adj R (x :: b) → Adj R (a ++ x :: b)
  | [], b, _, h => h
  | [y], b, h, k => ⟨h.1, k⟩
  | y :: z :: a, b, h, k => ⟨h.1, Adj.join (a := z :: a) h.2 k⟩
theorem sp_adj {l : LV} {T : Int} : ∀ (d i j : Nat), j - i ≤ d → i < j → Adj (fun u v => 0 ≤ u ∧ u < v ∧ v ≤ (j : Int) ∧ pk l T u.toNat v.toNat = -1) ((i : Int) :: (sp l T d i j ++ [(j : Int)]))
  | 0, i, j, h, hij => by omega
  | d + 1, i, j, h, hij => by
    unfold sp
    rcases pk_at l T hij with e | ⟨k, k1, k2, e⟩
    · rw [e, if_pos (by omega)]
      exact ⟨⟨by omega, by omega, by omega, by simpa using e⟩, trivial⟩
    · rw [e, if_neg (by omega), Int.toNat_natCast]
      have a1 := sp_adj (l := l) (T := T) d i k (by omega) k1
      have a2 := sp_adj (l := l) (T := T) d k j (by omega) k2
      have mono : ∀ {R S : Int → Int → Prop}, (∀ u v, R u v → S u v) → ∀ xs, Adj R xs → Adj S xs := fun {R S} hRS xs => by
        induction xs with
        | nil => exact fun h => h
        | cons x xs ih =>
          cases xs with
          | nil => exact fun h => h
          | cons y r => exact fun h => ⟨hRS _ _ h.1, ih h.2⟩
      have a1' := mono (S := fun u v => 0 ≤ u ∧ u < v ∧ v ≤ (j : Int) ∧ pk l T u.toNat v.toNat = -1) (fun u v hh => ⟨hh.1, hh.2.1, by omega, hh.2.2.2⟩) _ a1
      have := Adj.join (a := (i : Int) :: sp l T d i k) (x := (k : Int)) (b := sp l T d k j ++ [(j : Int)]) (by simpa using a1') a2
      simpa [List.append_assoc] using this
theorem fin_one {x : Nat} {A B : Int} (h : Fin x A) (k : Fin x B) : A = B := by
  obtain ⟨s, m, p, h1, _, h2, _⟩ := h
  obtain ⟨s', m', p', k1, _, k2, _⟩ := k
  rw [h1] at k1
  cases k1
  rw [h2, k2]
end Go.Proofs.Ytgkejafaggaocaa.SG

namespace Go.Proofs.Ytgkejafaggaocaa.SG
open Go Go.Eng Go.FT Ieee Go.Proofs.Ytgkejafaggaocaa.EX Go.Proofs.Ytgkejafaggaocaa.SJ Go.Proofs.Ytgkejafaggaocaa.SI
noncomputable def rowAt (l : LV) (x : Int) : Int × Nat := rd K2_0 l x
theorem levels_eq (l : LV) (s : List Int) (hs : s.length ≤ 1000) (hb : ∀ x ∈ s, 0 ≤ x ∧ x < (l.length : Int)) : laws_levelsAt l s = some (s.map (rowAt l)) := by
  refine evF_eq ?_
  have hmax : 1000 ≤ maxBytes / 16 := by decide
  unfold laws_levelsAt_F
  have h0 := ev_upto (l := fun k n => laws_levelsAt_L3 k l s (n : Int) ((s.take n).map (rowAt l))) (N := s.length) (r := s.map (rowAt l)) (fun n hn k => by
    have hx := hb _ (List.getElem_mem hn)
    simp only [laws_levelsAt_L3, show (n : Int) < (s.length : Int) by omega, show (0 : Int) ≤ (n : Int) by omega, decide_true, cond_true, rd_nat (k := .int .i64) hn, show ¬ s[n] < 0 by omega, show ¬ s[n] ≥ (l.length : Int) by omega, decide_false, cond_false, hx.1, hx.2,
      List.length_map, List.length_take, Nat.min_eq_left (Nat.le_of_lt hn), List.length_singleton, show n + 1 ≤ maxBytes / 16 by omega, wsucc (show n < 9223372036854775807 by omega)]
    congr 1
    rw [List.take_succ_eq_append_getElem hn, List.map_append]
    rfl) (ev_succ (by
    simp only [laws_levelsAt_L3, Int.lt_irrefl, decide_false, cond_false]
    exact ev_eq (ev_now _) (by simp)))
  simpa using h0
end Go.Proofs.Ytgkejafaggaocaa.SG

namespace Go.Proofs.Ytgkejafaggaocaa.SG
open Go Go.Eng Go.FT Ieee Go.Proofs.Ytgkejafaggaocaa.EX Go.Proofs.Ytgkejafaggaocaa.SJ Go.Proofs.Ytgkejafaggaocaa.SI
theorem asc_of {l : LV} : ∀ (m n : Nat), (∀ k, n ≤ k → k < n + m → okAt l k = true) → asc l m n = true
  | 0, n, h => rfl
  | m + 1, n, h => by
    unfold asc
    rw [h n (by omega) (by omega), Bool.true_and]
    exact asc_of m (n + 1) fun k h1 h2 => h k (by omega) (by omega)
theorem few_get {l : LV} {s : List Int} {k : Nat} (hk : k < s.length) : rd K2_0 (s.map (rowAt l)) (k : Int) = rowAt l s[k] := by
  rw [rd_nat (k := K2_0) (by simpa using hk)]
  simp
theorem few_ok {l : LV} (h : ascV l = true) {s : List Int} (h2 : 2 ≤ s.length) (h4 : s.length ≤ 400) (hb : ∀ x ∈ s, 0 ≤ x ∧ x < (l.length : Int)) (hi : ∀ k (hk : k + 1 < s.length), s[k] < s[k + 1]) : ascV (s.map (rowAt l)) = true := by
  have hok : ∀ k, k < s.length → okAt (s.map (rowAt l)) k = true := fun k hk => by
    have hx := hb _ (List.getElem_mem hk)
    have o := (asc_ok h).2 s[k].toNat (by omega)
    have e : ((s[k].toNat : Nat) : Int) = s[k] := by omega
    have p1 : pr (s.map (rowAt l)) (k : Int) = pr l s[k] := by unfold pr; rw [few_get hk]; rfl
    have t1 : tm (s.map (rowAt l)) (k : Int) = tm l s[k] := by unfold tm; rw [few_get hk]; rfl
    simp only [okAt, e, Bool.and_eq_true, Bool.or_eq_true, Bool.not_eq_true', decide_eq_true_eq, decide_eq_false_iff_not] at o
    obtain ⟨o1, _, o3⟩ := o
    simp only [okAt, p1, t1, Bool.and_eq_true, Bool.or_eq_true, Bool.not_eq_true', decide_eq_true_eq, decide_eq_false_iff_not]
    refine ⟨o1, ?_, o3⟩
    by_cases h0 : (k : Int) > 0
    · right
      obtain ⟨q, rfl⟩ : ∃ q, k = q + 1 := ⟨k - 1, by omega⟩
      have hq := hi q hk
      have hy := hb _ (List.getElem_mem (show q < s.length by omega))
      have p2 : pr (s.map (rowAt l)) (((q + 1 : Nat) : Int) - 1) = pr l s[q] := by
        rw [show ((q + 1 : Nat) : Int) - 1 = (q : Int) by omega]
        unfold pr; rw [few_get (show q < s.length by omega)]; rfl
      rw [p2]
      have := pr_less h (i := s[q].toNat) (j := s[q + 1].toNat) (by omega) (by omega)
      rw [show ((s[q].toNat : Nat) : Int) = s[q] by omega, e] at this
      omega
    · left; exact h0
  unfold ascV
  simp only [List.length_map]
  rw [asc_of s.length 0 fun k _ hk => hok k (by omega)]
  simp only [show (2 : Int) ≤ (s.length : Int) by omega, show (s.length : Int) ≤ 400 by omega, decide_true, Bool.and_self]
end Go.Proofs.Ytgkejafaggaocaa.SG

namespace Go.Proofs.Ytgkejafaggaocaa.SG
open Go Go.Eng Go.FT Ieee Go.Proofs.Ytgkejafaggaocaa.EX Go.Proofs.Ytgkejafaggaocaa.SJ Go.Proofs.Ytgkejafaggaocaa.SI
theorem pr_le {l : LV} (h : ascV l = true) {i j : Int} (h0 : 0 ≤ i) (h1 : 0 ≤ j) (hi : i < l.length) (hj : j < l.length) : pr l i ≤ pr l j ↔ j ≤ i := by
  have ei : ((i.toNat : Nat) : Int) = i := by omega
  have ej : ((j.toNat : Nat) : Int) = j := by omega
  constructor
  · intro hp
    by_cases c : i < j
    · have := pr_less h (i := i.toNat) (j := j.toNat) (by omega) (by omega)
      rw [ei, ej] at this; omega
    · omega
  · intro hji
    by_cases e : i = j
    · subst e; omega
    · have := pr_less h (i := j.toNat) (j := i.toNat) (by omega) (by omega)
      rw [ei, ej] at this; omega
theorem rebuild_loop {l : LV} (h : ascV l = true) {s : List Int} (h4 : s.length ≤ 400) (hb : ∀ x ∈ s, 0 ≤ x ∧ x < (l.length : Int)) {i : Int} (hi0 : 0 ≤ i) (hi1 : i < l.length) (hlast : ∀ k (hk : k < s.length), k + 1 = s.length → i ≤ s[k])
    (Q : Nat → Prop) (hQ : ∀ n (hn : n + 1 < s.length), s[n] ≤ i → i ≤ s[n + 1] → ∃ y, impl_Between (rowAt l s[n]).1 (rowAt l s[n]).2 (rowAt l s[n + 1]).1 (rowAt l s[n + 1]).2 (pr l i) = some y ∧ Q y) :
    ∀ (m n : Nat) (hn : n + 1 < s.length), s.length - n = m → s[n] ≤ i → ∃ y, Ev (fun k => impl_Rebuild_L4 k (s.map (rowAt l)) (pr l i) (n : Int)) y ∧ Q y
  | 0, n, hn, hm, _ => by omega
  | m + 1, n, hn, hm, hs => by
    have hx := hb _ (List.getElem_mem (show n < s.length by omega))
    have hy := hb _ (List.getElem_mem hn)
    have e1 : IntKind.i64.wrap ((n : Int) + 1) = ((n + 1 : Nat) : Int) := by rw [w64 (by omega) (by omega)]; omega
    have g0 : rd K2_0 (s.map (rowAt l)) (n : Int) = rowAt l s[n] := few_get (by omega)
    have g1 : rd K2_0 (s.map (rowAt l)) ((n + 1 : Nat) : Int) = rowAt l s[n + 1] := few_get hn
    have c0 : pr l i ≤ (rowAt l s[n]).1 := (pr_le h hi0 hx.1 hi1 hx.2).2 hs
    by_cases hc : i ≤ s[n + 1]
    · obtain ⟨y, hy1, hy2⟩ := hQ n hn hs hc
      have c1 : pr l i ≥ (rowAt l s[n + 1]).1 := (pr_le h hy.1 hi0 hy.2 hi1).2 hc
      refine ⟨y, ?_, hy2⟩
      apply ev_succ
      simp only [impl_Rebuild_L4, e1, List.length_map, show ((n + 1 : Nat) : Int) < (s.length : Int) by omega, show (0 : Int) ≤ (n : Int) by omega, show (0 : Int) ≤ ((n + 1 : Nat) : Int) by omega, show (n : Int) < (s.length : Int) by omega, g0, g1, c0, c1, decide_true, cond_true, hy1, Option.bind_some]
      exact ev_now _
    · have c1 : ¬ pr l i ≥ (rowAt l s[n + 1]).1 := fun c => hc ((pr_le h hy.1 hi0 hy.2 hi1).1 c)
      have hn2 : n + 1 + 1 < s.length := by
        by_cases q : n + 1 + 1 = s.length
        · have := hlast (n + 1) hn q; omega
        · omega
      obtain ⟨y, hy1, hy2⟩ := rebuild_loop h h4 hb hi0 hi1 hlast Q hQ m (n + 1) hn2 (by omega) (by omega)
      refine ⟨y, ?_, hy2⟩
      apply ev_succ
      simp only [impl_Rebuild_L4, e1, List.length_map, show ((n + 1 : Nat) : Int) < (s.length : Int) by omega, show (0 : Int) ≤ (n : Int) by omega, show (0 : Int) ≤ ((n + 1 : Nat) : Int) by omega, show (n : Int) < (s.length : Int) by omega, g0, g1, c0, c1, decide_true, decide_false, cond_true, cond_false]
      exact hy1
end Go.Proofs.Ytgkejafaggaocaa.SG

namespace Go.Proofs.Ytgkejafaggaocaa.SG
open Go Go.Eng Go.FT Ieee Go.Proofs.Ytgkejafaggaocaa.EX Go.Proofs.Ytgkejafaggaocaa.SJ Go.Proofs.Ytgkejafaggaocaa.SI
/-- Two numbers lie at most the tolerance apart, as the law asks it. -/
def Near (x tol y : Nat) : Prop := (Go.Eng.flt (fsub x y) tol || feq (fsub x y) tol) = true ∧ (Go.Eng.flt (fneg (fsub x y)) tol || feq (fneg (fsub x y)) tol) = true
theorem near_of {x tol y : Nat} {X T : Int} (hX : Fin (fsub x y) X) (hT : Fin tol T) (h : (X.natAbs : Int) ≤ T) : Near x tol y := by
  unfold Near
  rw [flt_fin hX hT, feq_fin hX hT, flt_fin (fin_neg hX) hT, feq_fin (fin_neg hX) hT]
  simp only [Bool.or_eq_true, decide_eq_true_eq]
  omega
theorem near_self {x tol : Nat} {X T : Int} (hX : Fin x X) (hT : Fin tol T) (h : 0 ≤ T) : Near x tol x := by
  have h0 : Fin (fsub x x) (rn (X - X)) := fin_sub hX hX (by rw [Int.sub_self]; decide)
  rw [Int.sub_self, rn_zero] at h0
  exact near_of h0 hT (by simpa using h)
theorem off_abs {l : LV} (h : ascV l = true) {i k j : Nat} (hik : i < k) (hkj : k < j) (hj : j < l.length) : ∃ (y : Nat) (X : Int), impl_Between (rowAt l i).1 (rowAt l i).2 (rowAt l j).1 (rowAt l j).2 (pr l k) = some y ∧ Fin (fsub (tm l k) y) X ∧ (X.natAbs : Int) = offD l i j k := by
  have oi := ok_parts ((asc_ok h).2 i (by omega))
  have oj := ok_parts ((asc_ok h).2 j (by omega))
  have ok := ok_parts ((asc_ok h).2 k (by omega))
  have p1 := pr_less h hik (by omega)
  have p2 := pr_less h hkj hj
  obtain ⟨X, hX, _⟩ : Bd (fsub (tm l k) (lineV (pr l i) (tm l i) (pr l j) (tm l j) (pr l k))) 12 := sub_bd (ok.2.2.mono (by omega)) (line_bd oj.1.1 p2 p1 oi.1.2 oi.2.2 oj.2.2) (by omega)
  have e1 := impl_between (tm l i) (tm l j) oj.1.1 p2 p1 oi.1.2
  refine ⟨_, X, e1, hX, ?_⟩
  obtain ⟨x, y, _, hy, _, _, e2⟩ := offD_ok h hik hkj hj
  have e3 : impl_Between (rd K2_0 l i).fst (rd K2_0 l i).snd (rd K2_0 l j).fst (rd K2_0 l j).snd (rd K2_0 l k).fst = some (lineV (pr l i) (tm l i) (pr l j) (tm l j) (pr l k)) := e1
  rw [e3, Option.bind_some] at e2
  have ha := fin_abs hX
  have e4 : math_Abs (fsub (rd K2_0 l k).snd (lineV (pr l i) (tm l i) (pr l j) (tm l j) (pr l k))) = some (fsub (tm l k) (lineV (pr l i) (tm l i) (pr l j) (tm l j) (pr l k)) % 2 ^ 63) := abs_eq (nan_fin hX) ha.canon
  rw [e4] at e2
  obtain rfl := Option.some.inj e2
  exact fin_one ha hy
theorem near_at {l : LV} (h : ascV l = true) {tol : Nat} {T : Int} (hT : Fin tol T) (h0 : 0 ≤ T) {u v i : Nat} (hu : u ≤ i) (hv : i ≤ v) (huv : u < v) (hl : v < l.length) (hp : pk l T u v = -1) :
    ∃ y, impl_Between (rowAt l u).1 (rowAt l u).2 (rowAt l v).1 (rowAt l v).2 (pr l i) = some y ∧ Near (tm l i) tol y := by
  have fin : ∀ {n : Nat}, n < l.length → ∃ X, Fin (tm l n) X := fun {n} hn => by
    obtain ⟨X, hX, _⟩ := (ok_parts ((asc_ok h).2 n hn)).2.2
    exact ⟨X, hX⟩
  by_cases e : i = u
  · subst e
    obtain ⟨X, hX⟩ := fin (show i < l.length by omega)
    refine ⟨tm l i, ?_, near_self hX hT h0⟩
    unfold impl_Between
    have : (pr l i == (rowAt l i).1) = true := beq_self_eq_true (pr l i)
    rw [this]
    rfl
  · by_cases e' : i = v
    · subst e'
      obtain ⟨X, hX⟩ := fin hl
      refine ⟨tm l i, ?_, near_self hX hT h0⟩
      have hlt := pr_less h huv hl
      have n1 : (pr l i == (rowAt l u).1) = false := by
        have : ¬ pr l i = pr l u := by omega
        exact decide_eq_false this
      have n2 : (pr l i == (rowAt l i).1) = true := beq_self_eq_true (pr l i)
      unfold impl_Between
      rw [n1, n2]
      rfl
    · obtain ⟨y, X, e1, hX, hD⟩ := off_abs h (i := u) (k := i) (j := v) (by omega) (by omega) hl
      exact ⟨y, e1, near_of hX hT (by rw [hD]; exact pk_none hp i (by omega) (by omega))⟩
end Go.Proofs.Ytgkejafaggaocaa.SG

namespace Go.Proofs.Ytgkejafaggaocaa.SG
open Go Go.Eng Go.FT Ieee Go.Proofs.Ytgkejafaggaocaa.EX Go.Proofs.Ytgkejafaggaocaa.SJ Go.Proofs.Ytgkejafaggaocaa.SI Go.Proofs.Ytgkejafaggaocaa.DR Go.Proofs.Ytgkejafaggaocaa.SF
theorem adj_get {R : Int → Int → Prop} : ∀ {xs : List Int}, Adj R xs → ∀ k (hk : k + 1 < xs.length), R xs[k] xs[k + 1]
  | [], _, k, hk => by simp at hk
  | [_], _, k, hk => by simp at hk
  | x :: y :: r, h, 0, hk => h.1
  | x :: y :: r, h, k + 1, hk => by
    have := adj_get h.2 k (by simp at hk ⊢; omega)
    simpa using this
/-- What is asked of the chosen ones. -/
structure Chosen (l : LV) (T : Int) (s : List Int) : Prop where
  two : 2 ≤ s.length
  first : s[0]? = some 0
  last : s[s.length - 1]? = some ((l.length : Int) - 1)
  adj : ∀ k (hk : k + 1 < s.length), 0 ≤ s[k] ∧ s[k] < s[k + 1] ∧ s[k + 1] ≤ (l.length : Int) - 1 ∧ pk l T s[k].toNat s[k + 1].toNat = -1
theorem chosen_sp {l : LV} {T : Int} (h : 2 ≤ l.length) : Chosen l T ([0] ++ sp l T (l.length - 1) 0 (l.length - 1) ++ [(l.length : Int) - 1]) := by
  have a := sp_adj (l := l) (T := T) (l.length - 1) 0 (l.length - 1) (by omega) (by omega)
  rw [show ((l.length - 1 : Nat) : Int) = (l.length : Int) - 1 by omega] at a
  refine ⟨by simp, by simp, by simp, fun k hk => ?_⟩
  have := adj_get (xs := [0] ++ sp l T (l.length - 1) 0 (l.length - 1) ++ [(l.length : Int) - 1]) (by simpa using a) k hk
  exact this
theorem Chosen.get {l : LV} {T : Int} {s : List Int} (c : Chosen l T s) (h : 2 ≤ l.length) : ∀ k (hk : k < s.length), (k : Int) ≤ s[k] ∧ s[k] < (l.length : Int)
  | 0, hk => by
    have h0 := (List.getElem?_eq_some_iff.1 c.first).2
    rw [h0]; omega
  | k + 1, hk => by
    have := c.get h k (by omega)
    have := c.adj k hk
    omega
theorem Chosen.mem {l : LV} {T : Int} {s : List Int} (c : Chosen l T s) (h : 2 ≤ l.length) : ∀ x ∈ s, 0 ≤ x ∧ x < (l.length : Int) := fun x hx => by
  obtain ⟨k, hk, rfl⟩ := List.getElem_of_mem hx
  have := c.get h k hk
  omega
theorem Chosen.short {l : LV} {T : Int} {s : List Int} (c : Chosen l T s) (h : 2 ≤ l.length) : s.length ≤ l.length := by
  have h2 := c.two
  have := c.get h (s.length - 1) (by omega)
  omega
theorem rebuilt {l : LV} (h : ascV l = true) {tol : Nat} {T : Int} (hT : Fin tol T) (h0 : 0 ≤ T) {s : List Int} (c : Chosen l T s) {i : Nat} (hi : i < l.length) :
    ∃ y, impl_Rebuild (s.map (rowAt l)) (pr l i) = some y ∧ Near (tm l i) tol y := by
  have hl := (asc_ok h).1
  have h2 := c.two
  have hs := c.short hl.1
  have hb := c.mem hl.1
  have hok := few_ok h h2 (by omega) hb fun k hk => (c.adj k hk).2.1
  obtain ⟨y, hy, hQ⟩ := rebuild_loop h (s := s) (by omega) hb (i := (i : Int)) (by omega) (by omega) (fun k hk e => by
      have h5 := (List.getElem?_eq_some_iff.1 c.last).2
      have e2 : s.length - 1 = k := by omega
      subst e2
      omega) (Near (tm l i) tol) (fun n hn g1 g2 => by
      have a := c.adj n hn
      have e1 : ((s[n].toNat : Nat) : Int) = s[n] := by omega
      have e2 : ((s[n + 1].toNat : Nat) : Int) = s[n + 1] := by omega
      have := near_at h hT h0 (u := s[n].toNat) (v := s[n + 1].toNat) (i := i) (by omega) (by omega) (by omega) (by omega) a.2.2.2
      rw [e1, e2] at this
      exact this) s.length 0 (by omega) (by omega) (by
      have h5 := (List.getElem?_eq_some_iff.1 c.first).2
      rw [h5]; omega)
  refine ⟨y, evF_eq ?_, hQ⟩
  unfold impl_Rebuild_F
  rw [impl_ok, hok]
  simp only [Option.bind_some, Bool.not_true, cond_false]
  exact hy
theorem near_loop {l : LV} {tol : Nat} {few : LV} (hl : l.length ≤ 400) (hN : ∀ i, i < l.length → ∃ y, impl_Rebuild few (pr l (i : Nat)) = some y ∧ Near (tm l (i : Nat)) tol y) :
    ∀ (m n : Nat), l.length - n = m → n ≤ l.length → Ev (fun k => laws_FnSignificant_L19 k tol (n : Int) l few) true
  | 0, n, hm, hn => by
    apply ev_succ
    simp only [laws_FnSignificant_L19, show ¬ ((n : Int) < (l.length : Int)) by omega, decide_false, cond_false]
    exact ev_now _
  | m + 1, n, hm, hn => by
    obtain ⟨y, hy, n1, n2⟩ := hN n (by omega)
    have ih := near_loop hl hN m (n + 1) (by omega) (by omega)
    unfold pr at hy
    unfold tm at n1 n2
    apply ev_succ
    simp only [laws_FnSignificant_L19, show ((n : Int) < (l.length : Int)) by omega, show (0 : Int) ≤ (n : Int) by omega, decide_true, cond_true, hy, Option.bind_some, n1, n2, Bool.not_true, cond_false, wsucc (show n < 9223372036854775807 by omega)]
    exact ih
theorem rising_loop {l : LV} {T : Int} {tol : Nat} {s : List Int} (c : Chosen l T s) (hs : s.length ≤ 400) {few : LV} (hf : laws_levelsAt l s = some few) (hN : Ev (fun k => laws_FnSignificant_L19 k tol 0 l few) true) :
    ∀ (m n : Nat), s.length - (n + 1) = m → n + 1 ≤ s.length → Ev (fun k => laws_FnSignificant_L13 k tol ((n + 1 : Nat) : Int) l s) true
  | 0, n, hm, hn => by
    apply ev_succ
    simp only [laws_FnSignificant_L13, show ¬ (((n + 1 : Nat) : Int) < (s.length : Int)) by omega, decide_false, cond_false, hf, Option.bind_some]
    exact hN
  | m + 1, n, hm, hn => by
    have ih := rising_loop c hs hf hN m (n + 1) (by omega) (by omega)
    have a := c.adj n (by omega)
    have e1 : IntKind.i64.wrap (((n + 1 : Nat) : Int) - 1) = (n : Int) := by rw [w64 (by omega) (by omega)]; omega
    apply ev_succ
    simp only [laws_FnSignificant_L13, e1, rd_nat (k := .int .i64) (show n < s.length by omega), rd_nat (k := .int .i64) (show n + 1 < s.length by omega), show (((n + 1 : Nat) : Int) < (s.length : Int)) by omega, show (0 : Int) ≤ (n : Int) by omega, show (0 : Int) ≤ ((n + 1 : Nat) : Int) by omega, show (n : Int) < (s.length : Int) by omega, show ¬ (s[n + 1] ≤ s[n]) by omega, decide_true, decide_false, cond_true, cond_false, wsucc (show n + 1 < 9223372036854775807 by omega)]
    exact ih
theorem law {l : List Int} (hb : ∀ x ∈ l, 0 ≤ x ∧ x ≤ 255) : laws_FnSignificant l = some true := by
  refine evF_eq ?_
  unfold laws_FnSignificant_F
  simp only [laws_big, Option.bind_some]
  by_cases h1 : (l.length : Int) > 1048576
  · simp only [h1, decide_true, cond_true]; exact ev_now _
  obtain ⟨⟨tol, xs⟩, e, _⟩ := draw_good (l := l) (by omega) hb
  obtain ⟨s, es, ei, _⟩ := signif_both xs tol
  simp only [h1, decide_false, cond_false, e, Option.bind_some, es, ei]
  by_cases h3 : (xs.length : Int) > 120
  · simp only [h3, decide_true, cond_true]; exact ev_now _
  by_cases h4 : (s.length : Int) = 0
  · simp only [h3, h4, decide_false, cond_false, beq_self_eq_true, cond_true]; exact ev_now _
  obtain ⟨ha, T, hT, h0⟩ := signif_some es (fun h => h4 (by rw [h]; rfl))
  have hl := (asc_ok ha).1
  obtain ⟨e2, _⟩ := signif_sp ha hT h0
  rw [es] at e2
  have c : Chosen xs T s := by rw [Option.some.inj e2]; exact chosen_sp hl.1
  have h2 := c.two
  have hs := c.short hl.1
  have q0 := (List.getElem?_eq_some_iff.1 c.first).2
  have q1 := (List.getElem?_eq_some_iff.1 c.last).2
  have e3 : IntKind.i64.wrap ((s.length : Int) - 1) = ((s.length - 1 : Nat) : Int) := by rw [w64 (by omega) (by omega)]; omega
  have e4 : IntKind.i64.wrap ((xs.length : Int) - 1) = (xs.length : Int) - 1 := w64 (by omega) (by omega)
  have r0 : rd (.int .i64) s 0 = 0 := by
    have := rd_nat (k := .int .i64) (xs := s) (n := 0) (by omega)
    exact this.trans q0
  have r1 : rd (.int .i64) s ((s.length - 1 : Nat) : Int) = (xs.length : Int) - 1 := (rd_nat (k := .int .i64) (xs := s) (by omega)).trans q1
  simp only [h3, h4, beqI, bneI, e3, e4, r0, r1, decide_true, decide_false, cond_true, cond_false, Bool.not_true, show ¬ ((s.length : Int) < 2) by omega, show (0 : Int) < (s.length : Int) by omega, show (0 : Int) ≤ ((s.length - 1 : Nat) : Int) by omega, show ((s.length - 1 : Nat) : Int) < (s.length : Int) by omega]
  exact rising_loop c (by omega) (levels_eq xs s (by omega) (c.mem hl.1)) (near_loop (by omega) (fun i hi => rebuilt ha hT h0 c hi) _ 0 rfl (by omega)) _ 0 rfl (by omega)
theorem pure (z0 : denKs [.sl (.int .u8)]) (h0 : wfKs [.sl (.int .u8)] z0) : g_laws_FnSignificant.fn ((z0.1, ()), ()) = some true := by
  obtain ⟨w0, _⟩ := h0
  exact law (fun x hx => wf_u8.1 ((wf_sl.1 w0).2 x hx))
end Go.Proofs.Ytgkejafaggaocaa.SG
