/-
  Part of a proof by the engine: texts that a program of ours printed, or plain lemmas on them. No condition but what each theorem says.
-/
import Derived.Test.YtgkejafaggaocaaASPlain
import Derived.Test.YtgkejafaggaocaaSI
set_option linter.unusedVariables false
set_option linter.unusedSimpArgs false
namespace Go.Proofs.Ytgkejafaggaocaa.SI
open Go Go.Eng Go.FT Ieee Go.Proofs.Ytgkejafaggaocaa.EX Go.Proofs.Ytgkejafaggaocaa.SJ
theorem sort_eq {n : Int} {s p : List Int} (hn : 0 < n) (hp : p.Perm s) (hs : s.Pairwise (· < ·)) (hb : ∀ x ∈ s, (0 : Int) < x ∧ x < n) : ([0, n] ++ p).mergeSort (fun x y => decide (x ≤ y)) = [0] ++ s ++ [n] := by
  have h1 : (([0, n] ++ p).mergeSort fun x y => decide (x ≤ y)).Pairwise (· ≤ ·) := by
    have := List.pairwise_mergeSort (le := fun x y : Int => decide (x ≤ y)) (fun a b c h1 h2 => by simp only [decide_eq_true_eq] at *; omega) (fun a b => by simp only [Bool.or_eq_true, decide_eq_true_eq]; omega) ([0, n] ++ p)
    exact this.imp fun h => by simpa using h
  have h2 : ([0] ++ s ++ [n]).Pairwise (· ≤ ·) := by
    rw [List.pairwise_append, List.pairwise_append]
    refine ⟨⟨List.pairwise_singleton _ _, hs.imp fun h => by omega, fun x hx y hy => ?_⟩, List.pairwise_singleton _ _, fun x hx y hy => ?_⟩
    · simp only [List.mem_singleton] at hx
      have := hb y hy
      omega
    · simp only [List.mem_singleton] at hy
      rcases List.mem_append.1 hx with hx | hx
      · simp only [List.mem_singleton] at hx; omega
      · have := hb x hx; omega
  refine List.Perm.eq_of_pairwise (le := (· ≤ ·)) (fun a b _ _ h k => by omega) h1 h2 ((List.mergeSort_perm _ _).trans ?_)
  exact List.Perm.cons 0 ((List.Perm.cons n hp).trans (List.perm_append_singleton n s).symm)
theorem signif_both (l : LV) (tol : Nat) : ∃ s : List Int, spec_Signif l tol = some s ∧ impl_Signif l tol = some s ∧ s.length ≤ 1000 ∧
    (ascV l = true → (∃ T, Fin tol T ∧ 0 ≤ T) → ∃ q : List Int, s = [0] ++ q ++ [(l.length : Int) - 1]) := by
  unfold spec_Signif impl_Signif
  rw [spec_ok, impl_ok, known_spec, known_impl]
  simp only [Option.bind_some]
  cases h : ascV l
  · exact ⟨[], rfl, rfl, by simp, fun h => by cases h⟩
  cases hk : feq (fsub tol tol) 0
  · refine ⟨[], rfl, rfl, by simp, fun _ ⟨T, hT, _⟩ => ?_⟩
    rw [known_fin hT] at hk; cases hk
  obtain ⟨T, hT⟩ := fin_of_known hk
  cases h0 : Go.Eng.flt tol 0
  rotate_left
  · refine ⟨[], rfl, rfl, by simp, fun _ ⟨T', hT', h0'⟩ => ?_⟩
    rw [flt_fin hT' fin_zero] at h0
    have := of_decide_eq_true h0
    omega
  have hl := (asc_ok h).1
  have hw : IntKind.i64.wrap ((l.length : Int) - 1) = ((l.length - 1 : Nat) : Int) := by rw [w64 (by omega) (by omega)]; omega
  have hmax : 1000 ≤ maxBytes / 8 := by decide
  obtain ⟨s, p, a, b, c, d, f, g⟩ := split_both h hT (l.length - 1) 0 (l.length - 1) (by omega) (by omega) (by omega)
  have q1 : spec_l6Split l 0 ((l.length - 1 : Nat) : Int) tol = some s := evF_eq a
  have q2 : impl_Signif_1 0 ((l.length - 1 : Nat) : Int) l tol [0, ((l.length - 1 : Nat) : Int)] = some (l, tol, [0, ((l.length - 1 : Nat) : Int)] ++ p) := evF_eq (b [0, ((l.length - 1 : Nat) : Int)] (by simp; omega))
  have hlen : p.length = s.length := c.length_eq
  have q3 : dSort ([0, ((l.length - 1 : Nat) : Int)] ++ p) = some ([0] ++ s ++ [((l.length - 1 : Nat) : Int)]) := by
    unfold dSort
    rw [sort_eq (by omega) c d f]
    rw [show ([0, ((l.length - 1 : Nat) : Int)] ++ p).isEmpty = false from rfl]
    simp only [Bool.false_or, List.length_append, List.length_cons, List.length_nil, show 0 + 1 + 1 + p.length < 4611686018427387904 by omega, decide_true, Bool.not_true, cond_false]
  refine ⟨[0] ++ s ++ [((l.length - 1 : Nat) : Int)], ?_, ?_, by simp; omega, fun _ _ => ⟨s, by rw [show ((l.length - 1 : Nat) : Int) = (l.length : Int) - 1 by omega]⟩⟩
  · simp only [Bool.not_true, cond_false, hw, q1, Option.bind_some, List.nil_append, List.length_append, List.length_singleton, show 1 + s.length ≤ maxBytes / 8 by omega, show 1 + s.length + 1 ≤ maxBytes / 8 by omega, decide_true, cond_true]
  · simp only [Bool.not_true, cond_false, hw, q2, q3, Option.bind_some]
end Go.Proofs.Ytgkejafaggaocaa.SI

namespace Go.Proofs.Ytgkejafaggaocaa.SI
open Go Go.Eng Go.FT Ieee Go.Proofs.Ytgkejafaggaocaa.EX Go.Proofs.Ytgkejafaggaocaa.SJ
theorem toLevelS_eq (xs : LV) (hx : xs.length ≤ 1048576) : laws_toLevelS xs = some xs := by
  refine evF_eq ?_
  have hmax : 1048576 ≤ maxBytes / 16 := by decide
  simp only [laws_toLevelS_F, Int.le_refl, decide_true, cond_true, Int.toNat_natCast, show xs.length ≤ maxBytes / 16 by omega]
  have h0 := ev_upto (l := fun k n => laws_toLevelS_L3 k xs (n : Int) (xs.take n ++ List.replicate (xs.length - n) (0, 0))) (N := xs.length) (r := xs) (fun n hn k => by
    have hl := copy_len (z := ((0, 0) : Int × Nat)) (Nat.le_of_lt hn)
    simp only [laws_toLevelS_L3, show (n : Int) < (xs.length : Int) by omega, show (0 : Int) ≤ (n : Int) by omega, decide_true, cond_true, hl, laws_toLevel, Option.bind_some, wsucc (show n < 9223372036854775807 by omega)]
    rw [setW_nat (by rw [hl]; exact hn), Option.bind_some]
    rw [show ((rd K2_0 xs (n : Int)).fst, (rd K2_0 xs (n : Int)).snd) = xs[n] by rw [rd_nat (k := K2_0) hn]]
    rw [copy_step hn]) (ev_succ (by
    simp only [laws_toLevelS_L3, Int.lt_irrefl, decide_false, cond_false]
    exact ev_eq (ev_now _) (by simp)))
  simpa using h0
theorem same_self (x : Nat) : laws_sameFloat x x = some true := by
  unfold laws_sameFloat
  cases h : feq x x
  · rfl
  · cases h0 : feq x 0
    · rfl
    · simp
theorem eqInt_self (xs : List Int) (hx : xs.length ≤ 1048576) : laws_eqInt64S xs xs = some true := by
  refine evF_eq ?_
  simp only [laws_eqInt64S_F, bne_self_eq_false, cond_false]
  exact ev_upto (l := fun k n => laws_eqInt64S_L4 k xs xs (n : Int)) (N := xs.length) (fun n hn k => by
    simp only [laws_eqInt64S_L4, show (n : Int) < (xs.length : Int) by omega, show (0 : Int) ≤ (n : Int) by omega, decide_true, cond_true, bne_self_eq_false, wsucc (show n < 9223372036854775807 by omega), cond_false]) (ev_succ (by
    simp only [laws_eqInt64S_L4, Int.lt_irrefl, decide_false, cond_false]
    exact ev_now _))
theorem eqLevel_self (xs : LV) (hx : xs.length ≤ 1048576) : laws_eqLevelS xs xs = some true := by
  refine evF_eq ?_
  simp only [laws_eqLevelS_F, bne_self_eq_false, cond_false]
  exact ev_upto (l := fun k n => laws_eqLevelS_L4 k xs xs (n : Int)) (N := xs.length) (fun n hn k => by
    simp only [laws_eqLevelS_L4, laws_eqLevel, same_self, show (n : Int) < (xs.length : Int) by omega, show (0 : Int) ≤ (n : Int) by omega, decide_true, cond_true, bne_self_eq_false, wsucc (show n < 9223372036854775807 by omega), cond_false, Option.bind_some, Bool.not_true]) (ev_succ (by
    simp only [laws_eqLevelS_L4, Int.lt_irrefl, decide_false, cond_false]
    exact ev_now _))
theorem pL0 (x : Int × Nat) (v : Int) : putK K2_0 0 [.int .i64 v] x = some (v, x.2) := rfl
theorem pL1 (x : Int × Nat) (v : Nat) : putK K2_0 1 [.flt v] x = some (x.1, v) := rfl
theorem markLevel_some (xs : LV) (hx : xs.length ≤ 1048576) : ∃ ys, laws_markLevelS 1 xs = some (1 + 2 * (xs.length : Int), ys) := by
  have loop : ∀ (m n : Nat) (ys : LV), ys.length - n = m → n ≤ ys.length → ys.length ≤ 1048576 →
      ∃ zs, Ev (fun q => laws_markLevelS_L2 q (1 + 2 * (n : Int)) (n : Int) ys) (1 + 2 * (ys.length : Int), zs) := by
    intro m
    induction m with
    | zero =>
      intro n ys hm hn hl
      obtain rfl : n = ys.length := by omega
      refine ⟨ys, ?_⟩
      apply ev_succ
      simp only [laws_markLevelS_L2, Int.lt_irrefl, decide_false, cond_false]
      exact ev_now _
    | succ m ih =>
      intro n ys hm hn hl
      have hlt : n < ys.length := by omega
      have e1 : IntKind.i64.wrap (1 + 2 * (n : Int) + 1) = 1 + 2 * (n : Int) + 1 := w64 (by omega) (by omega)
      have e2 : IntKind.i64.wrap (1 + 2 * (n : Int) + 1 + 1) = 1 + 2 * ((n + 1 : Nat) : Int) := by rw [w64 (by omega) (by omega)]; omega
      have hS : ∀ (o : Nat) (cs : List Cell) (ys : LV) (h : n < ys.length), setO K2_0 o cs ys (n : Int) = (putK K2_0 o cs ys[n]).map fun y => ys.set n y := fun o cs ys h => setO_put h
      obtain ⟨zs, hz⟩ := ih (n + 1) ((ys.set n ((1 + 2 * (n : Int)), ys[n].2)).set n ((1 + 2 * (n : Int)), fofi (1 + 2 * (n : Int) + 1))) (by simp; omega) (by simp; omega) (by simp; omega)
      refine ⟨zs, ?_⟩
      apply ev_succ
      simp only [List.length_set] at hz
      simp only [laws_markLevelS_L2, e1, e2, show (n : Int) < (ys.length : Int) by omega, show (0 : Int) ≤ (n : Int) by omega, decide_true, cond_true, hS, hlt, List.length_set, pL0, pL1, Option.map_some, Option.bind_some, List.getElem_set_self, wsucc (show n < 9223372036854775807 by omega)]
      exact hz
  obtain ⟨zs, hz⟩ := loop xs.length 0 xs (by omega) (by omega) hx
  exact ⟨zs, evF_eq hz⟩
def markP (k : Int) : List Int → List Int
  | [] => []
  | _ :: xs => k :: markP (k + 1) xs
theorem markP_length (k : Int) (xs : List Int) : (markP k xs).length = xs.length := by
  induction xs generalizing k with
  | nil => rfl
  | cons x xs ih => simp [markP, ih]
theorem markP_get (k : Int) (xs : List Int) (n : Nat) (h : n < (markP k xs).length) : (markP k xs)[n] = k + (n : Int) := by
  induction xs generalizing k n with
  | nil => simp [markP] at h
  | cons x xs ih =>
    cases n with
    | zero => simp [markP]
    | succ n =>
      simp only [markP, List.getElem_cons_succ]
      rw [ih]
      omega
theorem mark_eq (xs : List Int) (hx : xs.length ≤ 3000) : laws_markInt64S 1 xs = some (1 + (xs.length : Int), markP 1 xs) := by
  refine evF_eq ?_
  have loop : ∀ (m n : Nat) (k : Int) (ys : List Int), ys.length - n = m → n ≤ ys.length → ys.length ≤ 3000 → 0 ≤ k ∧ k ≤ 100000 - ((ys.length - n : Nat) : Int) →
      Ev (fun q => laws_markInt64S_L2 q k (n : Int) ys) (k + ((ys.length - n : Nat) : Int), ys.take n ++ markP k (ys.drop n)) := by
    intro m
    induction m with
    | zero =>
      intro n k ys hm hn hl hk
      obtain rfl : n = ys.length := by omega
      apply ev_succ
      simp only [laws_markInt64S_L2, Int.lt_irrefl, decide_false, cond_false]
      exact ev_eq (ev_now _) (by simp [markP])
    | succ m ih =>
      intro n k ys hm hn hl hk
      have hlt : n < ys.length := by omega
      have := ih (n + 1) (k + 1) (ys.set n k) (by simp; omega) (by simp; omega) (by simp; omega) (by simp; omega)
      apply ev_succ
      simp only [laws_markInt64S_L2, show (n : Int) < (ys.length : Int) by omega, show (0 : Int) ≤ (n : Int) by omega, decide_true, cond_true, setW_nat hlt, Option.bind_some, w64 (n := k + 1) (by omega) (by omega), wsucc (show n < 9223372036854775807 by omega)]
      refine ev_eq this ?_
      rw [List.length_set, List.drop_set_of_lt (by omega), drop_cons hlt, List.take_succ_eq_append_getElem (by simpa using hlt)]
      simp only [markP, List.getElem_set_self, List.take_set_of_le (Nat.le_refl n), List.append_assoc, List.singleton_append]
      congr 1
      omega
  have := loop xs.length 0 1 xs (by omega) (by omega) hx (by omega)
  simpa [laws_markInt64S_F] using this
theorem held_eq (xs : List Int) (hx : xs.length ≤ 3000) : laws_heldInt64S (markP 1 xs) 1 = some (1 + (xs.length : Int)) := by
  refine evF_eq ?_
  have hl := markP_length 1 xs
  have h0 := ev_upto (l := fun q n => laws_heldInt64S_L2 q (markP 1 xs) (1 + (n : Int)) (n : Int)) (N := xs.length) (r := 1 + (xs.length : Int)) (fun n hn q => by
    have hn' : n < (markP 1 xs).length := by omega
    have e1 : IntKind.i64.wrap (1 + (n : Int) + 1) = 1 + ((n + 1 : Nat) : Int) := by rw [w64 (by omega) (by omega)]; omega
    simp only [laws_heldInt64S_L2, e1, show (n : Int) < ((markP 1 xs).length : Int) by omega, show (0 : Int) ≤ (n : Int) by omega, decide_true, cond_true, rd_nat (k := .int .i64) hn', markP_get, bne_self_eq_false, cond_false, wsucc (show n < 9223372036854775807 by omega)]) (ev_succ (by
    simp only [laws_heldInt64S_L2, hl, Int.lt_irrefl, decide_false, cond_false]
    exact ev_now _))
  simpa [laws_heldInt64S_F] using h0
theorem law (xs : LV) (tol : Nat) (hx : xs.length ≤ 9223372036854775807) : laws_FnExactSignif xs tol = some true := by
  unfold laws_FnExactSignif laws_szLevelS
  rw [w64 (n := 1048576 - (xs.length : Int)) (by omega) (by omega)]
  by_cases hn : 1048576 - (xs.length : Int) < 0
  · simp only [hn, decide_true, cond_true, Option.bind_some, show (-1 : Int) < 0 by omega]
  · have hl : xs.length ≤ 1048576 := by omega
    obtain ⟨s, e1, e2, hs, _⟩ := signif_both xs tol
    obtain ⟨ys, hm⟩ := markLevel_some xs hl
    simp only [hn, decide_false, cond_false, Option.bind_some, toLevelS_eq xs hl, e1, e2, eqInt_self s (by omega), eqLevel_self xs hl, hm, mark_eq s (by omega), held_eq s (by omega), Bool.not_true,
      show ¬ (1 + 2 * (xs.length : Int) < 0) by omega, show ¬ (1 + (s.length : Int) < 0) by omega, bne_self_eq_false]
theorem pure (z0 : denKs [.sl (.pair (.int .i64) .flt)]) (z1 : denKs [.flt]) (h0 : wfKs [.sl (.pair (.int .i64) .flt)] z0) (h1 : wfKs [.flt] z1) : g_laws_FnExactSignif.fn ((z0.1, z1.1, ()), ()) = some true :=
  law z0.1 z1.1 (wf_sl.1 h0.1).1
end Go.Proofs.Ytgkejafaggaocaa.SI
