/-
  Part of a proof by the engine: texts that a program of ours printed, or plain lemmas on them. No condition but what each theorem says.
-/
import Derived.Test.YtgkejafaggaocaaASPlain
import Derived.Test.YtgkejafaggaocaaSI
set_option linter.unusedVariables false
set_option linter.unusedSimpArgs false
namespace Go.Proofs.Ytgkejafaggaocaa.SI
open Go Go.Eng Go.FT Ieee Go.Proofs.Ytgkejafaggaocaa.EX Go.Proofs.Ytgkejafaggaocaa.SJ
theorem sort_eq {n : Int} {s p : List Int} (hn : 0 < n) (hp : p.Perm s) (hs : s.Pairwise (· < ·)) (hb : ∀ x ∈ s, (0 : Int) < x ∧ x < n) : ([0, n] ++ p).mergeSort (fun x y => decide (x ≤ y)) = [0] ++ s ++ [n] := by
  have h1 : (([0, n] ++ p).mergeSort fun x y => decide (x ≤ y)).Pairwise (· ≤ ·) := by
    have := List.pairwise_mergeSort (le := fun x y : Int => decide (x ≤ y)) (fun a b c h1 h2 => by simp only [decide_eq_true_eq] at *; omega) (fun a b => by simp only [Bool.or_eq_true, decide_eq_true_eq]; omega) ([0, n] ++ p)
    exact this.imp fun h => by simpa using h
  have h2 : ([0] ++ s ++ [n]).Pairwise (· ≤ ·) := by
    rw [List.pairwise_append, List.pairwise_append]
    refine ⟨⟨List.pairwise_singleton _ _, hs.imp fun h => by omega, fun x hx y hy => ?_⟩, List.pairwise_singleton _ _, fun x hx y hy => ?_⟩
    · simp only [List.mem_singleton] at hx
      have := hb y hy
      omega
    · simp only [List.mem_singleton] at hy
      rcases List.mem_append.1 hx with hx | hx
      · simp only [List.mem_singleton] at hx; omega
      · have := hb x hx; omega
  refine List.Perm.eq_of_pairwise (le := (· ≤ ·)) (fun a b _ _ h k => by omega) h1 h2 ((List.mergeSort_perm _ _).trans ?_)
  exact List.Perm.cons 0 ((List.Perm.cons n hp).trans (List.perm_append_singleton n s).symm)
theorem signif_both (l : LV) (tol : Nat) : ∃ s : List Int, spec_Signif l tol = some s ∧ impl_Signif l tol = some s ∧ s.length ≤ 1000 ∧
    (ascV l = true → (∃ T, Fin tol T ∧ 0 ≤ T) → ∃ q : List Int, s = [0] ++ q ++ [(l.length : Int) - 1]) := by
  unfold spec_Signif impl_Signif
  rw [spec_ok, impl_ok, known_spec, known_impl]
  simp only [Option.bind_some]
  cases h : ascV l
  · exact ⟨[], rfl, rfl, by simp, fun h => by cases h⟩
  cases hk : feq (fsub tol tol) 0
  · refine ⟨[], rfl, rfl, by simp, fun _ ⟨T, hT, _⟩ => ?_⟩
    rw [known_fin hT] at hk; cases hk
  obtain ⟨T, hT⟩ := fin_of_known hk
  cases h0 : Go.Eng.flt tol 0
  rotate_left
  · refine ⟨[], rfl, rfl, by simp, fun _ ⟨T', hT', h0'⟩ => ?_⟩
    rw [flt_fin hT' fin_zero] at h0
    have := of_decide_eq_true h0
    omega
  have hl := (asc_ok h).1
  have hw : IntKind.i64.wrap ((l.length : Int) - 1) = ((l.length - 1 : Nat) : Int) := by rw [w64 (by omega) (by omega)]; omega
  have hmax : 1000 ≤ maxBytes / 8 := by decide
  obtain ⟨s, p, a, b, c, d, f, g⟩ := split_both h hT (l.length - 1) 0 (l.length - 1) (by omega) (by omega) (by omega)
  have q1 : spec_l6Split l 0 ((l.length - 1 : Nat) : Int) tol = some s := evF_eq a
  have q2 : impl_Signif_1 0 ((l.length - 1 : Nat) : Int) l tol [0, ((l.length - 1 : Nat) : Int)] = some (l, tol, [0, ((l.length - 1 : Nat) : Int)] ++ p) := evF_eq (b [0, ((l.length - 1 : Nat) : Int)] (by simp; omega))
  have hlen : p.length = s.length := c.length_eq
  have q3 : dSort ([0, ((l.length - 1 : Nat) : Int)] ++ p) = some ([0] ++ s ++ [((l.length - 1 : Nat) : Int)]) := by
    unfold dSort
    rw [sort_eq (by omega) c d f]
    rw [show ([0, ((l.length - 1 : Nat) : Int)] ++ p).isEmpty = false from rfl]
    simp only [Bool.false_or, List.length_append, List.length_cons, List.length_nil, show 0 + 1 + 1 + p.length < 4611686018427387904 by omega, decide_true, Bool.not_true, cond_false]
  refine ⟨[0] ++ s ++ [((l.length - 1 : Nat) : Int)], ?_, ?_, by simp; omega, fun _ _ => ⟨s, by rw [show ((l.length - 1 : Nat) : Int) = (l.length : Int) - 1 by omega]⟩⟩
  · simp only [Bool.not_true, cond_false, hw, q1, Option.bind_some, List.nil_append, List.length_append, List.length_singleton, show 1 + s.length ≤ maxBytes / 8 by omega, show 1 + s.length + 1 ≤ maxBytes / 8 by omega, decide_true, cond_true]
  · simp only [Bool.not_true, cond_false, hw, q2, q3, Option.bind_some]
end Go.Proofs.Ytgkejafaggaocaa.SI
