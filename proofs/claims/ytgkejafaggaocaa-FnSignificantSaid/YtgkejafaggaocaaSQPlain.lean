/-
  Part of a proof by the engine: texts that a program of ours printed, or plain lemmas on them. No condition but what each theorem says.
-/
import Derived.Test.YtgkejafaggaocaaSIPlain
import Derived.Test.YtgkejafaggaocaaFT
set_option linter.unusedVariables false
set_option linter.unusedSimpArgs false
namespace Go.Proofs.Ytgkejafaggaocaa.SI
open Go Go.Eng Go.FT Ieee Go.Proofs.Ytgkejafaggaocaa.EX Go.Proofs.Ytgkejafaggaocaa.SJ
/-- How far a level lies off the line between two others. -/
def OffP (l : LV) (i j k : Nat) (D : Int) : Prop := ∃ x y : Nat, Fin x D ∧ Fin y D ∧ 0 ≤ D ∧ spec_l6Off l i j k = some x ∧
    ((impl_Between (rd K2_0 l i).fst (rd K2_0 l i).snd (rd K2_0 l j).fst (rd K2_0 l j).snd (rd K2_0 l k).fst).bind fun val => math_Abs (fsub (rd K2_0 l k).snd val)) = some y
open Classical in
noncomputable def offD (l : LV) (i j k : Nat) : Int := if h : ∃ D, OffP l i j k D then h.choose else 0
theorem offD_ok {l : LV} (h : ascV l = true) {i k j : Nat} (hik : i < k) (hkj : k < j) (hj : j < l.length) : OffP l i j k (offD l i j k) := by
  have e : ∃ D, OffP l i j k D := by
    obtain ⟨D, x, y, r⟩ := off_both h hik hkj hj
    exact ⟨D, x, y, r⟩
  unfold offD
  rw [dif_pos e]
  exact e.choose_spec
/-- The place between two that the tolerance T chooses first, or -1. -/
noncomputable def pk (l : LV) (T : Int) (i j : Nat) : Int := pick (offD l i j) (j - (i + 1)) (i + 1) (-1) T
noncomputable def sp (l : LV) (T : Int) : Nat → Nat → Nat → List Int
  | 0, _, _ => []
  | d + 1, i, j => if pk l T i j < 0 then [] else sp l T d i (pk l T i j).toNat ++ [pk l T i j] ++ sp l T d (pk l T i j).toNat j
theorem pick_mono {D : Nat → Int} : ∀ {m n : Nat} {a M W : Int}, M ≤ W → pick D m n (-1) W = -1 ∨ pick D m n a M = pick D m n (-1) W
  | 0, n, a, M, W, h => .inl rfl
  | m + 1, n, a, M, W, h => by
    unfold pick
    by_cases h1 : W < D n
    · rw [if_pos h1, if_pos (by omega)]; exact .inr rfl
    · rw [if_neg h1]
      by_cases h2 : M < D n
      · rw [if_pos h2]; exact pick_mono (by omega)
      · rw [if_neg h2]; exact pick_mono h
theorem pk_at (l : LV) (T : Int) {i j : Nat} (hij : i < j) : pk l T i j = -1 ∨ ∃ k : Nat, i < k ∧ k < j ∧ pk l T i j = k := by
  unfold pk
  rcases pick_at (D := offD l i j) (m := j - (i + 1)) (n := i + 1) (a := -1) (M := T) with e | ⟨k, k1, k2, e⟩
  · exact .inl e
  · exact .inr ⟨k, by omega, by omega, e⟩
/-- A greater tolerance chooses no more. -/
theorem sp_sub {l : LV} {T W : Int} (h : T ≤ W) : ∀ (d i j : Nat), ∀ x ∈ sp l W d i j, x ∈ sp l T d i j
  | 0, i, j, x, hx => hx
  | d + 1, i, j, x, hx => by
    unfold sp at hx ⊢
    rcases pick_mono (D := offD l i j) (m := j - (i + 1)) (n := i + 1) (a := -1) h with e | e
    · rw [if_pos (show pk l W i j < 0 by unfold pk; omega)] at hx
      cases hx
    · have e' : pk l T i j = pk l W i j := e
      by_cases hn : pk l W i j < 0
      · rw [if_pos hn] at hx; cases hx
      · rw [if_neg hn] at hx
        rw [e', if_neg hn]
        rcases List.mem_append.1 hx with hx | hx
        · rcases List.mem_append.1 hx with hx | hx
          · exact List.mem_append_left _ (List.mem_append_left _ (sp_sub h d _ _ x hx))
          · exact List.mem_append_left _ (List.mem_append_right _ hx)
        · exact List.mem_append_right _ (sp_sub h d _ _ x hx)
theorem sp_in {l : LV} {T : Int} : ∀ (d i j : Nat), i < j → ∀ x ∈ sp l T d i j, (i : Int) < x ∧ x < (j : Int)
  | 0, i, j, _, x, hx => by cases hx
  | d + 1, i, j, hij, x, hx => by
    unfold sp at hx
    rcases pk_at l T hij with e | ⟨k, k1, k2, e⟩
    · rw [e, if_pos (by omega)] at hx; cases hx
    · rw [e, if_neg (by omega), Int.toNat_natCast] at hx
      rcases List.mem_append.1 hx with hx | hx
      · rcases List.mem_append.1 hx with hx | hx
        · have := sp_in d i k k1 x hx; omega
        · simp only [List.mem_singleton] at hx; omega
      · have := sp_in d k j k2 x hx; omega
/-- What the reference answers for two places. -/
theorem sp_spec {l : LV} (h : ascV l = true) {tol : Nat} {T : Int} (hT : Fin tol T) : ∀ (d i j : Nat), j - i ≤ d → i < j → j < l.length →
    Ev (fun m => spec_l6Split_R m l i j tol) (sp l T d i j) ∧ (sp l T d i j).length < j - i := by
  intro d
  induction d with
  | zero => intro i j h1 h2 h3; omega
  | succ d ih =>
    intro i j h1 hij hj
    have hl := (asc_ok h).1.2
    have hmax : 1000 ≤ maxBytes / 8 := by decide
    have hDs : ∀ k, i < k → k < j → ∃ x, Fin x (offD l i j k) ∧ spec_l6Off l i j k = some x := fun k h1 h2 => by
      obtain ⟨x, y, hx, hy, _, e1, e2⟩ := offD_ok h h1 h2 hj
      exact ⟨x, hx, e1⟩
    have hw1 : IntKind.i64.wrap ((i : Int) + 1) = ((i + 1 : Nat) : Int) := by rw [w64 (by omega) (by omega)]; omega
    have hS : ∀ (rc : LV → Int → Int → Nat → Option (List Int)) (r : List Int), spTail rc l i j tol (pk l T i j) = some r → evF (fun k => spec_l6Split_F rc k l i j tol) = some r := fun rc r ht => by
      refine evF_eq ?_
      unfold spec_l6Split_F
      rw [hw1]
      exact spec_scan hj hl (offD l i j) hDs rc r _ _ _ _ T (by omega) (by omega) hT ht
    unfold sp
    rcases pk_at l T hij with e | ⟨k, k1, k2, e⟩
    · rw [e] at hS ⊢
      rw [if_pos (by omega)]
      refine ⟨?_, by simp; omega⟩
      apply ev_succ
      exact ⟨0, fun m _ => hS _ _ rfl⟩
    · rw [e] at hS ⊢
      rw [if_neg (by omega), Int.toNat_natCast]
      obtain ⟨a1, g1⟩ := ih i k (by omega) (by omega) (by omega)
      obtain ⟨a2, g2⟩ := ih k j (by omega) (by omega) hj
      refine ⟨?_, by simp only [List.length_append, List.length_singleton]; omega⟩
      apply ev_succ
      obtain ⟨N1, n1⟩ := a1
      obtain ⟨N2, n2⟩ := a2
      refine ⟨max N1 N2, fun m hm => hS _ _ ?_⟩
      have q1 := n1 m (by omega)
      have q2 := n2 m (by omega)
      simp only at q1 q2
      simp only [spTail, show ¬ ((k : Int) < 0) by omega, decide_false, cond_false, q1, q2, Option.bind_some, List.length_append, List.length_singleton, show (sp l T d i k).length + 1 ≤ maxBytes / 8 by omega, show (sp l T d i k).length + 1 + (sp l T d k j).length ≤ maxBytes / 8 by omega, decide_true, cond_true]
/-- What both answer where the levels and the tolerance are right. -/
theorem signif_sp {l : LV} {tol : Nat} {T : Int} (h : ascV l = true) (hT : Fin tol T) (h0 : 0 ≤ T) :
    spec_Signif l tol = some ([0] ++ sp l T (l.length - 1) 0 (l.length - 1) ++ [(l.length : Int) - 1]) ∧ impl_Signif l tol = some ([0] ++ sp l T (l.length - 1) 0 (l.length - 1) ++ [(l.length : Int) - 1]) := by
  have hs : spec_Signif l tol = some ([0] ++ sp l T (l.length - 1) 0 (l.length - 1) ++ [(l.length : Int) - 1]) := by
    have hl := (asc_ok h).1
    have hw : IntKind.i64.wrap ((l.length : Int) - 1) = ((l.length - 1 : Nat) : Int) := by rw [w64 (by omega) (by omega)]; omega
    have hmax : 1000 ≤ maxBytes / 8 := by decide
    obtain ⟨a, g⟩ := sp_spec h hT (l.length - 1) 0 (l.length - 1) (by omega) (by omega) (by omega)
    have q1 : spec_l6Split l 0 ((l.length - 1 : Nat) : Int) tol = some (sp l T (l.length - 1) 0 (l.length - 1)) := evF_eq a
    have hf : Go.Eng.flt tol 0 = false := by rw [flt_fin hT fin_zero]; exact decide_eq_false (by omega)
    unfold spec_Signif
    rw [spec_ok, h, known_spec, known_fin hT, hf]
    simp only [Option.bind_some, Bool.not_true, cond_false, hw, q1, List.nil_append, List.length_append, List.length_singleton, show 1 + (sp l T (l.length - 1) 0 (l.length - 1)).length ≤ maxBytes / 8 by omega, show 1 + (sp l T (l.length - 1) 0 (l.length - 1)).length + 1 ≤ maxBytes / 8 by omega, decide_true, cond_true]
    rw [show ((l.length - 1 : Nat) : Int) = (l.length : Int) - 1 by omega]
  refine ⟨hs, ?_⟩
  obtain ⟨s, e1, e2, _⟩ := signif_both l tol
  rw [e2, ← e1, hs]
/-- Where something is answered, levels and tolerance are right. -/
theorem signif_some {l : LV} {tol : Nat} {s : List Int} (hs : spec_Signif l tol = some s) (hne : s ≠ []) : ascV l = true ∧ ∃ T, Fin tol T ∧ 0 ≤ T := by
  unfold spec_Signif at hs
  rw [spec_ok, known_spec] at hs
  simp only [Option.bind_some] at hs
  cases h : ascV l with
  | false => rw [h] at hs; exact absurd (Option.some.inj hs).symm hne
  | true =>
    cases hk : feq (fsub tol tol) 0 with
    | false => rw [h, hk] at hs; exact absurd (Option.some.inj hs).symm hne
    | true =>
      obtain ⟨T, hT⟩ := fin_of_known hk
      refine ⟨rfl, T, hT, ?_⟩
      cases h0 : Go.Eng.flt tol 0 with
      | true => rw [h, hk, h0] at hs; exact absurd (Option.some.inj hs).symm hne
      | false =>
        rw [flt_fin hT fin_zero] at h0
        have := of_decide_eq_false h0
        omega
/-- A greater tolerance chooses no level that the lesser one does not. -/
theorem fewer {l : LV} {tol wide : Nat} {T W : Int} (h : ascV l = true) (hT : Fin tol T) (h0 : 0 ≤ T) (hW : Fin wide W) (hTW : T ≤ W) :
    ∃ a b : List Int, impl_Signif l tol = some a ∧ impl_Signif l wide = some b ∧ 2 ≤ b.length ∧ a.length ≤ 1000 ∧ b.length ≤ 1000 ∧ ∀ x ∈ b, x ∈ a := by
  obtain ⟨_, e1⟩ := signif_sp h hT h0
  obtain ⟨_, e2⟩ := signif_sp h hW (by omega)
  obtain ⟨s, _, f1, l1, _⟩ := signif_both l tol
  obtain ⟨s', _, f2, l2, _⟩ := signif_both l wide
  rw [f1] at e1
  rw [f2] at e2
  obtain rfl := Option.some.inj e1
  obtain rfl := Option.some.inj e2
  refine ⟨_, _, f1, f2, by simp, l1, l2, fun x hx => ?_⟩
  rcases List.mem_append.1 hx with hx | hx
  · rcases List.mem_append.1 hx with hx | hx
    · exact List.mem_append_left _ (List.mem_append_left _ hx)
    · exact List.mem_append_left _ (List.mem_append_right _ (sp_sub hTW _ _ _ x hx))
  · exact List.mem_append_right _ hx
end Go.Proofs.Ytgkejafaggaocaa.SI
