/-
  Part of a proof by the engine: texts that a program of ours printed, or plain lemmas on them. No condition but what each theorem says.
-/
import Derived.Test.YtmcmkdiefpepnaaDoorTMP3
set_option linter.unusedVariables false
set_option linter.unusedSimpArgs false
namespace Go.Proofs.YtmcmkdiefpepnaaDoor.TM
open Go Go.Eng Go.Proofs.YtmcmkdiefpepnaaDoor.DT Go.Proofs.YtmcmkdiefpepnaaDoor.EX
/-! ### the order of stamps -/
theorem less_app : ∀ (a b r s : List UInt8), a.length = b.length → Op.bytesLess (a ++ r) (b ++ s) = (Op.bytesLess a b || (decide (a = b) && Op.bytesLess r s))
  | [], [], r, s, _ => by simp [Op.bytesLess]
  | [], y :: b, _, _, h => by simp at h
  | x :: a, [], _, _, h => by simp at h
  | x :: a, y :: b, r, s, h => by
    have ih := less_app a b r s (by simpa using h)
    simp only [List.cons_append, Op.bytesLess, ih]
    by_cases e : x = y
    · subst e
      simp
    · have e' : (x == y) = false := by simpa using e
      simp [e, e']
theorem less2 : ∀ a, a < 100 → ∀ b, b < 100 → Op.bytesLess (d2 a) (d2 b) = decide (a < b) := by decide +kernel
theorem same2 : ∀ a, a < 100 → ∀ b, b < 100 → decide (d2 a = d2 b) = decide (a = b) := by decide +kernel
theorem less4 {a b : Nat} (ha : 2000 ≤ a ∧ a ≤ 2100) (hb : 2000 ≤ b ∧ b ≤ 2100) : Op.bytesLess (d4 a) (d4 b) = decide (a < b) ∧ decide (d4 a = d4 b) = decide (a = b) := by
  have h1 : ∀ x, x < 101 → ∀ y, y < 101 → Op.bytesLess (d4 (2000 + x)) (d4 (2000 + y)) = decide (2000 + x < 2000 + y) := by decide +kernel
  have h2 : ∀ x, x < 101 → ∀ y, y < 101 → decide (d4 (2000 + x) = d4 (2000 + y)) = decide (2000 + x = 2000 + y) := by decide +kernel
  have e1 := h1 (a - 2000) (by omega) (b - 2000) (by omega)
  have e2 := h2 (a - 2000) (by omega) (b - 2000) (by omega)
  rw [show 2000 + (a - 2000) = a by omega, show 2000 + (b - 2000) = b by omega] at e1 e2
  exact ⟨e1, e2⟩
theorem less_one (c : UInt8) (r s : List UInt8) : Op.bytesLess ([c] ++ r) ([c] ++ s) = Op.bytesLess r s := by
  simp [Op.bytesLess]
theorem st_less {y m d h i y' m' d' h' i' : Nat} (hy : 2000 ≤ y ∧ y ≤ 2100) (hm : m < 100) (hd : d < 100) (hh : h < 100) (hi : i < 100) (hy' : 2000 ≤ y' ∧ y' ≤ 2100) (hm' : m' < 100) (hd' : d' < 100) (hh' : h' < 100) (hi' : i' < 100) :
    Op.bytesLess (stL y m d h i) (stL y' m' d' h' i') = (decide (y < y') || (decide (y = y') && (decide (m < m') || (decide (m = m') && (decide (d < d') || (decide (d = d') && (decide (h < h') || (decide (h = h') && decide (i < i'))))))))) := by
  have l2 : ∀ a b, (d2 a).length = (d2 b).length := fun a b => rfl
  have l4 : ∀ a b, (d4 a).length = (d4 b).length := fun a b => rfl
  obtain ⟨e1, e2⟩ := less4 hy hy'
  have e90 : Op.bytesLess [90] [90] = false := by decide
  unfold stL
  simp only [List.append_assoc]
  rw [less_app _ _ _ _ (l4 _ _), less_one, less_app _ _ _ _ (l2 _ _), less_one, less_app _ _ _ _ (l2 _ _), less_one, less_app _ _ _ _ (l2 _ _), less_one, less_app _ _ _ _ (l2 _ _), e90, e1, e2, less2 _ hm _ hm', less2 _ hd _ hd', less2 _ hh _ hh', less2 _ hi _ hi', same2 _ hm _ hm', same2 _ hd _ hd', same2 _ hh _ hh']
  simp
theorem order {t j u k : Nat} (ht : t ≤ 52596000) (hj : Sm j ≤ t / 1440 ∧ t / 1440 < Sm (j + 1)) (hu : u ≤ 52596000) (hk : Sm k ≤ u / 1440 ∧ u / 1440 < Sm (k + 1)) :
    Op.bytesLess (stL (fY j) (fM j) (fD t j) (t / 60 % 24) (t % 60)) (stL (fY k) (fM k) (fD u k) (u / 60 % 24) (u % 60)) = decide (t < u) := by
  obtain ⟨a1, a2, a3, a4, a5⟩ := field_le ht hj
  obtain ⟨b1, b2, b3, b4, b5⟩ := field_le hu hk
  rw [st_less a1 a2 a3 a4 a5 b1 b2 b3 b4 b5, Bool.eq_iff_iff]
  simp only [Bool.or_eq_true, Bool.and_eq_true, decide_eq_true_eq]
  unfold fY fM fD
  rcases Nat.lt_trichotomy j k with h | h | h
  · have hm := Sm_mono (show j + 1 ≤ k from h)
    have hday : t / 1440 < u / 1440 := by omega
    clear a1 a2 a3 a4 a5 b1 b2 b3 b4 b5 hj hk hm
    generalize Sm j = s
    generalize Sm k = s'
    constructor
    · intro _; omega
    · intro _; omega
  · subst h
    have s1 := hj.1
    have s2 := hk.1
    clear a1 a2 a3 a4 a5 b1 b2 b3 b4 b5 hj hk
    generalize Sm j = s at *
    omega
  · have hm := Sm_mono (show k + 1 ≤ j from h)
    have hday : u / 1440 < t / 1440 := by omega
    clear a1 a2 a3 a4 a5 b1 b2 b3 b4 b5 hj hk hm
    generalize Sm j = s
    generalize Sm k = s'
    constructor
    · intro _; omega
    · intro _; omega
end Go.Proofs.YtmcmkdiefpepnaaDoor.TM
