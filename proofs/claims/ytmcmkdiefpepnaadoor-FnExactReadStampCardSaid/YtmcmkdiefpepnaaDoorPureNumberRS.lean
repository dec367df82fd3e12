/-
  The number of a few digits, as both readers of a stamp tell it. Condition: at most four signs.
-/
import Derived.Test.YtmcmkdiefpepnaaDoorPureStampRS
namespace Go.Proofs.YtmcmkdiefpepnaaDoor.PCRS
set_option linter.unusedSimpArgs false
set_option linter.unusedVariables false
open Go Go.RowKit Go.Proofs.YtmcmkdiefpepnaaDoorW.PrintWords Go.Proofs.YtmcmkdiefpepnaaDoor.PB Go.Proofs.YtmcmkdiefpepnaaDoor.XRS Go.Proofs.YtmcmkdiefpepnaaDoor.Ext Go.Proofs.YtmcmkdiefpepnaaDoor.PNRS

/-- What digits spell, behind acc. -/
def V (acc : Nat) : List UInt8 → Nat
  | [] => acc
  | c :: r => V (acc * 10 + (c.toNat - 48)) r
theorem parseM_ok (M : Nat) (hM : 1000000000 ≤ M) : ∀ (l : List UInt8) (acc : Nat), l.all digB = true → (acc + 1) * 10 ^ l.length ≤ 100000000 → Lib.parseUintM M acc l = .ok (V acc l)
  | [], acc, _, _ => rfl
  | c :: r, acc, h, hb => by
    simp only [List.all_cons, Bool.and_eq_true] at h
    obtain ⟨h1, h2⟩ := h
    unfold digB at h1
    simp only [Bool.and_eq_true, decide_eq_true_eq] at h1
    have hp : 1 ≤ 10 ^ r.length := Nat.one_le_pow _ _ (by omega)
    rw [List.length_cons, Nat.pow_succ] at hb
    have hb' : (acc * 10 + (c.toNat - 48) + 1) * 10 ^ r.length ≤ 100000000 := by
      have : (acc * 10 + (c.toNat - 48) + 1) * 10 ^ r.length ≤ ((acc + 1) * 10) * 10 ^ r.length := Nat.mul_le_mul_right _ (by omega)
      have e : (acc + 1) * 10 * 10 ^ r.length = (acc + 1) * (10 ^ r.length * 10) := by rw [Nat.mul_assoc, Nat.mul_comm 10]
      omega
    have hs : acc * 10 + (c.toNat - 48) + 1 ≤ 100000000 := Nat.le_trans (Nat.le_mul_of_pos_right _ hp) hb'
    rw [Lib.parseUintM, if_pos h1, if_neg (by omega), if_neg (by omega)]
    exact parseM_ok M hM r _ h2 hb'
theorem digit_eq (c : UInt8) : spec_l1Digit.f (c.toNat : Int) = some (digB c) := by
  unfold spec_l1Digit.f digB
  by_cases h : (c.toNat : Int) ≥ 48
  · rw [if_pos h, decide_eq_true (show 48 ≤ c.toNat by omega), Bool.true_and]
    exact congrArg some (by rw [Bool.eq_iff_iff, decide_eq_true_eq, decide_eq_true_eq]; omega)
  · rw [if_neg h, decide_eq_false (show ¬ 48 ≤ c.toNat by omega), Bool.false_and]
theorem num_step (acc c : Nat) (h : acc < 10000) (h1 : 48 ≤ c) (h2 : c ≤ 57) : wrap64 ((wrap64 ((acc : Int) * 10)) + (((c : Int) - 48) % 256)) = ((acc * 10 + (c - 48) : Nat) : Int) := by
  rw [w64 (n := (acc : Int) * 10) (by omega) (by omega), w64 (by omega) (by omega)]; omega
theorem pow_step (acc c p : Nat) (h : acc < p) (h2 : c ≤ 57) : acc * 10 + (c - 48) < p * 10 := by omega
theorem number_l0 (s : ByteArray) (hs : s.size ≤ 4) : ∀ (d i acc : Nat), (L s).length - i = d → i ≤ (L s).length → acc < 10 ^ i →
    Ev (fun k => spec_l2Number.l0 k s (acc : Int) (i : Int)) (if ((L s).drop i).all digB = true then ((V acc ((L s).drop i) : Nat) : Int) else -1) := by
  have hz := L_length s
  intro d
  induction d with
  | zero =>
    intro i acc hd hi hacc
    refine ev_succ ?_
    simp only [spec_l2Number.l0]
    refine ev_neg (by omega) (ev_eq (Ev.now _) ?_)
    rw [List.drop_eq_nil_of_le (by omega)]; rfl
  | succ d ih =>
    intro i acc hd hi hacc
    have hl : i < (L s).length := by omega
    have hu := u8_lt (L s)[i]
    have hp : acc < 10000 := by
      have h1 : 10 ^ i ≤ 10 ^ 4 := Nat.pow_le_pow_right (by omega) (by omega)
      exact Nat.lt_of_lt_of_le hacc h1
    refine ev_succ ?_
    simp only [spec_l2Number.l0]
    refine ev_pos (by omega) (ev_pos (by omega) ?_)
    rw [bt_nat s i hl, digit_eq, List.drop_eq_getElem_cons hl, List.all_cons]
    refine ev_bindc rfl ?_
    by_cases hc : digB (L s)[i] = true
    · have hc' := hc
      unfold digB at hc'
      simp only [Bool.and_eq_true, decide_eq_true_eq] at hc'
      refine ev_pos hc ?_
      have e1 := num_step acc (L s)[i].toNat hp hc'.1 hc'.2
      have e2 : wrap64 ((i : Int) + 1) = ((i + 1 : Nat) : Int) := by rw [w64 (by omega) (by omega)]; omega
      rw [e1, e2, hc, Bool.true_and]
      exact ih (i + 1) _ (by clear e1 e2 hc' hp hacc; omega) (by clear e1 e2 hc' hp hacc; omega) (by rw [Nat.pow_succ]; exact pow_step _ _ _ hacc hc'.2)
    · refine ev_neg hc (ev_eq (Ev.now _) ?_)
      rw [Bool.eq_false_iff.mpr hc]; rfl
theorem number_ev (s : ByteArray) (h0 : 0 < s.size) (hs : s.size ≤ 4) : Ev (fun k => spec_l2Number.f k s) (if (L s).all digB = true then ((V 0 (L s) : Nat) : Int) else -1) := by
  unfold spec_l2Number.f
  refine ev_neg (by omega) (ev_succ ?_)
  simp only [spec_l2Number.j0]
  refine ev_neg (by simp; omega) ?_
  exact number_l0 s hs (L s).length 0 0 (by omega) (by omega) (by omega)
theorem int_ok (l : List UInt8) (h : l.all digB = true) (h0 : l ≠ []) (h4 : l.length ≤ 4) : Lib.parseIntB 64 l = .ok ((V 0 l : Nat) : Int) := by
  have hp : (0 + 1) * 10 ^ l.length ≤ 100000000 := by
    have h1 : 10 ^ l.length ≤ 10 ^ 4 := Nat.pow_le_pow_right (by decide) h4
    rw [Nat.zero_add, Nat.one_mul]; exact Nat.le_trans h1 (by decide)
  have hu : Lib.parseUintB 64 l = .ok (V 0 l) := by
    have hq : ∀ M : Nat, 1000000000 ≤ M → Lib.parseUintM M 0 l = .ok (V 0 l) := fun M hM => parseM_ok M hM l 0 h hp
    simp only [Lib.parseUintB, h0, if_false]
    rw [hq _ (by omega)]
  have hV : ∀ (l : List UInt8) (acc : Nat), l.all digB = true → V acc l < (acc + 1) * 10 ^ l.length := by
    intro l
    induction l with
    | nil => intro acc _; show acc < (acc + 1) * 1; omega
    | cons c r ih =>
      intro acc h
      simp only [List.all_cons, Bool.and_eq_true] at h
      have h1 := h.1
      unfold digB at h1
      simp only [Bool.and_eq_true, decide_eq_true_eq] at h1
      have h2 := ih (acc * 10 + (c.toNat - 48)) h.2
      refine Nat.lt_of_lt_of_le h2 ?_
      rw [List.length_cons, Nat.pow_succ, Nat.mul_comm (10 ^ r.length) 10, ← Nat.mul_assoc]
      exact Nat.mul_le_mul_right _ (by omega)
  have hb := hV l 0 h
  have hb2 : V 0 l < 100000000 := Nat.lt_of_lt_of_le hb hp
  cases l with
  | nil => exact absurd rfl h0
  | cons c r =>
    have h1 := h
    simp only [List.all_cons, Bool.and_eq_true] at h1
    have h3 := h1.1
    unfold digB at h3
    simp only [Bool.and_eq_true, decide_eq_true_eq] at h3
    have n43 : ¬ c.toNat = 43 := by omega
    have n45 : ¬ c.toNat = 45 := by omega
    unfold Lib.parseIntB
    have n63 : ¬ 2 ^ (64 - 1) ≤ V 0 (c :: r) := Nat.not_le.2 (Nat.lt_of_lt_of_le hb2 (by decide))
    simp only [n43, n45, or_self, if_false, hu, n63, not_false_eq_true, true_and, false_and, and_false]
theorem part_eq (x : ByteArray) (a b : Nat) (hab : a < b) (hb : b ≤ x.size) (h4 : b - a ≤ 4) (hx : x.size ≤ 1000) :
    impl_ReadStamp_1.f (a : Int) (b : Int) x = some (if (L (x.extract a b)).all digB = true then ((V 0 (L (x.extract a b)) : Nat) : Int) else -1) := by
  unfold impl_ReadStamp_1.f
  rw [if_pos ⟨by omega, by omega, by omega, hx⟩]
  simp only [Int.toNat_natCast]
  have hsz : (x.extract a b).size = b - a := by rw [ByteArray.size_extract]; omega
  have hpos : decide (0 < (x.extract a b).size) = true := decide_eq_true (by omega)
  have hl : (L (x.extract a b)).length = b - a := by rw [L_length, hsz]
  rw [hpos, Bool.and_true]
  by_cases h : (L (x.extract a b)).all digB = true
  · rw [if_pos h, if_pos h]
    have hv := int_ok (L (x.extract a b)) h (fun q => by rw [q] at hl; simp at hl; omega) (by omega)
    unfold L at hv ⊢
    rw [hv]
  · rw [if_neg h, if_neg h]
end Go.Proofs.YtmcmkdiefpepnaaDoor.PCRS
