/-
  Part of a proof by the engine: texts that a program of ours printed, or plain lemmas on them. No condition but what each theorem says.
-/
import Derived.Test.YtondfjckadlabaaGreatDoorDTPlain
import Derived.Lib.ParseIntB
set_option linter.unusedVariables false
set_option linter.unusedSimpArgs false
namespace Go.Proofs.YtondfjckadlabaaGreatDoor.DT
open Go Go.Eng Go.Proofs.YtondfjckadlabaaGreatDoor.EX
/-- What digits spell, behind a. -/
def spl : Nat → List UInt8 → Nat
  | a, [] => a
  | a, c :: l => spl (a * 10 + (c.toNat - 48)) l
theorem spl_append : ∀ (l r : List UInt8) (a : Nat), spl a (l ++ r) = spl (spl a l) r
  | [], r, a => rfl
  | c :: l, r, a => spl_append l r _
theorem spl_last (l : List UInt8) (c : UInt8) (a : Nat) : spl a (l ++ [c]) = spl a l * 10 + (c.toNat - 48) := by rw [spl_append]; rfl
theorem spl_ge : ∀ (l : List UInt8) (a : Nat), a * 10 ^ l.length ≤ spl a l
  | [], a => by rw [List.length_nil, Nat.pow_zero, Nat.mul_one]; exact Nat.le_refl _
  | c :: l, a => by
    have h := spl_ge l (a * 10 + (c.toNat - 48))
    have h2 : a * 10 * 10 ^ l.length ≤ (a * 10 + (c.toNat - 48)) * 10 ^ l.length := Nat.mul_le_mul_right _ (by omega)
    rw [List.length_cons, Nat.pow_succ, Nat.mul_comm (10 ^ l.length), ← Nat.mul_assoc]
    show a * 10 * 10 ^ l.length ≤ spl (a * 10 + (c.toNat - 48)) l
    exact Nat.le_trans h2 h
theorem spl_lt : ∀ (l : List UInt8) (a : Nat), l.all isDig = true → spl a l < (a + 1) * 10 ^ l.length
  | [], a, _ => by rw [List.length_nil, Nat.pow_zero, Nat.mul_one]; exact Nat.lt_succ_self _
  | c :: l, a, h => by
    simp only [List.all_cons, Bool.and_eq_true, isDig, decide_eq_true_eq] at h
    have hr : l.all isDig = true := by
      rw [List.all_eq_true]
      have h2 := h.2
      rw [List.all_eq_true] at h2
      intro x hx
      have := h2 x hx
      simpa [isDig] using this
    have h1 := spl_lt l (a * 10 + (c.toNat - 48)) hr
    have h2 : (a * 10 + (c.toNat - 48) + 1) * 10 ^ l.length ≤ (a + 1) * 10 * 10 ^ l.length := Nat.mul_le_mul_right _ (by omega)
    rw [List.length_cons, Nat.pow_succ, Nat.mul_comm (10 ^ l.length), ← Nat.mul_assoc]
    show spl (a * 10 + (c.toNat - 48)) l < (a + 1) * 10 * 10 ^ l.length
    exact Nat.lt_of_lt_of_le h1 h2
/-- Digits that fit are parsed. -/
theorem parse_digits : ∀ (l : List UInt8) (a k : Nat), a < 10 ^ k → l.length + k ≤ 18 → l.all isDig = true → Lib.parseUintM 18446744073709551615 a l = .ok (spl a l)
  | [], a, k, _, _, _ => rfl
  | c :: l, a, k, ha, hl, hd => by
    simp only [List.all_cons, Bool.and_eq_true] at hd
    have hc := hd.1
    simp only [isDig, Bool.and_eq_true, decide_eq_true_eq] at hc
    rw [List.length_cons] at hl
    have hk : 10 ^ k ≤ 10 ^ 17 := Nat.pow_le_pow_right (by omega) (by omega)
    have hs : (10 : Nat) ^ (k + 1) = 10 ^ k * 10 := Nat.pow_succ ..
    have h17 : (10 : Nat) ^ 17 = 100000000000000000 := by decide
    unfold Lib.parseUintM
    rw [if_pos hc, if_neg (by omega), if_neg (by omega)]
    exact parse_digits l _ (k + 1) (by omega) (by omega) hd.2
theorem parse_ok {l : List UInt8} (h0 : l ≠ []) (hl : l.length ≤ 18) (hd : l.all isDig = true) : Lib.parseIntB 64 l = .ok (spl 0 l : Int) := by
  match l, h0 with
  | c :: r, _ =>
    have hc : isDig c = true := by simp only [List.all_cons, Bool.and_eq_true] at hd; exact hd.1
    simp only [isDig, Bool.and_eq_true, decide_eq_true_eq] at hc
    have hp := parse_digits (c :: r) 0 0 (by decide) (by omega) hd
    have hlt := spl_lt (c :: r) 0 hd
    rw [Nat.zero_add, Nat.one_mul] at hlt
    have hpw : (10 : Nat) ^ (c :: r).length ≤ 10 ^ 18 := Nat.pow_le_pow_right (by omega) hl
    have h18 : (10 : Nat) ^ 18 = 1000000000000000000 := by decide
    unfold Lib.parseIntB Lib.parseUintB
    simp only [show ¬ c.toNat = 43 by omega, show ¬ c.toNat = 45 by omega, or_self, if_false, show (2 ^ 64 - 1 : Nat) = 18446744073709551615 from by decide, hp, reduceCtorEq, not_false_eq_true, true_and, false_and]
    rw [if_neg (by
      have : (2 : Nat) ^ (64 - 1) = 9223372036854775808 := by decide
      omega)]
theorem head_app {r : List UInt8} (h : r ≠ []) (s : List UInt8) : (r ++ s).head? = r.head? := by
  cases r with
  | nil => exact absurd rfl h
  | cons _ _ => rfl
/-- A number in decimal as it is written: no nought ahead. -/
def canD (l : List UInt8) : Bool := l.all isDig && (decide (l ≠ []) && (decide (l.length ≤ 1) || decide (l.head? ≠ some 48)))
theorem dec_ten {n : Nat} (h : ¬ n < 10) : Lib.decDigits n = Lib.decDigits (n / 10) ++ [UInt8.ofNat (48 + n % 10)] := by
  rw [Lib.decDigits, dif_neg h]
theorem dec_one {n : Nat} (h : n < 10) : Lib.decDigits n = [UInt8.ofNat (48 + n)] := by
  rw [Lib.decDigits, dif_pos h]
theorem of_dig {a : Nat} (h : a < 10) : (UInt8.ofNat (48 + a)).toNat = 48 + a := by rw [UInt8.toNat_ofNat']; omega
theorem dec_all (n : Nat) : (Lib.decDigits n).all isDig = true := by
  induction n using Nat.strongRecOn with
  | _ n ih =>
    by_cases h : n < 10
    · rw [dec_one h]
      simp only [List.all_cons, List.all_nil, Bool.and_true, isDig, of_dig h, Bool.and_eq_true, decide_eq_true_eq]
      omega
    · rw [dec_ten h, List.all_append, ih (n / 10) (by omega)]
      simp only [List.all_cons, List.all_nil, Bool.and_true, isDig, of_dig (show n % 10 < 10 by omega), Bool.true_and, Bool.and_eq_true, decide_eq_true_eq]
      omega
theorem dec_ne (n : Nat) : Lib.decDigits n ≠ [] := by
  by_cases h : n < 10
  · rw [dec_one h]; simp
  · rw [dec_ten h]; simp
theorem dec_head : ∀ n : Nat, (Lib.decDigits n).length ≤ 1 ∨ (Lib.decDigits n).head? ≠ some 48 := by
  intro n
  by_cases h : n < 10
  · rw [dec_one h]; left; simp
  · right
    have key : ∀ m : Nat, 0 < m → (Lib.decDigits m).head? ≠ some 48 := by
      intro m
      induction m using Nat.strongRecOn with
      | _ m ih =>
        intro hm
        by_cases h : m < 10
        · rw [dec_one h]
          intro he
          simp only [List.head?_cons, Option.some.injEq] at he
          have := congrArg UInt8.toNat he
          rw [of_dig h] at this
          have h48 : (48 : UInt8).toNat = 48 := rfl
          omega
        · rw [dec_ten h, head_app (dec_ne _)]
          exact ih (m / 10) (by omega) (by omega)
    exact key n (by omega)
theorem dec_can (n : Nat) : canD (Lib.decDigits n) = true := by
  unfold canD
  rw [dec_all, Bool.true_and, Bool.and_eq_true, Bool.or_eq_true, decide_eq_true_eq, decide_eq_true_eq, decide_eq_true_eq]
  exact ⟨dec_ne n, dec_head n⟩
theorem spl_dec (n : Nat) : spl 0 (Lib.decDigits n) = n := by
  induction n using Nat.strongRecOn with
  | _ n ih =>
    by_cases h : n < 10
    · have e := dec_one h
      have q := of_dig h
      generalize Lib.decDigits n = l at e ⊢
      subst e
      show 0 * 10 + ((UInt8.ofNat (48 + n)).toNat - 48) = n
      omega
    · have e := dec_ten h
      have i := ih (n / 10) (by omega)
      have q := of_dig (a := n % 10) (by omega)
      generalize Lib.decDigits n = l at e ⊢
      subst e
      have p := spl_last (Lib.decDigits (n / 10)) (UInt8.ofNat (48 + n % 10)) 0
      generalize spl 0 (Lib.decDigits (n / 10) ++ [UInt8.ofNat (48 + n % 10)]) = x at p ⊢
      omega
/-- As many digits as the number has. -/
theorem can_len {l : List UInt8} {k : Nat} (hc : canD l = true) (h : spl 0 l < 10 ^ k) (hk : 0 < k) : l.length ≤ k := by
  unfold canD at hc
  rw [Bool.and_eq_true, Bool.and_eq_true, Bool.or_eq_true, decide_eq_true_eq, decide_eq_true_eq, decide_eq_true_eq] at hc
  obtain ⟨hd, hne, hh⟩ := hc
  match l, hne with
  | x :: t, _ =>
    rcases hh with hh | hh
    · omega
    · simp only [List.all_cons, Bool.and_eq_true] at hd
      have hx := hd.1
      simp only [isDig, Bool.and_eq_true, decide_eq_true_eq] at hx
      have hx0 : x.toNat ≠ 48 := fun e => hh (by
        simp only [List.head?_cons]
        congr 1
        exact UInt8.toNat_inj.1 e)
      have h1 := spl_ge t (0 * 10 + (x.toNat - 48))
      have h2 : 1 * 10 ^ t.length ≤ (0 * 10 + (x.toNat - 48)) * 10 ^ t.length := Nat.mul_le_mul_right _ (by omega)
      have h3 : 10 ^ t.length < 10 ^ k := by
        have : spl 0 (x :: t) = spl (0 * 10 + (x.toNat - 48)) t := rfl
        omega
      have := (Nat.pow_lt_pow_iff_right (show 1 < 10 by omega)).1 h3
      rw [List.length_cons]; omega
end Go.Proofs.YtondfjckadlabaaGreatDoor.DT
