/-
  Part of a proof by the engine: texts that a program of ours printed, or plain lemmas on them. No condition but what each theorem says.
-/
import Derived.Test.YtondfjckadlabaaDoorPureLib
import Derived.Test.YtondfjckadlabaaDoorEng5
set_option linter.unusedVariables false
set_option linter.unusedSimpArgs false
namespace Go.FT
open Ieee
/-- The quotient by a power of two, to the nearest, of two as near the even one. -/
def re (n l : Nat) : Nat := n / 2 ^ l + (if 2 ^ l < 2 * (n % 2 ^ l) ∨ (2 ^ l = 2 * (n % 2 ^ l) ∧ n / 2 ^ l % 2 = 1) then 1 else 0)
theorem pow_pos (k : Nat) : 0 < 2 ^ k := Nat.two_pow_pos k
theorem cut_eq (neg : Bool) (n drop : Nat) : Toward.even.cut neg n drop = re n drop := by
  unfold Toward.cut re
  simp only [Nat.one_shiftLeft]
  by_cases h : drop ≤ n.log2 + 2
  · rw [Nat.min_eq_left h]
    congr 1
    by_cases c : 2 ^ drop < 2 * (n % 2 ^ drop)
    · simp [c]
    · by_cases d : 2 ^ drop = 2 * (n % 2 ^ drop) ∧ n / 2 ^ drop % 2 = 1
      · have b1 : (2 ^ drop == 2 * (n % 2 ^ drop)) = true := beq_iff_eq.2 d.1
        have b2 : (n / 2 ^ drop % 2 == 1) = true := beq_iff_eq.2 d.2
        rw [if_pos (Or.inr d), b1, b2, Bool.and_self, Bool.or_true]; rfl
      · simp only [c, d, or_self, if_false, decide_false, Bool.false_or]
        by_cases e : 2 ^ drop = 2 * (n % 2 ^ drop)
        · have : ¬ n / 2 ^ drop % 2 = 1 := fun x => d ⟨e, x⟩
          simp [this]
        · simp [e]
  · have h' : n.log2 + 2 < drop := by omega
    rw [Nat.min_eq_right (by omega)]
    have hn : n < 2 ^ (n.log2 + 1) := Nat.lt_log2_self
    have h2 : 2 ^ (n.log2 + 2) = 2 * 2 ^ (n.log2 + 1) := by rw [Nat.pow_succ 2 (n.log2 + 1)]; omega
    have h3 : 2 ^ (n.log2 + 2) ≤ 2 ^ drop := Nat.pow_le_pow_right (by omega) (by omega)
    have e1 : n / 2 ^ (n.log2 + 2) = 0 := Nat.div_eq_of_lt (by omega)
    have e2 : n % 2 ^ (n.log2 + 2) = n := Nat.mod_eq_of_lt (by omega)
    have e3 : n / 2 ^ drop = 0 := Nat.div_eq_of_lt (by omega)
    have e4 : n % 2 ^ drop = n := Nat.mod_eq_of_lt (by omega)
    rw [e1, e2, e3, e4]
    have c1 : ¬ 2 ^ (n.log2 + 2) < 2 * n := by omega
    have c2 : ¬ 2 ^ (n.log2 + 2) = 2 * n := by omega
    have c3 : ¬ 2 ^ drop < 2 * n := by omega
    have c4 : ¬ 2 ^ drop = 2 * n := by omega
    simp [c1, c2, c3, c4]
theorem re_zero (n : Nat) : re n 0 = n := by simp [re, Nat.mod_one]
theorem re_mul (a l : Nat) : re (a * 2 ^ l) l = a := by
  have hp := pow_pos l
  unfold re
  rw [Nat.mul_div_cancel _ hp, Nat.mul_mod_left]
  have : ¬ (2 ^ l < 2 * 0 ∨ (2 ^ l = 2 * 0 ∧ a % 2 = 1)) := by omega
  rw [if_neg this]; omega
theorem re_scale (n k j : Nat) : re (n * 2 ^ k) (k + j) = re n j := by
  have hk := pow_pos k
  have hj := pow_pos j
  unfold re
  rw [Nat.pow_add, Nat.mul_comm n, Nat.mul_div_mul_left _ _ hk, Nat.mul_mod_mul_left]
  have e1 : (2 ^ k * 2 ^ j < 2 * (2 ^ k * (n % 2 ^ j))) ↔ 2 ^ j < 2 * (n % 2 ^ j) := by
    rw [show 2 * (2 ^ k * (n % 2 ^ j)) = 2 ^ k * (2 * (n % 2 ^ j)) by rw [Nat.mul_left_comm]]
    exact Nat.mul_lt_mul_left hk
  have e2 : (2 ^ k * 2 ^ j = 2 * (2 ^ k * (n % 2 ^ j))) ↔ 2 ^ j = 2 * (n % 2 ^ j) := by
    rw [show 2 * (2 ^ k * (n % 2 ^ j)) = 2 ^ k * (2 * (n % 2 ^ j)) by rw [Nat.mul_left_comm]]
    exact ⟨fun h => Nat.eq_of_mul_eq_mul_left hk h, fun h => by rw [← h]⟩
  simp only [e1, e2]
/-! ### the format -/
theorem lp_eq : double.leastPlace = -1074 := by decide
theorem bin_eq : double.binade = 2 ^ 52 := rfl
theorem inf_eq : double.infRung = 2047 * 2 ^ 52 := by decide
theorem sw_eq : double.signWeight = 2 ^ 63 := rfl
theorem fb_eq : double.fractionBits = 52 := rfl
theorem log2_mul {m : Nat} (h : m ≠ 0) (k : Nat) : (m * 2 ^ k).log2 = m.log2 + k := by
  have h0 : m * 2 ^ k ≠ 0 := by have := pow_pos k; exact Nat.mul_ne_zero h (by omega)
  rw [Nat.log2_eq_iff h0]
  have h1 := Nat.log2_self_le h
  have h2 := @Nat.lt_log2_self m
  constructor
  · rw [Nat.pow_add]; exact Nat.mul_le_mul_right _ h1
  · rw [show m.log2 + k + 1 = (m.log2 + 1) + k by omega, Nat.pow_add]
    exact Nat.mul_lt_mul_of_pos_right h2 (pow_pos k)
/-- How many digits are dropped. -/
def dr (V : Nat) : Nat := V.log2 - 52
def rung (V : Nat) : Nat := dr V * 2 ^ 52 + re V (dr V)
theorem nearest_eq (neg : Bool) {mag : Nat} {place : Int} (hm : mag ≠ 0) (hp : -1074 ≤ place) :
    double.nearest neg mag place = double.word neg (min (rung (mag * 2 ^ (place + 1074).toNat)) double.infRung) := by
  unfold Format.nearest
  rw [if_neg hm]
  simp only [lp_eq, fb_eq, bin_eq, cut_eq]
  obtain ⟨k, rfl⟩ : ∃ k : Nat, place = (k : Int) - 1074 := ⟨(place + 1074).toNat, by omega⟩
  rw [show ((k : Int) - 1074 + 1074).toNat = k by omega]
  have hl := log2_mul hm k
  have hlast : max ((k : Int) - 1074 + (mag.log2 : Int) - ((52 : Nat) : Int)) (-1074) = (dr (mag * 2 ^ k) : Int) - 1074 := by
    unfold dr; rw [hl]; omega
  rw [hlast]
  unfold rung
  generalize (2 : Nat) ^ 52 = B
  rw [show ((dr (mag * 2 ^ k) : Int) - 1074 - -1074).toNat = dr (mag * 2 ^ k) by omega]
  rw [show ((k : Int) - 1074 - ((dr (mag * 2 ^ k) : Int) - 1074)).toNat = k - dr (mag * 2 ^ k) by omega, show ((dr (mag * 2 ^ k) : Int) - 1074 - ((k : Int) - 1074)).toNat = dr (mag * 2 ^ k) - k by omega]
  generalize dr (mag * 2 ^ k) = l
  rw [Nat.shiftLeft_eq]
  suffices h : re (mag * 2 ^ (k - l)) (l - k) = re (mag * 2 ^ k) l by rw [h]
  by_cases h : l ≤ k
  · rw [show l - k = 0 by omega, re_zero, show mag * 2 ^ k = mag * 2 ^ (k - l) * 2 ^ l by rw [Nat.mul_assoc, ← Nat.pow_add, Nat.sub_add_cancel h], re_mul]
  · rw [show k - l = 0 by omega, Nat.pow_zero, Nat.mul_one]
    obtain ⟨j, rfl⟩ : ∃ j, l = k + j := ⟨l - k, by omega⟩
    rw [re_scale, show k + j - k = j by omega]
end Go.FT

namespace Go.FT
open Ieee Go.Eng
def mant (r : Nat) : Nat := if r < 2 ^ 52 then r else 2 ^ 52 + r % 2 ^ 52
def ex (r : Nat) : Nat := if r < 2 ^ 52 then 0 else r / 2 ^ 52 - 1
def sgn (s : Bool) (n : Nat) : Int := if s then -(n : Int) else (n : Int)
theorem read_word (neg : Bool) {r : Nat} (h : r < 2047 * 2 ^ 52) : double.read (double.word neg r) = .number neg (mant r) (-1074 + (ex r : Int)) := by
  unfold Format.read Format.word
  simp only [lp_eq, bin_eq, inf_eq, sw_eq]
  have e1 : ((if neg then 2 ^ 63 + r else r) / 2 ^ 63 % 2 == 1) = neg := by
    cases neg with
    | true => simp; omega
    | false => simp; omega
  have e2 : (if neg then 2 ^ 63 + r else r) % 2 ^ 63 = r := by
    cases neg <;> simp <;> omega
  rw [e1, e2]
  unfold mant ex
  by_cases h1 : r < 2 ^ 52
  · simp only [h1, if_true]; rfl
  · simp only [h1, h, if_true, if_false]
/-- What is written of a number of so many smallest parts. -/
def rnd (V : Nat) : Nat := re V (dr V) * 2 ^ dr V
theorem log_le {V : Nat} (h : V ≠ 0) : 2 ^ V.log2 ≤ V := Nat.log2_self_le h
theorem log_lt (V : Nat) : V < 2 ^ (V.log2 + 1) := Nat.lt_log2_self
theorem re_le (V l : Nat) : re V l ≤ V / 2 ^ l + 1 := by unfold re; split <;> omega
theorem le_re (V l : Nat) : V / 2 ^ l ≤ re V l := by unfold re; omega
theorem dr_pos {V : Nat} (h : dr V ≠ 0) : V.log2 = dr V + 52 := by unfold dr at *; omega
theorem quo_bounds {V : Nat} (h : V ≠ 0) (hd : dr V ≠ 0) : 2 ^ 52 ≤ V / 2 ^ dr V ∧ V / 2 ^ dr V < 2 ^ 53 := by
  have h1 := log_le h
  have h2 := log_lt V
  have hl := dr_pos hd
  rw [hl] at h1 h2
  have hp := pow_pos (dr V)
  constructor
  · rw [Nat.le_div_iff_mul_le hp, ← Nat.pow_add, Nat.add_comm 52]; exact h1
  · rw [Nat.div_lt_iff_lt_mul hp, ← Nat.pow_add, show 53 + dr V = dr V + 52 + 1 by omega]; exact h2
theorem small_of_dr {V : Nat} (h : dr V = 0) : V < 2 ^ 53 := by
  have h2 := log_lt V
  have : V.log2 ≤ 52 := by unfold dr at h; omega
  exact Nat.lt_of_lt_of_le h2 (Nat.pow_le_pow_right (by omega) (by omega))
theorem rung_eq {V : Nat} (h : V ≠ 0) : mant (rung V) * 2 ^ ex (rung V) = rnd V := by
  unfold rung rnd
  by_cases hd : dr V = 0
  · rw [hd, re_zero, Nat.zero_mul, Nat.zero_add, Nat.pow_zero, Nat.mul_one]
    have hs := small_of_dr hd
    unfold mant ex
    by_cases h1 : V < 2 ^ 52
    · simp [h1]
    · simp only [h1, if_false]
      have e1 : V / 2 ^ 52 = 1 := by omega
      have e2 : V % 2 ^ 52 = V - 2 ^ 52 := by omega
      rw [e1, e2]
      simp; omega
  · obtain ⟨q1, q2⟩ := quo_bounds h hd
    have h1 := le_re V (dr V)
    have h2 := re_le V (dr V)
    generalize re V (dr V) = k at *
    generalize dr V = l at *
    have hk : 2 ^ 52 ≤ k ∧ k ≤ 2 ^ 53 := by omega
    unfold mant ex
    have hn : ¬ l * 2 ^ 52 + k < 2 ^ 52 := by omega
    simp only [hn, if_false]
    by_cases he : k = 2 ^ 53
    · subst he
      have e1 : (l * 2 ^ 52 + 2 ^ 53) / 2 ^ 52 = l + 2 := by omega
      have e2 : (l * 2 ^ 52 + 2 ^ 53) % 2 ^ 52 = 0 := by omega
      rw [e1, e2, show l + 2 - 1 = l + 1 by omega, Nat.pow_succ 2 l, Nat.add_zero, ← Nat.mul_assoc]
      generalize 2 ^ l = q
      omega
    · have e1 : (l * 2 ^ 52 + k) / 2 ^ 52 = l + 1 := by omega
      have e2 : (l * 2 ^ 52 + k) % 2 ^ 52 = k - 2 ^ 52 := by omega
      rw [e1, e2, show l + 1 - 1 = l by omega, show 2 ^ 52 + (k - 2 ^ 52) = k by omega]
theorem rung_lt {V : Nat} (h : V ≠ 0) (hV : V.log2 < 2096) : rung V < 2047 * 2 ^ 52 := by
  unfold rung
  by_cases hd : dr V = 0
  · rw [hd, re_zero]
    have hs := small_of_dr hd
    omega
  · obtain ⟨q1, q2⟩ := quo_bounds h hd
    have h2 := re_le V (dr V)
    have hl := dr_pos hd
    generalize re V (dr V) = k at *
    omega
theorem rnd_exact {m k : Nat} (hm : m < 2 ^ 53) : rnd (m * 2 ^ k) = m * 2 ^ k := by
  by_cases h : m = 0
  · subst h; simp [rnd, re]
  · have hl := log2_mul h k
    have hlog : m.log2 ≤ 52 := by
      have : m.log2 < 53 := (Nat.log2_lt h).2 hm
      omega
    have hd : dr (m * 2 ^ k) ≤ k := by unfold dr; omega
    unfold rnd
    generalize dr (m * 2 ^ k) = l at hd ⊢
    rw [show m * 2 ^ k = m * 2 ^ (k - l) * 2 ^ l by rw [Nat.mul_assoc, ← Nat.pow_add, Nat.sub_add_cancel hd], re_mul]
theorem rnd_ge {V a : Nat} (h : 2 ^ a ≤ V) : 2 ^ a ≤ rnd V := by
  have h0 : V ≠ 0 := by have := pow_pos a; omega
  have ha : a ≤ V.log2 := (Nat.le_log2 h0).2 h
  unfold rnd
  have hl : dr V ≤ V.log2 := by unfold dr; omega
  have h1 := log_le h0
  have hp := pow_pos (dr V)
  have h2 : 2 ^ (V.log2 - dr V) ≤ V / 2 ^ dr V := by
    rw [Nat.le_div_iff_mul_le hp, ← Nat.pow_add, Nat.sub_add_cancel hl]; exact h1
  calc 2 ^ a ≤ 2 ^ V.log2 := Nat.pow_le_pow_right (by omega) ha
    _ = 2 ^ (V.log2 - dr V) * 2 ^ dr V := by rw [← Nat.pow_add, Nat.sub_add_cancel hl]
    _ ≤ V / 2 ^ dr V * 2 ^ dr V := Nat.mul_le_mul_right _ h2
    _ ≤ re V (dr V) * 2 ^ dr V := Nat.mul_le_mul_right _ (le_re _ _)
theorem rnd_le {V a : Nat} (h : V ≤ 2 ^ a) : rnd V ≤ 2 ^ a := by
  by_cases he : V = 2 ^ a
  · have := rnd_exact (m := 1) (k := a) (by decide)
    rw [Nat.one_mul] at this
    rw [he, this]; exact Nat.le_refl _
  · by_cases h0 : V = 0
    · subst h0; simp [rnd, re]
    · have hlt : V < 2 ^ a := by omega
      have ha : V.log2 < a := (Nat.log2_lt h0).2 hlt
      unfold rnd
      have hl : dr V ≤ V.log2 := by unfold dr; omega
      have h2 := log_lt V
      have hp := pow_pos (dr V)
      have h3 : V / 2 ^ dr V < 2 ^ (V.log2 + 1 - dr V) := by
        rw [Nat.div_lt_iff_lt_mul hp, ← Nat.pow_add, Nat.sub_add_cancel (by omega)]; exact h2
      have h4 := re_le V (dr V)
      calc re V (dr V) * 2 ^ dr V ≤ 2 ^ (V.log2 + 1 - dr V) * 2 ^ dr V := Nat.mul_le_mul_right _ (by omega)
        _ = 2 ^ (V.log2 + 1) := by rw [← Nat.pow_add, Nat.sub_add_cancel (by omega)]
        _ ≤ 2 ^ a := Nat.pow_le_pow_right (by omega) ha
end Go.FT

namespace Go.FT
open Ieee Go.Eng
/-- The word stands for Z of the smallest parts. -/
def Fin (x : Nat) (Z : Int) : Prop := ∃ s m p, double.read x = .number s m p ∧ -1074 ≤ p ∧ Z = sgn s (m * 2 ^ (p + 1074).toNat) ∧ m < 2 ^ 53
theorem mant_lt (r : Nat) : mant r < 2 ^ 53 := by
  unfold mant
  split <;> omega
theorem signed_eq (s : Bool) (m up : Nat) : signed s m up = sgn s (m * 2 ^ up) := by
  unfold signed sgn
  rw [Nat.shiftLeft_eq]
theorem sgn_mul (s : Bool) (m k : Nat) : sgn s (m * k) = sgn s m * (k : Int) := by
  unfold sgn
  cases s
  · simp
  · simp [Int.neg_mul]
theorem sgn_neg (s : Bool) (m : Nat) : sgn (!s) m = -sgn s m := by
  unfold sgn
  cases s <;> simp
theorem sgn_abs (Z : Int) : sgn (decide (Z < 0)) Z.natAbs = Z := by
  unfold sgn
  by_cases h : Z < 0
  · simp [h]; omega
  · simp [h]; omega
theorem canon_of {x : Nat} {s : Bool} {m : Nat} {p : Int} (h : double.read x = .number s m p) : canonF x = x := by
  unfold canonF
  have : (FloatKind.f64.decode x).isNaN = false := by
    show (double.read x).isNaN = false
    rw [h]; rfl
  rw [this]; rfl
theorem Fin.canon {x : Nat} {Z : Int} (h : Fin x Z) : canonF x = x := by
  obtain ⟨s, m, p, h, _⟩ := h
  exact canon_of h
theorem pow_cast (k : Nat) : ((2 ^ k : Nat) : Int) = (2 : Int) ^ k := by simp
theorem cmp_scale (a b : Int) (k : Nat) : compare (a * ((2 ^ k : Nat) : Int)) (b * ((2 ^ k : Nat) : Int)) = compare a b := by
  have hk : (0 : Int) < ((2 ^ k : Nat) : Int) := by have := pow_pos k; omega
  have h1 : a * ((2 ^ k : Nat) : Int) < b * ((2 ^ k : Nat) : Int) ↔ a < b := ⟨fun h => Int.lt_of_mul_lt_mul_right h (Int.le_of_lt hk), fun h => Int.mul_lt_mul_of_pos_right h hk⟩
  have h2 : a * ((2 ^ k : Nat) : Int) = b * ((2 ^ k : Nat) : Int) ↔ a = b := ⟨fun h => Int.eq_of_mul_eq_mul_right (by omega) h, fun h => by rw [h]⟩
  simp only [compare, compareOfLessAndEq, h1, h2]
theorem shift_to {s : Bool} {m : Nat} {i base : Int} (hb : -1074 ≤ base) (hi : base ≤ i) : signed s m (i - base).toNat * ((2 ^ (base + 1074).toNat : Nat) : Int) = sgn s (m * 2 ^ (i + 1074).toNat) := by
  rw [signed_eq, ← sgn_mul, Nat.mul_assoc, ← Nat.pow_add]
  congr 3
  omega
theorem fin_order {a b : Nat} {A B : Int} (ha : Fin a A) (hb : Fin b B) : double.order a b = some (compare A B) := by
  obtain ⟨s, m, i, h1, h2, rfl, _⟩ := ha
  obtain ⟨t, n, j, h3, h4, rfl, _⟩ := hb
  unfold Format.order
  rw [h1, h3]
  simp only [Datum.order]
  congr 1
  rw [← cmp_scale _ _ (min i j + 1074).toNat, shift_to (by omega) (by omega), shift_to (by omega) (by omega)]
theorem cmp_lt (A B : Int) : (some (compare A B) == some .lt) = decide (A < B) := by
  simp only [compare, compareOfLessAndEq]
  by_cases h : A < B
  · simp [h]
  · by_cases h2 : A = B <;> simp [h, h2]
theorem cmp_eq (A B : Int) : (some (compare A B) == some .eq) = decide (A = B) := by
  simp only [compare, compareOfLessAndEq]
  by_cases h : A < B
  · have : ¬ A = B := by omega
    simp [h, this]
  · by_cases h2 : A = B <;> simp [h, h2]
theorem cmp_gt (A B : Int) : (some (compare A B) == some .gt) = decide (B < A) := by
  simp only [compare, compareOfLessAndEq]
  by_cases h : A < B
  · have : ¬ B < A := by omega
    simp [h, this]
  · by_cases h2 : A = B
    · simp [h2]
    · have : B < A := by omega
      simp [h, h2, this]
theorem feq_fin {a b : Nat} {A B : Int} (ha : Fin a A) (hb : Fin b B) : feq a b = decide (A = B) := by rw [feq, fin_order ha hb, cmp_eq]
theorem flt_fin {a b : Nat} {A B : Int} (ha : Fin a A) (hb : Fin b B) : Go.Eng.flt a b = decide (A < B) := by rw [Go.Eng.flt, fin_order ha hb, cmp_lt]
theorem fgt_fin {a b : Nat} {A B : Int} (ha : Fin a A) (hb : Fin b B) : fgt a b = decide (B < A) := by rw [fgt, fin_order ha hb, cmp_gt]
/-- What is written of a number. -/
theorem fin_nearest (neg : Bool) {mag : Nat} {place : Int} (hp : -1074 ≤ place) (hV : (mag * 2 ^ (place + 1074).toNat).log2 < 2096) :
    Fin (double.nearest neg mag place) (sgn neg (rnd (mag * 2 ^ (place + 1074).toNat))) := by
  by_cases hm : mag = 0
  · subst hm
    have e : double.nearest neg 0 place = double.word neg 0 := by unfold Format.nearest; rw [if_pos rfl]
    rw [e]
    refine ⟨neg, _, _, read_word neg (by decide), by omega, ?_, mant_lt _⟩
    simp [mant, rnd, re]
  · have h0 : mag * 2 ^ (place + 1074).toNat ≠ 0 := Nat.mul_ne_zero hm (by have := pow_pos (place + 1074).toNat; omega)
    have hr := rung_lt h0 hV
    rw [nearest_eq neg hm hp, inf_eq, Nat.min_eq_left (by omega)]
    refine ⟨neg, _, _, read_word neg hr, by omega, ?_, mant_lt _⟩
    rw [← rung_eq h0]
    congr 3
    omega
/-- The sign and the size, rounded. -/
def rn (Z : Int) : Int := sgn (decide (Z < 0)) (rnd Z.natAbs)
theorem rn_exact {m k : Nat} (s : Bool) (hm : m < 2 ^ 53) : rn (sgn s (m * 2 ^ k)) = sgn s (m * 2 ^ k) := by
  have hr := rnd_exact (k := k) hm
  generalize m * 2 ^ k = V at hr ⊢
  have e : (sgn s V).natAbs = V := by
    unfold sgn
    cases s
    · show ((V : Int)).natAbs = V; omega
    · show (-(V : Int)).natAbs = V; omega
  unfold rn
  rw [e, hr]
  unfold sgn
  cases s with
  | false =>
    have : ¬ (V : Int) < 0 := by omega
    simp only [Bool.false_eq_true, if_false, this, decide_false]
  | true =>
    by_cases h : V = 0
    · subst h; rfl
    · have : -(V : Int) < 0 := by omega
      simp only [if_true, this, decide_true]
theorem natAbs_scale (T : Int) (k : Nat) : (T * ((2 ^ k : Nat) : Int)).natAbs = T.natAbs * 2 ^ k := by rw [Int.natAbs_mul]; simp
theorem neg_scale (T : Int) (k : Nat) : decide (T * ((2 ^ k : Nat) : Int) < 0) = decide (T < 0) := by
  have hk : (0 : Int) < ((2 ^ k : Nat) : Int) := by have := pow_pos k; omega
  rw [decide_eq_decide]
  constructor
  · intro h
    exact Int.lt_of_mul_lt_mul_right (by simpa using h) (Int.le_of_lt hk)
  · intro h
    have := Int.mul_lt_mul_of_pos_right h hk
    simpa using this
theorem fin_sum {x y : Datum} {s t : Bool} {m n : Nat} {i j : Int} (hi : -1074 ≤ i) (hj : -1074 ≤ j) (hV : (sgn s (m * 2 ^ (i + 1074).toNat) + sgn t (n * 2 ^ (j + 1074).toNat)).natAbs.log2 < 2096) :
    ∃ r, (Datum.sum (.number s m i) (.number t n j)).map double.write = some r ∧ Fin r (rn (sgn s (m * 2 ^ (i + 1074).toNat) + sgn t (n * 2 ^ (j + 1074).toNat))) := by
  have hb : -1074 ≤ min i j := by omega
  have e1 := shift_to (s := s) (m := m) hb (show min i j ≤ i by omega)
  have e2 := shift_to (s := t) (m := n) hb (show min i j ≤ j by omega)
  refine ⟨_, rfl, ?_⟩
  show Fin (double.nearest _ _ _) _
  rw [← e1, ← e2, ← Int.add_mul] at hV ⊢
  generalize signed s m (i - min i j).toNat + signed t n (j - min i j).toNat = T at hV ⊢
  rw [natAbs_scale] at hV
  by_cases h0 : T = 0
  · have hz := fin_nearest (s && t) (mag := 0) hb (by rw [Nat.zero_mul]; decide)
    subst h0
    simp only [if_true, Int.natAbs_zero, Int.zero_mul]
    have e0 : rn 0 = 0 := by simp [rn, rnd, re, sgn]
    rw [e0]
    have e3 : sgn (s && t) (rnd (0 * 2 ^ (min i j + 1074).toNat)) = 0 := by rw [Nat.zero_mul]; simp [rnd, re, sgn]
    rwa [e3] at hz
  · have hz := fin_nearest (decide (T < 0)) (mag := T.natAbs) hb hV
    simp only [h0, if_false]
    unfold rn
    rw [natAbs_scale, neg_scale]
    exact hz
theorem fcan_fin {r : Nat} {Z : Int} (h : Fin r Z) : fcan (some r) = r := h.canon
theorem fin_sub {a b : Nat} {A B : Int} (ha : Fin a A) (hb : Fin b B) (hV : (A - B).natAbs.log2 < 2096) : Fin (fsub a b) (rn (A - B)) := by
  obtain ⟨s, m, i, h1, h2, rfl, _⟩ := ha
  obtain ⟨t, n, j, h3, h4, rfl, _⟩ := hb
  rw [Int.sub_eq_add_neg, ← sgn_neg] at hV ⊢
  obtain ⟨r, e, hr⟩ := fin_sum (x := .number s m i) (y := .number t n j) h2 h4 hV
  have : fsub a b = r := by
    unfold fsub Format.sub
    rw [h1, h3]
    simp only [Datum.opposite]
    rw [e, fcan_fin hr]
  rw [this]; exact hr
theorem fin_add {a b : Nat} {A B : Int} (ha : Fin a A) (hb : Fin b B) (hV : (A + B).natAbs.log2 < 2096) : Fin (fadd a b) (rn (A + B)) := by
  obtain ⟨s, m, i, h1, h2, rfl, _⟩ := ha
  obtain ⟨t, n, j, h3, h4, rfl, _⟩ := hb
  obtain ⟨r, e, hr⟩ := fin_sum (x := .number s m i) (y := .number t n j) h2 h4 hV
  have : fadd a b = r := by
    unfold fadd Format.add
    rw [h1, h3, e, fcan_fin hr]
  rw [this]; exact hr
theorem log2_lt_of {V k : Nat} (h : V < 2 ^ k) (hk : 0 < k) : V.log2 < k := by
  by_cases h0 : V = 0
  · subst h0; simpa using hk
  · exact (Nat.log2_lt h0).2 h
theorem log_mul_lt {n k c d : Nat} (h : n < 2 ^ d) (hc : d + k ≤ c) (h0 : 0 < c) : (n * 2 ^ k).log2 < c := by
  refine log2_lt_of (Nat.lt_of_lt_of_le (Nat.mul_lt_mul_of_pos_right h (pow_pos _)) ?_) h0
  rw [← Nat.pow_add]
  exact Nat.pow_le_pow_right (by omega) hc
/-- So many smallest parts are one half. -/
def HH : Nat := 2 ^ 1073
/-- So many smallest parts are one. -/
def DD : Nat := 2 * HH
theorem HH_pow : ∀ {k : Nat}, k = 1073 → HH = 2 ^ k := fun {k} h => by rw [h]; rfl
theorem dbl (k : Nat) : 2 ^ (k + 1) = 2 * 2 ^ k := by rw [Nat.pow_succ, Nat.mul_comm]
theorem DD_pow {k : Nat} (h : k = 1074) : DD = 2 ^ k := by
  obtain ⟨j, rfl⟩ : ∃ j, k = j + 1 := ⟨k - 1, by omega⟩
  rw [dbl, DD, HH_pow (k := j) (by omega)]
theorem HH_pos : 0 < HH := by
  obtain ⟨k, hk⟩ : ∃ k : Nat, k = 1073 := ⟨_, rfl⟩
  rw [HH_pow hk]; exact pow_pos k
theorem DD_pos : 0 < DD := by have := HH_pos; unfold DD; omega
/-- A whole number below 2^53 is kept. -/
theorem fin_of {n : Int} (h : n.natAbs < 2 ^ 53) : Fin (fofi n) (n * (DD : Int)) := by
  have hl : (n.natAbs * 2 ^ ((0 : Int) + 1074).toNat).log2 < 2096 := log_mul_lt h (by decide) (by decide)
  have hz := fin_nearest (decide (n < 0)) (mag := n.natAbs) (place := 0) (by omega) hl
  have e : fofi n = double.nearest (decide (n < 0)) n.natAbs 0 := by
    show canonF (double.nearest (decide (n < 0)) n.natAbs 0) = _
    exact hz.canon
  rw [e]
  rw [rnd_exact h, sgn_mul, sgn_abs] at hz
  rw [DD_pow (k := ((0 : Int) + 1074).toNat) (by decide)]
  exact hz
end Go.FT

namespace Go.FT
open Ieee Go.Eng
theorem DD_eq : DD = 2 * HH := rfl
theorem cut_zero (neg : Bool) (n drop : Nat) : Toward.zero.cut neg n drop = n / 2 ^ drop := by
  unfold Toward.cut
  simp only [Nat.one_shiftLeft, Bool.toNat_false, Nat.add_zero]
  by_cases h : drop ≤ n.log2 + 2
  · rw [Nat.min_eq_left h]
  · rw [Nat.min_eq_right (by omega)]
    have hn : n < 2 ^ (n.log2 + 1) := Nat.lt_log2_self
    have h2 : 2 ^ (n.log2 + 1) ≤ 2 ^ (n.log2 + 2) := Nat.pow_le_pow_right (by omega) (by omega)
    have h3 : 2 ^ (n.log2 + 1) ≤ 2 ^ drop := Nat.pow_le_pow_right (by omega) (by omega)
    rw [Nat.div_eq_of_lt (by omega), Nat.div_eq_of_lt (by omega)]
/-- Whole places or not: the same quotient. -/
theorem quot_scale {m : Nat} {p : Int} (hp : -1074 ≤ p) : (m <<< p.toNat) / 2 ^ (-p).toNat = m * 2 ^ (p + 1074).toNat / DD := by
  rw [Nat.shiftLeft_eq]
  obtain ⟨k, hk⟩ : ∃ k : Nat, k = 1074 := ⟨_, rfl⟩
  rw [DD_pow hk]
  by_cases h : 0 ≤ p
  · rw [show (-p).toNat = 0 by omega, Nat.pow_zero, Nat.div_one, show (p + 1074).toNat = p.toNat + k by omega, Nat.pow_add, ← Nat.mul_assoc, Nat.mul_div_cancel _ (pow_pos _)]
  · rw [show p.toNat = 0 by omega, Nat.pow_zero, Nat.mul_one, show k = (-p).toNat + (p + 1074).toNat by omega, Nat.pow_add, Nat.mul_div_mul_right _ _ (pow_pos _)]
theorem re_scale2 {m : Nat} {p : Int} (hp : -1074 ≤ p) : re (m <<< p.toNat) (-p).toNat = re (m * 2 ^ (p + 1074).toNat) 1074 := by
  rw [Nat.shiftLeft_eq]
  obtain ⟨k, hk⟩ : ∃ k : Nat, k = 1074 := ⟨_, rfl⟩
  rw [← hk]
  by_cases h : 0 ≤ p
  · rw [show (-p).toNat = 0 by omega, re_zero, show (p + 1074).toNat = p.toNat + k by omega, Nat.pow_add, ← Nat.mul_assoc, re_mul]
  · rw [show p.toNat = 0 by omega, Nat.pow_zero, Nat.mul_one]
    have := re_scale m (p + 1074).toNat (-p).toNat
    rw [show (p + 1074).toNat + (-p).toNat = k by omega] at this
    exact this.symm
theorem sgn_natAbs (s : Bool) (N : Nat) : (sgn s N).natAbs = N := by
  unfold sgn
  cases s
  · show ((N : Int)).natAbs = N; omega
  · show (-(N : Int)).natAbs = N; omega
theorem sgn_same {s : Bool} {N K : Nat} (h : N = 0 → K = 0) : sgn s K = sgn (decide (sgn s N < 0)) K := by
  unfold sgn
  cases s with
  | false =>
    have : ¬ (N : Int) < 0 := by omega
    simp only [Bool.false_eq_true, if_false, this, decide_false]
  | true =>
    by_cases h0 : N = 0
    · have := h h0
      subst this h0
      rfl
    · have : -(N : Int) < 0 := by omega
      simp only [if_true, this, decide_true]
/-- Cut towards nought. -/
theorem trunc_fin {y : Nat} {Y : Int} (h : Fin y Y) (hb : Y.natAbs / DD ≤ 9223372036854775807) : floatToIntVal .f64 y .i64 = some (sgn (decide (Y < 0)) (Y.natAbs / DD)) := by
  obtain ⟨s, m, p, h1, h2, rfl, _⟩ := h
  have e1 : (FloatKind.f64.decode y).toInt .zero = some (sgn s (m * 2 ^ (p + 1074).toNat / DD)) := by
    show (double.read y).toInt .zero = _
    rw [h1]
    simp only [Datum.toInt, Datum.integral, cut_zero, quot_scale h2, signed_eq, Nat.pow_zero, Nat.mul_one]
  rw [sgn_natAbs] at hb ⊢
  rw [← sgn_same (fun h => by rw [h]; exact Nat.zero_div _)]
  unfold floatToIntVal
  rw [e1]
  simp only
  generalize m * 2 ^ (p + 1074).toNat / DD = K at hb
  rw [if_pos]
  have e2 : IntKind.i64.min = -9223372036854775808 := by decide
  have e3 : IntKind.i64.max = 9223372036854775807 := by decide
  rw [e2, e3]
  unfold sgn
  split <;> omega
theorem re_null (l : Nat) : re 0 l = 0 := by
  have := pow_pos l
  unfold re
  rw [Nat.zero_div, Nat.zero_mod, if_neg (by omega)]
/-- To the nearest whole number. -/
theorem even_fin {y : Nat} {Y : Int} (h : Fin y Y) (hb : re Y.natAbs 1074 < 2 ^ 53) :
    Fin (canonF (FloatKind.f64.encode ((FloatKind.f64.decode y).integral .even))) (sgn (decide (Y < 0)) (re Y.natAbs 1074) * (DD : Int)) := by
  obtain ⟨s, m, p, h1, h2, rfl, _⟩ := h
  rw [sgn_natAbs] at hb ⊢
  have e1 : FloatKind.f64.encode ((FloatKind.f64.decode y).integral .even) = double.nearest s (re (m * 2 ^ (p + 1074).toNat) 1074) 0 := by
    show double.write ((double.read y).integral .even) = _
    rw [h1]
    simp only [Datum.integral, cut_eq, re_scale2 h2]
    rfl
  rw [← sgn_same (fun h => by rw [h, re_null])]
  rw [e1]
  generalize re (m * 2 ^ (p + 1074).toNat) 1074 = K at hb
  have hl : (K * 2 ^ ((0 : Int) + 1074).toNat).log2 < 2096 := log_mul_lt hb (by decide) (by decide)
  have hz := fin_nearest s (mag := K) (place := 0) (by omega) hl
  rw [hz.canon]
  rw [rnd_exact hb, sgn_mul] at hz
  rw [DD_pow (k := ((0 : Int) + 1074).toNat) (by decide)]
  exact hz
end Go.FT

namespace Go.FT
open Ieee Go.Eng
/-- To the nearest whole number, of two as near the even one; in whole numbers. -/
def rne (N : Nat) : Nat := N / DD + (if DD < 2 * (N % DD) ∨ (DD = 2 * (N % DD) ∧ N / DD % 2 = 1) then 1 else 0)
theorem re_DD (N : Nat) : re N 1074 = rne N := by
  obtain ⟨k, hk⟩ : ∃ k : Nat, k = 1074 := ⟨_, rfl⟩
  rw [← hk]
  unfold re rne
  rw [DD_pow hk]
/-- Sizes that a float has are kept. -/
def Kept (V : Nat) : Prop := ∃ m k, V = m * 2 ^ k ∧ m < 2 ^ 53
theorem Kept.rnd {V : Nat} (h : Kept V) : rnd V = V := by
  obtain ⟨m, k, rfl, hm⟩ := h
  exact rnd_exact hm
theorem Fin.kept {y : Nat} {Y : Int} (h : Fin y Y) : Kept Y.natAbs := by
  obtain ⟨s, m, p, _, _, rfl, hm⟩ := h
  rw [sgn_natAbs]
  exact ⟨m, _, rfl, hm⟩
/-- What is left of a size of one and more, and what it lacks, are kept. -/
theorem rest_kept {N : Nat} (h : Kept N) (hN : DD ≤ N) : Kept (N % DD) ∧ Kept (DD - N % DD) := by
  obtain ⟨m, k, rfl, hm⟩ := h
  obtain ⟨d, hd⟩ : ∃ d : Nat, d = 1074 := ⟨_, rfl⟩
  rw [DD_pow hd] at hN ⊢
  by_cases hk : d ≤ k
  · have e : m * 2 ^ k % 2 ^ d = 0 := by
      rw [show k = (k - d) + d by omega, Nat.pow_add, ← Nat.mul_assoc]
      exact Nat.mul_mod_left _ _
    rw [e]
    exact ⟨⟨0, 0, by simp, by decide⟩, ⟨1, d, by simp, by decide⟩⟩
  · have h1 : 2 ^ d < 2 ^ (53 + k) := by
      refine Nat.lt_of_le_of_lt hN ?_
      rw [Nat.pow_add]
      exact Nat.mul_lt_mul_of_pos_right hm (pow_pos k)
    have h2 : d < 53 + k := (Nat.pow_lt_pow_iff_right (by omega)).1 h1
    obtain ⟨j, rfl⟩ : ∃ j, d = k + j := ⟨d - k, by omega⟩
    have hj : 2 ^ j ≤ 2 ^ 52 := Nat.pow_le_pow_right (by omega) (by omega)
    have hjp := pow_pos j
    have e : m * 2 ^ k % 2 ^ (k + j) = (m % 2 ^ j) * 2 ^ k := by
      rw [Nat.pow_add, Nat.mul_comm m, Nat.mul_mod_mul_left, Nat.mul_comm]
    rw [e]
    have hlt := Nat.mod_lt m hjp
    refine ⟨⟨m % 2 ^ j, k, rfl, by omega⟩, ⟨2 ^ j - m % 2 ^ j, k, ?_, by omega⟩⟩
    rw [Nat.pow_add, Nat.mul_comm (2 ^ k), ← Nat.sub_mul]
/-- What a size above one half lacks of one is kept. -/
theorem lack_kept {N : Nat} (h : Kept N) (h1 : HH < N) (h2 : N < DD) : Kept (DD - N) := by
  obtain ⟨m, k, rfl, hm⟩ := h
  obtain ⟨d, hd⟩ : ∃ d : Nat, d = 1073 := ⟨_, rfl⟩
  have e1 := HH_pow hd
  have e2 : DD = 2 * 2 ^ d := by rw [DD_eq, e1]
  rw [e1] at h1
  have h3 : 2 ^ d < 2 ^ (53 + k) := by
    refine Nat.lt_trans h1 ?_
    rw [Nat.pow_add]
    exact Nat.mul_lt_mul_of_pos_right hm (pow_pos k)
  have h4 : d < 53 + k := (Nat.pow_lt_pow_iff_right (by omega)).1 h3
  by_cases hk : d < k
  · have : 2 ^ (d + 1) ≤ 2 ^ k := Nat.pow_le_pow_right (by omega) (by omega)
    rw [dbl] at this
    have hm0 : m ≠ 0 := by
      rintro rfl
      have := pow_pos d
      omega
    have : 1 * 2 ^ k ≤ m * 2 ^ k := Nat.mul_le_mul_right _ (by omega)
    omega
  · obtain ⟨j, rfl⟩ : ∃ j, d = k + j := ⟨d - k, by omega⟩
    have hj : 2 ^ j ≤ 2 ^ 52 := Nat.pow_le_pow_right (by omega) (by omega)
    refine ⟨2 * 2 ^ j - m, k, ?_, ?_⟩
    · rw [e2, Nat.sub_mul, Nat.pow_add, Nat.mul_assoc, Nat.mul_comm (2 ^ k)]
    · have : 2 ^ j < m := by
        rw [Nat.pow_add, Nat.mul_comm] at h1
        exact Nat.lt_of_mul_lt_mul_right h1
      omega
theorem rnd_half : rnd HH = HH := by
  obtain ⟨d, hd⟩ : ∃ d : Nat, d = 1073 := ⟨_, rfl⟩
  rw [HH_pow hd]
  have := rnd_exact (m := 1) (k := d) (by decide)
  simpa using this
theorem rnd_ge_half {V : Nat} (h : HH ≤ V) : HH ≤ rnd V := by
  obtain ⟨d, hd⟩ : ∃ d : Nat, d = 1073 := ⟨_, rfl⟩
  rw [HH_pow hd] at h ⊢
  exact rnd_ge h
theorem rn_nat (V : Nat) : rn (V : Int) = (rnd V : Int) := by
  unfold rn
  have : ¬ (V : Int) < 0 := by omega
  simp [this, sgn]
end Go.FT

namespace Go.FT
open Ieee Go.Eng
/-- From the whole number below and what is left. -/
def up (n : Int) (r : Nat) : Int := if HH < r then n + 1 else if r = HH ∧ n.tmod 2 ≠ 0 then n + 1 else n
theorem tmod2_nat (q : Nat) : ((q : Int).tmod 2 ≠ 0) ↔ q % 2 = 1 := by
  rw [Int.tmod_eq_emod_of_nonneg (by omega)]; omega
theorem tmod2_neg (q : Nat) : ((-(q : Int) - 1).tmod 2 ≠ 0) ↔ q % 2 = 0 := by
  rw [show (-(q : Int) - 1) = -(((q + 1 : Nat) : Int)) by omega, Int.neg_tmod, Int.tmod_eq_emod_of_nonneg (by omega)]; omega
theorem rne_eq (N : Nat) : rne N = N / DD + (if HH < N % DD ∨ (HH = N % DD ∧ N / DD % 2 = 1) then 1 else 0) := by
  unfold rne
  have h1 : DD < 2 * (N % DD) ↔ HH < N % DD := by rw [DD_eq]; omega
  have h2 : DD = 2 * (N % DD) ↔ HH = N % DD := by
    have := DD_eq
    constructor
    · intro h; omega
    · intro h; omega
  simp only [h1, h2]
theorem up_pos {N : Nat} (h : Kept N) : up ((N / DD : Nat) : Int) (rnd (N % DD)) = ((rne N : Nat) : Int) := by
  have hr : rnd (N % DD) = N % DD := by
    by_cases hN : DD ≤ N
    · exact (rest_kept h hN).1.rnd
    · rw [Nat.mod_eq_of_lt (by omega)]; exact h.rnd
  rw [hr, rne_eq]
  unfold up
  simp only [tmod2_nat]
  generalize N / DD = q
  generalize N % DD = T
  by_cases h1 : HH < T
  · simp [h1]
  · by_cases h2 : T = HH
    · have h1' : ¬ HH < T := h1
      by_cases h3 : q % 2 = 1
      · rw [if_neg h1, if_pos ⟨h2, h3⟩, if_pos (Or.inr ⟨h2.symm, h3⟩)]; rfl
      · rw [if_neg h1, if_neg (fun x => h3 x.2), if_neg (fun x => x.elim h1 fun y => h3 y.2)]; rfl
    · have : ¬ HH = T := fun e => h2 e.symm
      simp [h1, h2, this]
theorem up_whole {q : Nat} : up (-(q : Int)) 0 = -(q : Int) := by
  have := HH_pos
  unfold up
  rw [if_neg (by omega), if_neg (by omega)]
theorem up_neg {N : Nat} (h : Kept N) (hT : N % DD ≠ 0) : up (-((N / DD : Nat) : Int) - 1) (rnd (DD - N % DD)) = -((rne N : Nat) : Int) := by
  have hp := DD_pos
  have hlt := Nat.mod_lt N hp
  have hd := DD_eq
  rw [rne_eq]
  unfold up
  simp only [tmod2_neg]
  by_cases hN : DD ≤ N
  · rw [(rest_kept h hN).2.rnd]
    generalize N / DD = q
    generalize N % DD = T at *
    by_cases h1 : HH < T
    · have a1 : ¬ HH < DD - T := by omega
      have a2 : ¬ DD - T = HH := by omega
      simp [h1, a1, a2]; omega
    · by_cases h2 : T = HH
      · have a1 : ¬ HH < DD - T := by omega
        have a2 : DD - T = HH := by omega
        by_cases h3 : q % 2 = 1
        · have : ¬ q % 2 = 0 := by omega
          rw [if_neg a1, if_neg (fun x => this x.2), if_pos (Or.inr ⟨h2.symm, h3⟩)]; omega
        · have : q % 2 = 0 := by omega
          rw [if_neg a1, if_pos ⟨a2, this⟩, if_neg (fun x => x.elim h1 fun y => h3 y.2)]; omega
      · have a1 : HH < DD - T := by omega
        have a3 : ¬ HH = T := fun e => h2 e.symm
        simp [h1, h2, a1, a3]
  · have e1 : N / DD = 0 := Nat.div_eq_of_lt (by omega)
    have e2 : N % DD = N := Nat.mod_eq_of_lt (by omega)
    rw [e1, e2] at *
    have e3 : (0 : Nat) % 2 = 0 := rfl
    by_cases h1 : HH < N
    · rw [(lack_kept h h1 (by omega)).rnd]
      have a1 : ¬ HH < DD - N := by omega
      have a2 : ¬ DD - N = HH := by omega
      simp [h1, a1, a2]
    · have g := rnd_ge_half (V := DD - N) (by omega)
      by_cases h2 : HH < rnd (DD - N)
      · simp [h1, h2]
      · have a1 : rnd (DD - N) = HH := by omega
        simp [h1, a1]
/-- The whole number nearest to Y of the smallest parts. -/
def nearV (Y : Int) : Int := sgn (decide (Y < 0)) (rne Y.natAbs)
theorem fin_half : Fin 4602678819172646912 (HH : Int) := by
  refine ⟨false, 2 ^ 52, -53, by decide, by omega, ?_, by decide⟩
  obtain ⟨d, hd⟩ : ∃ d : Nat, d = 1021 := ⟨_, rfl⟩
  rw [show ((-53 : Int) + 1074).toNat = d by omega, HH_pow (k := 52 + d) (by omega), Nat.pow_add]
  rfl
theorem whole_bound {Y : Int} {c : Nat} (h : Y.natAbs ≤ c * DD) : Y.natAbs / DD ≤ c := by
  have := Nat.div_le_div_right (c := DD) h
  rwa [Nat.mul_div_cancel _ DD_pos] at this
theorem scale_abs (n : Int) : (n * (DD : Int)).natAbs = n.natAbs * DD := by rw [Int.natAbs_mul]; simp
theorem log_fin {V : Nat} {c : Nat} (hc : c < 2 ^ 60) (h : V ≤ c * DD) : V.log2 < 2096 := by
  obtain ⟨d, hd⟩ : ∃ d : Nat, d = 1074 := ⟨_, rfl⟩
  obtain ⟨z, hz⟩ : ∃ z : Nat, z = 2096 := ⟨_, rfl⟩
  rw [← hz]
  rw [DD_pow hd] at h
  have := log_mul_lt (n := c) (k := d) (c := z) hc (by omega) (by omega)
  by_cases h0 : V = 0
  · subst h0; rw [Nat.log2_zero]; omega
  · refine (Nat.log2_lt h0).2 (Nat.lt_of_le_of_lt h ?_)
    by_cases h1 : c * 2 ^ d = 0
    · omega
    · exact (Nat.log2_lt h1).1 this
/-- What is left behind the whole number below. -/
theorem rest_fin {y : Nat} {Y n : Int} {R : Nat} (h : Fin y Y) (hn : n.natAbs < 2 ^ 53) (hR : Y - n * (DD : Int) = (R : Int)) (hb : R ≤ DD) : Fin (fsub y (fofi n)) ((rnd R : Nat) : Int) := by
  have hl : (Y - n * (DD : Int)).natAbs.log2 < 2096 := by
    rw [hR]
    exact log_fin (c := 1) (by decide) (by simpa using hb)
  have := fin_sub h (fin_of hn) hl
  rwa [hR, rn_nat] at this
end Go.FT

namespace Go.FT
open Ieee Go.Eng
theorem read_cases (y : Nat) : (∃ Z, Fin y Z) ∨ (∃ s, double.read y = .infinity s) ∨ (∃ s t, double.read y = .nan s t) := by
  by_cases h1 : y % double.signWeight < double.binade
  · have e : double.read y = .number (y / double.signWeight % 2 == 1) (y % double.signWeight) double.leastPlace := by
      unfold Format.read
      simp only [h1, if_true]
    exact .inl ⟨_, _, _, _, e, by rw [lp_eq]; omega, rfl, by rw [bin_eq] at h1; omega⟩
  · by_cases h2 : y % double.signWeight < double.infRung
    · have e : double.read y = .number (y / double.signWeight % 2 == 1) (double.binade + y % double.signWeight % double.binade) (double.leastPlace + (y % double.signWeight / double.binade - 1 : Nat)) := by
        unfold Format.read
        simp only [h1, h2, if_true, if_false]
      refine .inl ⟨_, _, _, _, e, by rw [lp_eq]; omega, rfl, ?_⟩
      rw [bin_eq]
      generalize y % double.signWeight = r
      omega
    · by_cases h3 : y % double.signWeight = double.infRung
      · refine .inr (.inl ⟨y / double.signWeight % 2 == 1, ?_⟩)
        unfold Format.read
        simp only [h1, h2, if_true, if_false]
        rw [if_pos h3]
      · refine .inr (.inr ⟨y / double.signWeight % 2 == 1, y % double.signWeight - double.infRung, ?_⟩)
        unfold Format.read
        simp only [h1, h2, if_false]
        rw [if_neg h3]
theorem rn_zero : rn 0 = 0 := by simp [rn, rnd, re_null, sgn]
theorem fin_zero : Fin 0 0 := ⟨false, 0, -1074, by decide, by omega, by simp [sgn], by decide⟩
theorem known_fin {y : Nat} {Y : Int} (h : Fin y Y) : feq (fsub y y) 0 = true := by
  have hs := fin_sub h h (by rw [Int.sub_self]; decide)
  rw [Int.sub_self, rn_zero] at hs
  rw [feq_fin hs fin_zero]; rfl
theorem qnan : double.read 0x7ff8000000000000 = .nan false (2 ^ 51) := by decide
theorem sub_none {y z : Nat} (h : (double.read y).sum (double.read z).opposite = none) : fsub y z = 0x7ff8000000000000 := by
  unfold fsub Format.sub
  rw [h]; rfl
theorem order_nan {y z : Nat} (h : (double.read y).isNaN = true) : double.order y z = none := by
  unfold Format.order
  cases hd : double.read y with
  | nan s t => rfl
  | number s m p => rw [hd] at h; cases h
  | infinity s => rw [hd] at h; cases h
theorem known_inf {y : Nat} {s : Bool} (h : double.read y = .infinity s) : feq (fsub y y) 0 = false := by
  have : fsub y y = 0x7ff8000000000000 := sub_none (by rw [h]; cases s <;> rfl)
  rw [this, feq, order_nan (by rw [qnan]; rfl)]; rfl
theorem known_nan {y : Nat} {s : Bool} {t : Nat} (h : double.read y = .nan s t) : feq (fsub y y) 0 = false := by
  have : fsub y y = 0x7ff8000000000000 := sub_none (by rw [h]; rfl)
  rw [this, feq, order_nan (by rw [qnan]; rfl)]; rfl
theorem self_fin {y : Nat} {Y : Int} (h : Fin y Y) : feq y y = true := by rw [feq_fin h h]; simp
theorem self_inf {y : Nat} {s : Bool} (h : double.read y = .infinity s) : feq y y = true := by
  unfold feq Format.order
  rw [h]; cases s <;> rfl
theorem self_nan {y : Nat} {s : Bool} {t : Nat} (h : double.read y = .nan s t) : feq y y = false := by
  rw [feq, order_nan (by rw [h]; rfl)]; rfl
/-! ### sizes -/
def rd0 (neg : Bool) (r : Nat) : Datum :=
  if r < double.binade then .number neg r double.leastPlace
  else if r < double.infRung then .number neg (double.binade + r % double.binade) (double.leastPlace + (r / double.binade - 1 : Nat))
  else if r = double.infRung then .infinity neg
  else .nan neg (r - double.infRung)
theorem read_eq (y : Nat) : double.read y = rd0 (y / 2 ^ 63 % 2 == 1) (y % 2 ^ 63) := rfl
theorem rd0_abs (neg : Bool) (r : Nat) : rd0 false r = match rd0 neg r with | .number _ m p => .number false m p | .infinity _ => .infinity false | .nan _ t => .nan false t := by
  unfold rd0
  by_cases h1 : r < double.binade
  · simp only [h1, if_true]
  · by_cases h2 : r < double.infRung
    · simp only [h1, h2, if_true, if_false]
    · by_cases h3 : r = double.infRung
      · rw [if_neg h1, if_neg h2, if_pos h3, if_neg h1, if_neg h2, if_pos h3]
      · rw [if_neg h1, if_neg h2, if_neg h3, if_neg h1, if_neg h2, if_neg h3]
theorem read_abs (y : Nat) : double.read (y % 2 ^ 63) = match double.read y with | .number _ m p => .number false m p | .infinity _ => .infinity false | .nan _ t => .nan false t := by
  rw [read_eq, read_eq y, ← rd0_abs]
  have e1 : y % 2 ^ 63 % 2 ^ 63 = y % 2 ^ 63 := Nat.mod_mod _ _
  have e2 : (y % 2 ^ 63 / 2 ^ 63 % 2 == 1) = false := by
    have : y % 2 ^ 63 / 2 ^ 63 = 0 := Nat.div_eq_of_lt (Nat.mod_lt _ (by decide))
    rw [this]; rfl
  rw [e1, e2]
theorem fin_abs {y : Nat} {Y : Int} (h : Fin y Y) : Fin (y % 2 ^ 63) (Y.natAbs : Int) := by
  obtain ⟨s, m, p, h1, h2, rfl, h3⟩ := h
  rw [sgn_natAbs]
  exact ⟨false, m, p, by rw [read_abs, h1], h2, rfl, h3⟩
theorem fin_max {e : Nat} (he : e = 2045) : Fin 9218868437227405311 (((2 ^ 53 - 1) * 2 ^ e : Nat) : Int) := ⟨false, 2 ^ 53 - 1, 971, by decide, by omega, by rw [show ((971 : Int) + 1074).toNat = e by omega]; rfl, by decide⟩
theorem place_le {y : Nat} {s : Bool} {m : Nat} {p : Int} (h : double.read y = .number s m p) : p ≤ 971 := by
  rw [read_eq] at h
  generalize (y / 2 ^ 63 % 2 == 1) = neg at h
  generalize y % 2 ^ 63 = r at h
  unfold rd0 at h
  by_cases h1 : r < double.binade
  · rw [if_pos h1] at h
    injection h with _ _ h
    rw [← h, lp_eq]; omega
  · by_cases h2 : r < double.infRung
    · rw [if_neg h1, if_pos h2] at h
      injection h with _ _ h
      rw [← h, lp_eq, bin_eq]
      rw [inf_eq] at h2
      omega
    · rw [if_neg h1, if_neg h2] at h
      split at h <;> cases h
theorem fin_le {y : Nat} {Y : Int} {e : Nat} (he : e = 2045) (h : Fin y Y) : Y.natAbs ≤ (2 ^ 53 - 1) * 2 ^ e := by
  obtain ⟨s, m, p, h1, h2, rfl, h3⟩ := h
  rw [sgn_natAbs]
  have hp := place_le h1
  exact Nat.mul_le_mul (by omega) (Nat.pow_le_pow_right (by omega) (by omega))
/-- A number is not above the greatest one. -/
theorem not_over {y : Nat} {Y : Int} (h : Fin y Y) : fgt y 9218868437227405311 = false := by
  obtain ⟨e, he⟩ : ∃ e : Nat, e = 2045 := ⟨_, rfl⟩
  have hl := fin_le he h
  rw [fgt_fin h (fin_max he)]
  generalize (2 ^ 53 - 1) * 2 ^ e = M at hl
  exact decide_eq_false (by omega)
theorem inf_over {y : Nat} (h : double.read y = .infinity false) : fgt y 9218868437227405311 = true := by
  have : double.read 9218868437227405311 = .number false (2 ^ 53 - 1) 971 := by decide
  unfold fgt Format.order
  rw [h, this]; rfl
theorem ninf_over {y : Nat} (h : double.read y = .infinity true) : fgt y 9218868437227405311 = false := by
  have : double.read 9218868437227405311 = .number false (2 ^ 53 - 1) 971 := by decide
  unfold fgt Format.order
  rw [h, this]; rfl
end Go.FT

namespace Go.FT
open Ieee Go.Eng
/-- A number, in size at most 2 to k. -/
def Bd (x k : Nat) : Prop := ∃ Z : Int, Fin x Z ∧ Z.natAbs ≤ 2 ^ k * DD
theorem Bd.mono {x j k : Nat} (h : Bd x j) (hj : j ≤ k) : Bd x k := by
  obtain ⟨Z, h1, h2⟩ := h
  exact ⟨Z, h1, Nat.le_trans h2 (Nat.mul_le_mul_right _ (Nat.pow_le_pow_right (by omega) hj))⟩
theorem rn_abs (Z : Int) : (rn Z).natAbs = rnd Z.natAbs := sgn_natAbs _ _
theorem pow_DD {k e : Nat} (he : e = 1074) : 2 ^ k * DD = 2 ^ (k + e) := by rw [DD_pow he, Nat.pow_add]
theorem log_bd {V k : Nat} (h : V ≤ 2 ^ k * DD) (hk : k ≤ 1000) : V.log2 < 2096 := by
  obtain ⟨e, he⟩ : ∃ e : Nat, e = 1074 := ⟨_, rfl⟩
  obtain ⟨z, hz⟩ : ∃ z : Nat, z = 2096 := ⟨_, rfl⟩
  rw [← hz]
  rw [pow_DD he] at h
  refine log2_lt_of (Nat.lt_of_le_of_lt h (Nat.pow_lt_pow_right (by omega) (by omega))) (by omega)
theorem rnd_bd {V k : Nat} (h : V ≤ 2 ^ k * DD) : rnd V ≤ 2 ^ k * DD := by
  obtain ⟨e, he⟩ : ∃ e : Nat, e = 1074 := ⟨_, rfl⟩
  rw [pow_DD he] at h ⊢
  exact rnd_le h
theorem sub_bd {a b k : Nat} (ha : Bd a k) (hb : Bd b k) (hk : k < 1000) : Bd (fsub a b) (k + 1) := by
  obtain ⟨A, a1, a2⟩ := ha
  obtain ⟨B, b1, b2⟩ := hb
  have hle : (A - B).natAbs ≤ 2 ^ (k + 1) * DD := by
    rw [dbl, Nat.mul_assoc]
    omega
  exact ⟨_, fin_sub a1 b1 (log_bd hle (by omega)), by rw [rn_abs]; exact rnd_bd hle⟩
theorem add_bd {a b k : Nat} (ha : Bd a k) (hb : Bd b k) (hk : k < 1000) : Bd (fadd a b) (k + 1) := by
  obtain ⟨A, a1, a2⟩ := ha
  obtain ⟨B, b1, b2⟩ := hb
  have hle : (A + B).natAbs ≤ 2 ^ (k + 1) * DD := by
    rw [dbl, Nat.mul_assoc]
    omega
  exact ⟨_, fin_add a1 b1 (log_bd hle (by omega)), by rw [rn_abs]; exact rnd_bd hle⟩
/-! ### what is written of any number -/
theorem re_le_pow {n a l : Nat} (h : n ≤ 2 ^ (a + l)) : re n l ≤ 2 ^ a := by
  have hl := pow_pos l
  by_cases he : n = 2 ^ (a + l)
  · rw [he, Nat.pow_add, re_mul]; exact Nat.le_refl _
  · have : n / 2 ^ l < 2 ^ a := by
      rw [Nat.div_lt_iff_lt_mul hl, ← Nat.pow_add]; omega
    have := re_le n l
    omega
theorem mant_ex {l k : Nat} (h : (l = 0 ∧ k < 2 ^ 53) ∨ (2 ^ 52 ≤ k ∧ k ≤ 2 ^ 53)) : mant (l * 2 ^ 52 + k) * 2 ^ ex (l * 2 ^ 52 + k) = k * 2 ^ l := by
  unfold mant ex
  rcases h with ⟨rfl, hk⟩ | hk
  · rw [Nat.zero_mul, Nat.zero_add, Nat.pow_zero, Nat.mul_one]
    by_cases h1 : k < 2 ^ 52
    · simp [h1]
    · simp only [h1, if_false]
      have e1 : k / 2 ^ 52 = 1 := by omega
      have e2 : k % 2 ^ 52 = k - 2 ^ 52 := by omega
      rw [e1, e2]
      simp; omega
  · have hn : ¬ l * 2 ^ 52 + k < 2 ^ 52 := by omega
    simp only [hn, if_false]
    by_cases he : k = 2 ^ 53
    · subst he
      have e1 : (l * 2 ^ 52 + 2 ^ 53) / 2 ^ 52 = l + 2 := by omega
      have e2 : (l * 2 ^ 52 + 2 ^ 53) % 2 ^ 52 = 0 := by omega
      rw [e1, e2, show l + 2 - 1 = l + 1 by omega, dbl l, Nat.add_zero]
      generalize 2 ^ l = q
      omega
    · have e1 : (l * 2 ^ 52 + k) / 2 ^ 52 = l + 1 := by omega
      have e2 : (l * 2 ^ 52 + k) % 2 ^ 52 = k - 2 ^ 52 := by omega
      rw [e1, e2, show l + 1 - 1 = l by omega, show 2 ^ 52 + (k - 2 ^ 52) = k by omega]
/-- Of a number below the smallest parts too. -/
theorem nearest_bd (neg : Bool) {mag : Nat} {place : Int} {k : Nat} (hk : k ≤ 1000) (hp : place ≤ (k : Int)) (h : mag ≤ 2 ^ ((k : Int) - place).toNat) : Bd (double.nearest neg mag place) k := by
  by_cases h1 : -1074 ≤ place
  · have hV : mag * 2 ^ (place + 1074).toNat ≤ 2 ^ k * DD := by
      obtain ⟨e, he⟩ : ∃ e : Nat, e = 1074 := ⟨_, rfl⟩
      rw [pow_DD he]
      refine Nat.le_trans (Nat.mul_le_mul_right _ h) ?_
      rw [← Nat.pow_add]
      exact Nat.pow_le_pow_right (by omega) (by omega)
    exact ⟨_, fin_nearest neg h1 (log_bd hV hk), by rw [sgn_natAbs]; exact rnd_bd hV⟩
  · by_cases hm : mag = 0
    · subst hm
      have e : double.nearest neg 0 place = double.word neg 0 := by unfold Format.nearest; rw [if_pos rfl]
      rw [e]
      refine ⟨sgn neg 0, ⟨neg, _, _, read_word neg (by decide), by omega, ?_, mant_lt _⟩, by rw [sgn_natAbs]; omega⟩
      simp [mant]
    · have hlog : mag.log2 ≤ ((k : Int) - place).toNat := by
        have : mag.log2 < ((k : Int) - place).toNat + 1 := (Nat.log2_lt hm).2 (Nat.lt_of_le_of_lt h (Nat.pow_lt_pow_right (by omega) (by omega)))
        omega
      have hlo := log_le hm
      have hhi := log_lt mag
      unfold Format.nearest
      rw [if_neg hm]
      simp only [lp_eq, fb_eq, bin_eq, cut_eq, inf_eq]
      obtain ⟨l, hl⟩ : ∃ l : Nat, max (place + (mag.log2 : Int) - ((52 : Nat) : Int)) (-1074) = (l : Int) - 1074 := ⟨(max (place + (mag.log2 : Int) - ((52 : Nat) : Int)) (-1074) + 1074).toNat, by omega⟩
      rw [hl]
      obtain ⟨d, hd⟩ : ∃ d : Nat, (l : Int) - 1074 - place = (d : Int) := ⟨((l : Int) - 1074 - place).toNat, by omega⟩
      rw [show (place - ((l : Int) - 1074)).toNat = 0 by omega, show ((l : Int) - 1074 - place).toNat = d by omega, show ((l : Int) - 1074 - -1074).toNat = l by omega, Nat.shiftLeft_zero]
      have hkd : d ≤ ((k : Int) - place).toNat := by omega
      have hb : re mag d ≤ 2 ^ (((k : Int) - place).toNat - d) := re_le_pow (by rw [Nat.sub_add_cancel hkd]; exact h)
      have hlog2 : mag.log2 ≤ d + 52 := by omega
      have hle53 : re mag d ≤ 2 ^ 53 := re_le_pow (by
        have h6 : mag.log2 + 1 ≤ 53 + d := by omega
        have := Nat.pow_le_pow_right (show 0 < 2 by omega) h6
        omega)
      have hq : (l = 0 ∧ re mag d < 2 ^ 53) ∨ (2 ^ 52 ≤ re mag d ∧ re mag d ≤ 2 ^ 53) := by
        by_cases hl0 : l = 0
        · by_cases h5 : re mag d < 2 ^ 53
          · exact .inl ⟨hl0, h5⟩
          · exact .inr ⟨by omega, hle53⟩
        · right
          refine ⟨?_, hle53⟩
          have hlog3 : mag.log2 = d + 52 := by omega
          have hp := pow_pos d
          rw [hlog3] at hlo
          refine Nat.le_trans ?_ (le_re mag d)
          rw [Nat.le_div_iff_mul_le hp, ← Nat.pow_add, Nat.add_comm 52]; exact hlo
      generalize hr : re mag d = r at hb hq ⊢
      have hlt : l * 2 ^ 52 + r < 2047 * 2 ^ 52 := by omega
      rw [Nat.min_eq_left (by omega)]
      refine ⟨sgn neg (r * 2 ^ l), ⟨neg, _, _, read_word neg hlt, by omega, ?_, mant_lt _⟩, ?_⟩
      · have e : ((-1074 : Int) + (ex (l * 2 ^ 52 + r) : Int) + 1074).toNat = ex (l * 2 ^ 52 + r) := by
          generalize ex (l * 2 ^ 52 + r) = q
          omega
        rw [e, mant_ex hq]
      · rw [sgn_natAbs]
        obtain ⟨e, he⟩ : ∃ e : Nat, e = 1074 := ⟨_, rfl⟩
        rw [pow_DD he]
        refine Nat.le_trans (Nat.mul_le_mul_right _ hb) ?_
        rw [← Nat.pow_add]
        exact Nat.pow_le_pow_right (by omega) (by omega)
theorem zero_bd (neg : Bool) (place : Int) (k : Nat) : Bd (double.nearest neg 0 place) k := by
  have e : double.nearest neg 0 place = double.word neg 0 := by unfold Format.nearest; rw [if_pos rfl]
  rw [e]
  refine ⟨sgn neg 0, ⟨neg, _, _, read_word neg (by decide), by omega, ?_, mant_lt _⟩, by rw [sgn_natAbs]; omega⟩
  simp [mant]
theorem Bd.fcan {r k : Nat} (h : Bd r k) : Bd (fcan (some r)) k := by
  obtain ⟨Z, h1, h2⟩ := h
  exact ⟨Z, by rw [fcan_fin h1]; exact h1, h2⟩
theorem size_of {m k : Nat} {i : Int} (hi : -1074 ≤ i) (hm : m ≠ 0) (h : m * 2 ^ (i + 1074).toNat ≤ 2 ^ k * DD) : i ≤ (k : Int) ∧ m ≤ 2 ^ ((k : Int) - i).toNat := by
  obtain ⟨e, he⟩ : ∃ e : Nat, e = 1074 := ⟨_, rfl⟩
  rw [pow_DD he] at h
  have h1 : 2 ^ (i + 1074).toNat ≤ 2 ^ (k + e) := by
    refine Nat.le_trans ?_ h
    have := Nat.mul_le_mul_right (2 ^ (i + 1074).toNat) (show 1 ≤ m by omega)
    omega
  have h2 := (Nat.pow_le_pow_iff_right (show 1 < 2 by omega)).1 h1
  refine ⟨by omega, ?_⟩
  rw [show k + e = ((k : Int) - i).toNat + (i + 1074).toNat by omega, Nat.pow_add] at h
  exact Nat.le_of_mul_le_mul_right h (pow_pos _)
theorem mul_bd {a b j k : Nat} (ha : Bd a j) (hb : Bd b k) (hk : j + k ≤ 1000) : Bd (fmul a b) (j + k) := by
  obtain ⟨A, ⟨s, m, i, h1, h2, rfl, _⟩, a2⟩ := ha
  obtain ⟨B, ⟨t, n, p, h3, h4, rfl, _⟩, b2⟩ := hb
  rw [sgn_natAbs] at a2 b2
  have e : fmul a b = fcan (some (double.nearest (s ^^ t) (m * n) (i + p))) := by
    unfold fmul Format.mul
    rw [h1, h3]; rfl
  rw [e]
  refine Bd.fcan ?_
  by_cases hm : m = 0
  · subst hm; rw [Nat.zero_mul]; exact zero_bd _ _ _
  · by_cases hn : n = 0
    · subst hn; rw [Nat.mul_zero]; exact zero_bd _ _ _
    · obtain ⟨x1, x2⟩ := size_of h2 hm a2
      obtain ⟨y1, y2⟩ := size_of h4 hn b2
      refine nearest_bd _ hk (by omega) ?_
      refine Nat.le_trans (Nat.mul_le_mul x2 y2) ?_
      rw [← Nat.pow_add]
      exact Nat.pow_le_pow_right (by omega) (by omega)
theorem div_bd {a b k : Nat} {A B : Int} (ha : Fin a A) (hb : Fin b B) (hB : B ≠ 0) (hk : k < 1000) (h : A.natAbs ≤ 2 ^ k * B.natAbs) : Bd (fdiv a b) (k + 1) := by
  obtain ⟨s, m, i, h1, h2, rfl, hm53⟩ := ha
  obtain ⟨t, n, p, h3, h4, rfl, hn53⟩ := hb
  rw [sgn_natAbs, sgn_natAbs] at h
  have hn : n ≠ 0 := by
    rintro rfl
    apply hB
    rw [Nat.zero_mul]
    cases t <;> rfl
  have e : fdiv a b = fcan (some (double.nearest (s ^^ t) (2 * ((m <<< (54 + n.log2 - m.log2)) / n) + ((m <<< (54 + n.log2 - m.log2)) % n != 0).toNat) (i - p - ((54 + n.log2 - m.log2 : Nat) : Int) - 1))) := by
    unfold fdiv Format.div
    rw [h1, h3]
    simp only [Datum.quotient, if_neg hn]
    rfl
  rw [e]
  refine Bd.fcan ?_
  by_cases hm : m = 0
  · subst hm
    have e0 : 2 * ((0 <<< (54 + n.log2 - Nat.log2 0)) / n) + ((0 <<< (54 + n.log2 - Nat.log2 0)) % n != 0).toNat = 0 := by simp
    rw [e0]
    exact zero_bd _ _ _
  · generalize hmore : 54 + n.log2 - m.log2 = more
    rw [Nat.shiftLeft_eq]
    generalize hx : m * 2 ^ more / n = x
    have hxb : n * x ≤ m * 2 ^ more := by rw [← hx]; exact Nat.mul_div_le _ _
    have hx1 : x * 2 ^ (i + 1074).toNat ≤ 2 ^ (k + (p + 1074).toNat + more) := by
      have q1 : n * x * 2 ^ (i + 1074).toNat ≤ m * 2 ^ more * 2 ^ (i + 1074).toNat := Nat.mul_le_mul_right _ hxb
      have q2 : m * 2 ^ more * 2 ^ (i + 1074).toNat = m * 2 ^ (i + 1074).toNat * 2 ^ more := Nat.mul_right_comm _ _ _
      have q3 : m * 2 ^ (i + 1074).toNat * 2 ^ more ≤ 2 ^ k * (n * 2 ^ (p + 1074).toNat) * 2 ^ more := Nat.mul_le_mul_right _ h
      have q4 : 2 ^ k * (n * 2 ^ (p + 1074).toNat) * 2 ^ more = n * 2 ^ (k + (p + 1074).toNat + more) := by
        rw [Nat.pow_add, Nat.pow_add, Nat.mul_left_comm, Nat.mul_assoc]
      rw [q2] at q1
      have q5 : n * (x * 2 ^ (i + 1074).toNat) ≤ n * 2 ^ (k + (p + 1074).toNat + more) := by
        rw [← Nat.mul_assoc, ← q4]; exact Nat.le_trans q1 q3
      exact Nat.le_of_mul_le_mul_left q5 (by omega)
    have hxpos : x ≠ 0 := by
      intro h0
      have hdiv : m * 2 ^ more < n := by
        rw [h0] at hx
        rcases Nat.div_eq_zero_iff.1 hx with h | h
        · exact absurd h hn
        · exact h
      have l1 := log_le hm
      have l2 := log_lt n
      have l3 : m.log2 ≤ 52 := by
        have : m.log2 < 53 := (Nat.log2_lt hm).2 hm53
        omega
      have l4 : 2 ^ (m.log2 + more) ≤ m * 2 ^ more := by rw [Nat.pow_add]; exact Nat.mul_le_mul_right _ l1
      have l5 : 2 ^ (n.log2 + 1) ≤ 2 ^ (m.log2 + more) := Nat.pow_le_pow_right (by omega) (by omega)
      omega
    have hle : (i + 1074).toNat ≤ k + (p + 1074).toNat + more := by
      have : 2 ^ (i + 1074).toNat ≤ 2 ^ (k + (p + 1074).toNat + more) := by
        have := Nat.mul_le_mul_right (2 ^ (i + 1074).toNat) (show 1 ≤ x by omega)
        omega
      exact (Nat.pow_le_pow_iff_right (show 1 < 2 by omega)).1 this
    have hx2 : x ≤ 2 ^ (k + (p + 1074).toNat + more - (i + 1074).toNat) := by
      rw [show k + (p + 1074).toNat + more = (k + (p + 1074).toNat + more - (i + 1074).toNat) + (i + 1074).toNat by omega, Nat.pow_add] at hx1
      exact Nat.le_of_mul_le_mul_right hx1 (pow_pos _)
    refine nearest_bd _ (by omega) (by omega) ?_
    have hb1 : (m * 2 ^ more % n != 0).toNat ≤ 1 := by cases (m * 2 ^ more % n != 0) <;> decide
    generalize hE : k + (p + 1074).toNat + more - (i + 1074).toNat = E at hx2
    have hE2 : (((k + 1 : Nat) : Int) - (i - p - (more : Int) - 1)).toNat = E + 1 + 1 := by omega
    rw [hE2, dbl, dbl]
    have := pow_pos E
    omega
end Go.FT

namespace Go.FT
open Ieee Go.Eng
/-! Rounding keeps the order. -/
theorem re_mono {n m : Nat} (h : n ≤ m) (l : Nat) : re n l ≤ re m l := by
  have hp := pow_pos l
  by_cases e : n / 2 ^ l = m / 2 ^ l
  · have h1 := Nat.div_add_mod n (2 ^ l)
    have h2 := Nat.div_add_mod m (2 ^ l)
    rw [e] at h1
    unfold re
    rw [e]
    generalize hx : n % 2 ^ l = x at *
    generalize hy : m % 2 ^ l = y at *
    generalize hq : m / 2 ^ l = q at *
    generalize 2 ^ l = P at *
    generalize P * q = R at *
    have hxy : x ≤ y := by omega
    by_cases c1 : P < 2 * x ∨ (P = 2 * x ∧ q % 2 = 1)
    · rw [if_pos c1, if_pos (by omega)]; omega
    · rw [if_neg c1]; omega
  · have h1 : n / 2 ^ l ≤ m / 2 ^ l := Nat.div_le_div_right h
    have h2 := re_le n l
    have h3 := le_re m l
    omega
theorem rnd_mono {V W : Nat} (h : V ≤ W) : rnd V ≤ rnd W := by
  by_cases h0 : V = 0
  · subst h0
    have : rnd 0 = 0 := by simp [rnd, re_null]
    omega
  · have hW : W ≠ 0 := by omega
    have a1 := log_le h0
    have a2 := log_lt V
    have b1 := log_le hW
    have b2 := log_lt W
    by_cases e : V.log2 < W.log2
    · have c1 : rnd V ≤ 2 ^ (V.log2 + 1) := rnd_le (Nat.le_of_lt a2)
      have c2 : 2 ^ W.log2 ≤ rnd W := rnd_ge b1
      have c3 : 2 ^ (V.log2 + 1) ≤ 2 ^ W.log2 := Nat.pow_le_pow_right (by omega) (by omega)
      omega
    · have e' : V.log2 = W.log2 := by
        by_cases e2 : W.log2 < V.log2
        · have c3 : 2 ^ (W.log2 + 1) ≤ 2 ^ V.log2 := Nat.pow_le_pow_right (by omega) (by omega)
          omega
        · omega
      have hd : dr V = dr W := by unfold dr; rw [e']
      unfold rnd
      rw [hd]
      exact Nat.mul_le_mul_right _ (re_mono h _)
theorem rn_mono {A B : Int} (h : A ≤ B) : rn A ≤ rn B := by
  unfold rn sgn
  by_cases hA : A < 0
  · by_cases hB : B < 0
    · simp only [hA, hB, decide_true, if_true]
      have := rnd_mono (V := B.natAbs) (W := A.natAbs) (by omega)
      omega
    · simp only [hA, hB, decide_true, decide_false, if_true, Bool.false_eq_true, if_false]
      omega
  · have hB : ¬ B < 0 := by omega
    simp only [hA, hB, decide_false, Bool.false_eq_true, if_false]
    have := rnd_mono (V := A.natAbs) (W := B.natAbs) (by omega)
    omega
theorem rn_fin {a : Nat} {A : Int} (h : Fin a A) : rn A = A := by
  unfold rn
  rw [h.kept.rnd, sgn_abs]
theorem add_ge {a b : Nat} {A B : Int} (ha : Fin a A) (hb : Fin b B) (hB : 0 ≤ B) (hV : (A + B).natAbs.log2 < 2096) : ∃ C, Fin (fadd a b) C ∧ A ≤ C :=
  ⟨_, fin_add ha hb hV, by have := rn_mono (A := A) (B := A + B) (by omega); rw [rn_fin ha] at this; exact this⟩
end Go.FT

namespace Go.FT
open Ieee Go.Eng
theorem fin_word {x : Nat} {Z : Int} (h : Fin x Z) : x % 2 ^ 63 < 2047 * 2 ^ 52 ∧ Z = sgn (x / 2 ^ 63 % 2 == 1) (mant (x % 2 ^ 63) * 2 ^ ex (x % 2 ^ 63)) := by
  obtain ⟨s, m, p, h1, h2, h3, h4⟩ := h
  rw [read_eq] at h1
  generalize (x / 2 ^ 63 % 2 == 1) = neg at h1 ⊢
  generalize x % 2 ^ 63 = r at h1 ⊢
  unfold rd0 at h1
  rw [bin_eq, inf_eq, lp_eq] at h1
  by_cases a : r < 2 ^ 52
  · rw [if_pos a] at h1
    injection h1 with e1 e2 e3
    subst e1 e2 e3
    refine ⟨by omega, ?_⟩
    rw [h3]
    unfold mant ex
    rw [if_pos a, if_pos a]
    rfl
  · rw [if_neg a] at h1
    by_cases b : r < 2047 * 2 ^ 52
    · rw [if_pos b] at h1
      injection h1 with e1 e2 e3
      subst e1 e2 e3
      refine ⟨b, ?_⟩
      rw [h3]
      unfold mant ex
      rw [if_neg a, if_neg a]
      have e : ((-1074 : Int) + ((r / 2 ^ 52 - 1 : Nat) : Int) + 1074).toNat = r / 2 ^ 52 - 1 := by
        generalize r / 2 ^ 52 - 1 = q
        omega
      rw [e]
    · rw [if_neg b] at h1
      split at h1 <;> cases h1
theorem mant_norm {r : Nat} (h : ¬ r < 2 ^ 52) : mant r = 2 ^ 52 + r % 2 ^ 52 ∧ ex r = r / 2 ^ 52 - 1 := by
  unfold mant ex
  rw [if_neg h, if_neg h]
  exact ⟨rfl, rfl⟩
theorem mag_lt {m m' e e' : Nat} (hm : m < 2 ^ 53) (hm' : 2 ^ 52 ≤ m') (he : e < e') : m * 2 ^ e < m' * 2 ^ e' := by
  have h1 : m * 2 ^ e < 2 ^ 53 * 2 ^ e := Nat.mul_lt_mul_of_pos_right hm (pow_pos e)
  have h2 : 2 ^ 53 * 2 ^ e = 2 ^ 52 * 2 ^ (e + 1) := by rw [Nat.pow_succ 2 e]; omega
  have h3 : 2 ^ (e + 1) ≤ 2 ^ e' := Nat.pow_le_pow_right (by omega) he
  have h4 : 2 ^ 52 * 2 ^ (e + 1) ≤ m' * 2 ^ e' := Nat.mul_le_mul hm' h3
  omega
theorem mag_inj {r s : Nat} (h : mant r * 2 ^ ex r = mant s * 2 ^ ex s) : r = s := by
  have small : ∀ {a b : Nat}, a < 2 ^ 52 → ¬ b < 2 ^ 52 → mant a * 2 ^ ex a = mant b * 2 ^ ex b → False := fun {a b} ha hb h => by
    obtain ⟨e1, _⟩ := mant_norm hb
    have h1 : mant a * 2 ^ ex a = a := by unfold mant ex; rw [if_pos ha, if_pos ha]; omega
    have h2 := Nat.le_mul_of_pos_right (mant b) (pow_pos (ex b))
    rw [h1] at h
    omega
  by_cases a : r < 2 ^ 52
  · by_cases b : s < 2 ^ 52
    · have h1 : mant r * 2 ^ ex r = r := by unfold mant ex; rw [if_pos a, if_pos a]; omega
      have h2 : mant s * 2 ^ ex s = s := by unfold mant ex; rw [if_pos b, if_pos b]; omega
      omega
    · exact (small a b h).elim
  · by_cases b : s < 2 ^ 52
    · exact (small b a h.symm).elim
    · obtain ⟨e1, e2⟩ := mant_norm a
      obtain ⟨e3, e4⟩ := mant_norm b
      have l1 : mant r < 2 ^ 53 := mant_lt r
      have l2 : mant s < 2 ^ 53 := mant_lt s
      have he : ex r = ex s := by
        rcases Nat.lt_trichotomy (ex r) (ex s) with c | c | c
        · have := mag_lt l1 (show 2 ^ 52 ≤ mant s by omega) c; omega
        · exact c
        · have := mag_lt l2 (show 2 ^ 52 ≤ mant r by omega) c; omega
      rw [he] at h
      have hm := Nat.eq_of_mul_eq_mul_right (pow_pos (ex s)) h
      omega
theorem fin_inj {x y : Nat} {Z : Int} (hx : Fin x Z) (hy : Fin y Z) (bx : x < 2 ^ 64) (by' : y < 2 ^ 64) (hZ : Z ≠ 0) : x = y := by
  obtain ⟨_, e1⟩ := fin_word hx
  obtain ⟨_, e2⟩ := fin_word hy
  have hm : mant (x % 2 ^ 63) * 2 ^ ex (x % 2 ^ 63) = mant (y % 2 ^ 63) * 2 ^ ex (y % 2 ^ 63) := by
    have a := sgn_natAbs (x / 2 ^ 63 % 2 == 1) (mant (x % 2 ^ 63) * 2 ^ ex (x % 2 ^ 63))
    have b := sgn_natAbs (y / 2 ^ 63 % 2 == 1) (mant (y % 2 ^ 63) * 2 ^ ex (y % 2 ^ 63))
    rw [← e1] at a
    rw [← e2] at b
    exact a.symm.trans b
  have hr := mag_inj hm
  rw [hm] at e1
  generalize mant (y % 2 ^ 63) * 2 ^ ex (y % 2 ^ 63) = V at e1 e2
  have hs : (x / 2 ^ 63 % 2 == 1) = (y / 2 ^ 63 % 2 == 1) := by
    rw [e1] at e2
    unfold sgn at e1 e2
    cases h1 : (x / 2 ^ 63 % 2 == 1) <;> cases h2 : (y / 2 ^ 63 % 2 == 1) <;> rw [h1] at e1 e2 <;> rw [h2] at e2 <;> simp at e1 e2 <;> first | rfl | omega
  have h1 : (x / 2 ^ 63 % 2 = 1) ↔ (y / 2 ^ 63 % 2 = 1) := by
    rw [Bool.eq_iff_iff, beq_iff_eq, beq_iff_eq] at hs
    exact hs
  omega
theorem fin_zero_word {x : Nat} (h : Fin x 0) (bx : x < 2 ^ 64) : x = 0 ∨ x = 2 ^ 63 := by
  obtain ⟨_, e1⟩ := fin_word h
  have a := sgn_natAbs (x / 2 ^ 63 % 2 == 1) (mant (x % 2 ^ 63) * 2 ^ ex (x % 2 ^ 63))
  rw [← e1] at a
  have h0 : mant (x % 2 ^ 63) * 2 ^ ex (x % 2 ^ 63) = mant 0 * 2 ^ ex 0 := by
    rw [← a]; rfl
  have := mag_inj h0
  omega
end Go.FT

namespace Go.FT
open Ieee Go.Eng
/-! ### errors of rounding -/
theorem pow_dr {V : Nat} (h : V ≠ 0) (hd : dr V ≠ 0) : 2 ^ dr V * 2 ^ 52 ≤ V := by
  have h1 := dr_pos hd
  have h2 := log_le h
  rw [h1, Nat.pow_add] at h2
  exact h2
theorem rnd_hi (V : Nat) : rnd V * 2 ^ 52 ≤ V * (2 ^ 52 + 1) := by
  by_cases h : V = 0
  · subst h; unfold rnd; rw [re_null]; omega
  by_cases hd : dr V = 0
  · unfold rnd; rw [hd, re_zero]; omega
  · have h1 := pow_dr h hd
    have h2 := re_le V (dr V)
    have h3 := Nat.div_mul_le_self V (2 ^ dr V)
    have h4 : rnd V ≤ (V / 2 ^ dr V + 1) * 2 ^ dr V := Nat.mul_le_mul_right _ h2
    rw [Nat.add_mul, Nat.one_mul] at h4
    have h5 : rnd V ≤ V + 2 ^ dr V := by omega
    have h6 := Nat.mul_le_mul_right (2 ^ 52) h5
    rw [Nat.add_mul] at h6
    rw [Nat.mul_add, Nat.mul_one]
    exact Nat.le_trans h6 (Nat.add_le_add_left h1 _)
theorem rnd_lo (V : Nat) : V * 2 ^ 52 ≤ rnd V * 2 ^ 52 + V := by
  by_cases h : V = 0
  · subst h; omega
  by_cases hd : dr V = 0
  · unfold rnd; rw [hd, re_zero]; omega
  · have h1 := pow_dr h hd
    have h2 := le_re V (dr V)
    have h3 := Nat.div_add_mod' V (2 ^ dr V)
    have h4 := Nat.mod_lt V (pow_pos (dr V))
    have h5 : V / 2 ^ dr V * 2 ^ dr V ≤ rnd V := Nat.mul_le_mul_right _ h2
    have h6 : V ≤ rnd V + 2 ^ dr V := by omega
    have h7 := Nat.mul_le_mul_right (2 ^ 52) h6
    rw [Nat.add_mul] at h7
    exact Nat.le_trans h7 (Nat.add_le_add_left h1 _)
theorem sgn_zero (s : Bool) : sgn s 0 = 0 := by cases s <;> rfl
theorem sgn_dist (s : Bool) (a b c : Nat) : (sgn s a * (c : Int) - sgn s b).natAbs = ((a * c : Nat) : Int).natAbs - b + (b - a * c) := by
  unfold sgn
  cases s with
  | true =>
    simp only [if_true]
    rw [Int.neg_mul, ← Int.natCast_mul]
    generalize a * c = q
    omega
  | false =>
    simp only [Bool.false_eq_true, if_false]
    rw [← Int.natCast_mul]
    generalize a * c = q
    omega
/-- The exponent of a number that is neither too small nor too great. -/
theorem place_of {m A : Nat} {i : Int} {j k : Nat} (hi : -1074 ≤ i) (hm : m < 2 ^ 53) (hA : A = m * 2 ^ (i + 1074).toNat) (h0 : A ≠ 0) (hlo : DD ≤ A * 2 ^ j) (hhi : A ≤ 2 ^ k * DD) : -(j : Int) - 53 ≤ i ∧ i ≤ (k : Int) ∧ m ≠ 0 := by
  have hm0 : m ≠ 0 := by rintro rfl; rw [Nat.zero_mul] at hA; exact h0 hA
  have h1 := size_of hi hm0 (by rw [← hA]; exact hhi)
  refine ⟨?_, h1.1, hm0⟩
  obtain ⟨e, he⟩ : ∃ e : Nat, e = 1074 := ⟨_, rfl⟩
  rw [DD_pow he] at hlo
  have h2 : 2 ^ e < 2 ^ (53 + (i + 1074).toNat + j) := by
    refine Nat.lt_of_le_of_lt hlo ?_
    rw [hA, Nat.pow_add, Nat.pow_add]
    exact Nat.mul_lt_mul_of_pos_right (Nat.mul_lt_mul_of_pos_right hm (pow_pos _)) (pow_pos _)
  have h3 := (Nat.pow_lt_pow_iff_right (show 1 < 2 by omega)).1 h2
  omega
/-- What a product is, but for rounding: T is a whole number. -/
theorem mul_err {a b : Nat} {A T : Nat} {s : Bool} (ha : Fin a (sgn s A)) (hb : Fin b ((T : Int) * (DD : Int))) (hT : 1 ≤ T ∧ T ≤ 2 ^ 40) (hA : A = 0 ∨ (DD ≤ A * 2 ^ 60 ∧ A ≤ 2 ^ 100 * DD)) :
    ∃ Y : Nat, Fin (fmul a b) (sgn s Y) ∧ Y * 2 ^ 52 ≤ A * T * (2 ^ 52 + 1) ∧ A * T * 2 ^ 52 ≤ Y * 2 ^ 52 + A * T := by
  obtain ⟨s', m, i, h1, h2, h3, h4⟩ := ha
  obtain ⟨t, n, p, k1, k2, k3, k4⟩ := hb
  have hB : n * 2 ^ (p + 1074).toNat = T * DD ∧ t = false := by
    have e1 := congrArg Int.natAbs k3
    rw [sgn_natAbs, scale_abs] at e1
    refine ⟨by simpa using e1.symm, ?_⟩
    cases t with
    | false => rfl
    | true =>
      exfalso
      unfold sgn at k3
      simp only [if_true] at k3
      have hD := DD_pos
      have : (0 : Int) < (T : Int) * (DD : Int) := Int.mul_pos (by omega) (by omega)
      omega
  obtain ⟨hB, rfl⟩ := hB
  have hAm : A = m * 2 ^ (i + 1074).toNat := by
    have := congrArg Int.natAbs h3
    rwa [sgn_natAbs, sgn_natAbs] at this
  have e : fmul a b = fcan (some (double.nearest (s' ^^ false) (m * n) (i + p))) := by
    unfold fmul Format.mul
    rw [h1, k1]; rfl
  rw [Bool.xor_false] at e
  by_cases h0 : A = 0
  · have hm : m = 0 := by
      rw [h0] at hAm
      rcases Nat.mul_eq_zero.1 hAm.symm with h | h
      · exact h
      · have := pow_pos (i + 1074).toNat; omega
    subst hm
    refine ⟨0, ?_, by omega, by rw [h0]; omega⟩
    have e0 : double.nearest s' (0 * n) (i + p) = double.word s' 0 := by rw [Nat.zero_mul]; unfold Format.nearest; rw [if_pos rfl]
    have hf : Fin (double.word s' 0) 0 := ⟨s', _, _, read_word s' (by decide), by omega, by simp [mant, sgn_zero], mant_lt _⟩
    rw [e, e0, sgn_zero, fcan_fin hf]
    exact hf
  · obtain ⟨hlo, hhi⟩ := hA.resolve_left h0
    obtain ⟨q1, q2, q3⟩ := place_of h2 h4 hAm h0 hlo hhi
    have hD := DD_pos
    have hT0 : T * DD ≠ 0 := Nat.mul_ne_zero (by omega) (by omega)
    obtain ⟨r1, r2, r3⟩ := place_of (j := 0) (k := 40) k2 k4 hB.symm hT0 (by have := Nat.mul_le_mul_right DD hT.1; omega) (Nat.mul_le_mul_right _ hT.2)
    have hs : s' = s := by
      rw [hAm] at h3
      have hA' : m * 2 ^ (i + 1074).toNat ≠ 0 := by rw [← hAm]; exact h0
      unfold sgn at h3
      generalize m * 2 ^ (i + 1074).toNat = V at h3 hA'
      cases s <;> cases s' <;> simp at h3 <;> first | rfl | omega
    subst hs
    have hV : m * n * 2 ^ (i + p + 1074).toNat = A * T := by
      obtain ⟨d, hd⟩ : ∃ d : Nat, d = 1074 := ⟨_, rfl⟩
      have e1 : m * n * 2 ^ (i + p + 1074).toNat * 2 ^ d = A * T * 2 ^ d := by
        have e2 : A * (n * 2 ^ (p + 1074).toNat) = A * T * 2 ^ d := by rw [hB, DD_pow hd, Nat.mul_assoc]
        rw [← e2, hAm]
        have e3 : (i + p + 1074).toNat + d = (i + 1074).toNat + (p + 1074).toNat := by omega
        rw [Nat.mul_assoc, ← Nat.pow_add, e3, Nat.pow_add]
        simp only [Nat.mul_assoc, Nat.mul_left_comm, Nat.mul_comm]
      exact Nat.eq_of_mul_eq_mul_right (pow_pos d) e1
    have hlog : (m * n * 2 ^ (i + p + 1074).toNat).log2 < 2096 := by
      rw [hV]
      refine log_bd (k := 140) ?_ (by omega)
      have e2 : 2 ^ 100 * DD * 2 ^ 40 = 2 ^ 140 * DD := by rw [Nat.mul_right_comm, ← Nat.pow_add]
      rw [← e2]
      exact Nat.mul_le_mul hhi hT.2
    have hf := fin_nearest s' (mag := m * n) (place := i + p) (by omega) hlog
    rw [hV] at hf
    refine ⟨rnd (A * T), ?_, rnd_hi _, rnd_lo _⟩
    rw [e, fcan_fin hf]
    exact hf
end Go.FT

namespace Go.FT
open Ieee Go.Eng
theorem p50 : (2 : Nat) ^ 50 = 1125899906842624 := by decide
theorem p52 : (2 : Nat) ^ 52 = 4503599627370496 := by decide
theorem p54 : (2 : Nat) ^ 54 = 18014398509481984 := by decide
/-- Of a quotient by a whole number: what is left over is small. -/
theorem div_lin {a e A y : Nat} (h1 : y * 4503599627370496 ≤ a * 4503599627370496 + a) (h2 : a * 4503599627370496 ≤ y * 4503599627370496 + a) (h3 : e * 18014398509481984 ≤ a) (h4 : a ≤ A + e) (h5 : A ≤ a + e) :
    y * 1125899906842624 ≤ A * 1125899906842624 + A ∧ A * 1125899906842624 ≤ y * 1125899906842624 + A := by omega
theorem mul_form {T x y c : Nat} (h : x * c ≤ y * c + y) : T * x * c ≤ T * y * c + T * y := by
  have := Nat.mul_le_mul_left T h
  rw [Nat.mul_add, ← Nat.mul_assoc, ← Nat.mul_assoc] at this
  exact this
theorem mul_form2 {T x y c : Nat} (h : y * c ≤ x * c + y) : T * y * c ≤ T * x * c + T * y := by
  have := Nat.mul_le_mul_left T h
  rw [Nat.mul_add, ← Nat.mul_assoc, ← Nat.mul_assoc] at this
  exact this
theorem div_err {a b : Nat} {A T : Nat} {s : Bool} (ha : Fin a (sgn s A)) (hb : Fin b ((T : Int) * (DD : Int))) (hT : 1 ≤ T ∧ T ≤ 2 ^ 40) (hA : A = 0 ∨ (DD ≤ A * 2 ^ 60 ∧ A ≤ 2 ^ 100 * DD)) :
    ∃ Y : Nat, Fin (fdiv a b) (sgn s Y) ∧ T * Y * 1125899906842624 ≤ A * 1125899906842624 + A ∧ A * 1125899906842624 ≤ T * Y * 1125899906842624 + A := by
  obtain ⟨s', m, i, h1, h2, h3, h4⟩ := ha
  obtain ⟨t, n, p, k1, k2, k3, k4⟩ := hb
  have hB : n * 2 ^ (p + 1074).toNat = T * DD ∧ t = false := by
    have e1 := congrArg Int.natAbs k3
    rw [sgn_natAbs, scale_abs] at e1
    refine ⟨by simpa using e1.symm, ?_⟩
    cases t with
    | false => rfl
    | true =>
      exfalso
      unfold sgn at k3
      simp only [if_true] at k3
      have hD := DD_pos
      have : (0 : Int) < (T : Int) * (DD : Int) := Int.mul_pos (by omega) (by omega)
      omega
  obtain ⟨hB, rfl⟩ := hB
  have hAm : A = m * 2 ^ (i + 1074).toNat := by
    have := congrArg Int.natAbs h3
    rwa [sgn_natAbs, sgn_natAbs] at this
  have hD := DD_pos
  have hT0 : T * DD ≠ 0 := Nat.mul_ne_zero (by omega) (by omega)
  have hn : n ≠ 0 := by
    rintro rfl
    rw [Nat.zero_mul] at hB
    exact hT0 hB.symm
  have e : fdiv a b = fcan (some (double.nearest s' (2 * ((m <<< (54 + n.log2 - m.log2)) / n) + ((m <<< (54 + n.log2 - m.log2)) % n != 0).toNat) (i - p - ((54 + n.log2 - m.log2 : Nat) : Int) - 1))) := by
    have e0 : fdiv a b = fcan (some (double.nearest (s' ^^ false) (2 * ((m <<< (54 + n.log2 - m.log2)) / n) + ((m <<< (54 + n.log2 - m.log2)) % n != 0).toNat) (i - p - ((54 + n.log2 - m.log2 : Nat) : Int) - 1))) := by
      unfold fdiv Format.div
      rw [h1, k1]
      simp only [Datum.quotient, if_neg hn]
      rfl
    rw [Bool.xor_false] at e0
    exact e0
  by_cases h0 : A = 0
  · have hm : m = 0 := by
      rw [h0] at hAm
      rcases Nat.mul_eq_zero.1 hAm.symm with h | h
      · exact h
      · have := pow_pos (i + 1074).toNat; omega
    subst hm
    refine ⟨0, ?_, by rw [Nat.mul_zero, Nat.zero_mul]; exact Nat.zero_le _, by rw [h0, Nat.zero_mul]; exact Nat.zero_le _⟩
    have e0 : ∀ place, double.nearest s' (2 * ((0 <<< (54 + n.log2 - Nat.log2 0)) / n) + ((0 <<< (54 + n.log2 - Nat.log2 0)) % n != 0).toNat) place = double.word s' 0 := fun place => by
      have e1 : 2 * ((0 <<< (54 + n.log2 - Nat.log2 0)) / n) + ((0 <<< (54 + n.log2 - Nat.log2 0)) % n != 0).toNat = 0 := by simp
      rw [e1]; unfold Format.nearest; rw [if_pos rfl]
    have hf : Fin (double.word s' 0) 0 := ⟨s', _, _, read_word s' (by decide), by omega, by simp [mant, sgn_zero], mant_lt _⟩
    rw [e, e0, sgn_zero, fcan_fin hf]
    exact hf
  · obtain ⟨hlo, hhi⟩ := hA.resolve_left h0
    obtain ⟨q1, q2, hm0⟩ := place_of h2 h4 hAm h0 hlo hhi
    obtain ⟨r1, r2, r3⟩ := place_of (j := 0) (k := 40) k2 k4 hB.symm hT0 (by have := Nat.mul_le_mul_right DD hT.1; omega) (Nat.mul_le_mul_right _ hT.2)
    have hs : s' = s := by
      rw [hAm] at h3
      have hA' : m * 2 ^ (i + 1074).toNat ≠ 0 := by rw [← hAm]; exact h0
      unfold sgn at h3
      generalize m * 2 ^ (i + 1074).toNat = V at h3 hA'
      cases s <;> cases s' <;> simp at h3 <;> first | rfl | omega
    subst hs
    have lm : m.log2 ≤ 52 := by
      have : m.log2 < 53 := (Nat.log2_lt hm0).2 h4
      omega
    have ln : n.log2 ≤ 52 := by
      have : n.log2 < 53 := (Nat.log2_lt hn).2 k4
      omega
    have l1 := log_le hm0
    have l2 := log_lt n
    generalize hmore : 54 + n.log2 - m.log2 = more at e
    rw [Nat.shiftLeft_eq] at e
    have hx := Nat.div_add_mod (m * 2 ^ more) n
    have hmod := Nat.mod_lt (m * 2 ^ more) (show 0 < n by omega)
    have hxlo : 2 ^ 53 ≤ m * 2 ^ more / n := by
      rw [Nat.le_div_iff_mul_le (by omega)]
      have a1 : 2 ^ 53 * n ≤ 2 ^ 53 * 2 ^ (n.log2 + 1) := Nat.mul_le_mul_left _ (Nat.le_of_lt l2)
      have a2 : 2 ^ 53 * 2 ^ (n.log2 + 1) = 2 ^ (m.log2 + more) := by rw [← Nat.pow_add]; congr 1; omega
      have a3 : 2 ^ (m.log2 + more) ≤ m * 2 ^ more := by rw [Nat.pow_add]; exact Nat.mul_le_mul_right _ l1
      exact Nat.le_trans a1 (by rw [a2]; exact a3)
    generalize hxx : m * 2 ^ more / n = x at e hx hxlo
    generalize hrr : m * 2 ^ more % n = r at e hx hmod
    generalize hq : 2 * x + (r != 0).toNat = q at e
    have hst : (r != 0).toNat ≤ 1 ∧ ((r != 0).toNat = 0 → r = 0) := by
      by_cases hr0 : r = 0
      · subst hr0; exact ⟨by decide, fun _ => rfl⟩
      · have : (r != 0) = true := by simp [hr0]
        rw [this]; exact ⟨by decide, fun h => by cases h⟩
    have hnq1 : n * q ≤ 2 * (m * 2 ^ more) + n := by
      have c1 : n * q = 2 * (n * x) + n * (r != 0).toNat := by rw [← hq, Nat.mul_add, Nat.mul_left_comm]
      have c2 : n * (r != 0).toNat ≤ n * 1 := Nat.mul_le_mul_left _ hst.1
      omega
    have hnq2 : 2 * (m * 2 ^ more) ≤ n * q + n := by
      have c1 : n * q = 2 * (n * x) + n * (r != 0).toNat := by rw [← hq, Nat.mul_add, Nat.mul_left_comm]
      by_cases hz : (r != 0).toNat = 0
      · have := hst.2 hz
        rw [hz, Nat.mul_zero] at c1
        omega
      · have : (r != 0).toNat = 1 := by omega
        rw [this, Nat.mul_one] at c1
        omega
    have hq54 : 18014398509481984 ≤ q := by
      have : (2 : Nat) ^ 53 = 9007199254740992 := by decide
      omega
    clear hnq1 hnq2
    have hnq1 : n * q ≤ 2 * (m * 2 ^ more) + n := by
      have c1 : n * q = 2 * (n * x) + n * (r != 0).toNat := by rw [← hq, Nat.mul_add, Nat.mul_left_comm]
      have c2 : n * (r != 0).toNat ≤ n * 1 := Nat.mul_le_mul_left _ hst.1
      omega
    have hnq2 : 2 * (m * 2 ^ more) ≤ n * q + n := by
      have c1 : n * q = 2 * (n * x) + n * (r != 0).toNat := by rw [← hq, Nat.mul_add, Nat.mul_left_comm]
      by_cases hz : (r != 0).toNat = 0
      · have := hst.2 hz
        rw [hz, Nat.mul_zero] at c1
        omega
      · have : (r != 0).toNat = 1 := by omega
        rw [this, Nat.mul_one] at c1
        omega
    generalize hpl : i - p - (more : Int) - 1 = place at e
    have hpl0 : -1074 ≤ place := by omega
    generalize hu : 2 ^ (place + 1074).toNat = u
    have hupos : 0 < u := by rw [← hu]; exact pow_pos _
    -- all by the smallest part
    obtain ⟨d, hd⟩ : ∃ d : Nat, d = 1074 := ⟨_, rfl⟩
    generalize hg : 2 ^ (p + 1074).toNat = g at hB
    have hgpos : 0 < g := by rw [← hg]; exact pow_pos _
    have hAD : A * DD = 2 * (m * 2 ^ more) * (g * u) := by
      rw [DD_pow hd, hAm, ← hg, ← hu, Nat.mul_assoc, ← Nat.pow_add]
      have c1 : (i + 1074).toNat + d = 1 + more + ((p + 1074).toNat + (place + 1074).toNat) := by omega
      rw [c1, Nat.pow_add, Nat.pow_add, Nat.pow_add]
      simp only [Nat.pow_one, Nat.mul_assoc, Nat.mul_left_comm, Nat.mul_comm]
    have hTW : T * (q * u) * DD = n * q * (g * u) := by
      have : T * (q * u) * DD = T * DD * (q * u) := by simp only [Nat.mul_assoc, Nat.mul_left_comm, Nat.mul_comm]
      rw [this, ← hB]
      simp only [Nat.mul_assoc, Nat.mul_left_comm, Nat.mul_comm]
    have hTu : T * u * DD = n * (g * u) := by
      have : T * u * DD = T * DD * u := by simp only [Nat.mul_assoc, Nat.mul_left_comm, Nat.mul_comm]
      rw [this, ← hB]
      simp only [Nat.mul_assoc, Nat.mul_left_comm, Nat.mul_comm]
    have b1 : T * (q * u) ≤ A + T * u := by
      have := Nat.mul_le_mul_right (g * u) hnq1
      rw [Nat.add_mul, ← hTW, ← hAD, ← hTu, ← Nat.add_mul] at this
      exact Nat.le_of_mul_le_mul_right this hD
    have b2 : A ≤ T * (q * u) + T * u := by
      have := Nat.mul_le_mul_right (g * u) hnq2
      rw [Nat.add_mul, ← hTW, ← hAD, ← hTu, ← Nat.add_mul] at this
      exact Nat.le_of_mul_le_mul_right this hD
    have b3 : T * u * 18014398509481984 ≤ T * (q * u) := by
      have := Nat.mul_le_mul_left T (Nat.mul_le_mul_right u hq54)
      rw [Nat.mul_comm 18014398509481984 u, ← Nat.mul_assoc] at this
      exact this
    have hW : (q * 2 ^ (place + 1074).toNat).log2 < 2096 := by
      rw [hu]
      refine log_bd (k := 102) ?_ (by omega)
      have c1 : q * u ≤ T * (q * u) := by have := Nat.mul_le_mul_right (q * u) hT.1; omega
      have c2 : T * (q * u) ≤ 2 * A := by omega
      have c3 : 2 * A ≤ 2 * (2 ^ 100 * DD) := Nat.mul_le_mul_left _ hhi
      have c4 : 2 * (2 ^ 100 * DD) ≤ 2 ^ 102 * DD := by rw [← Nat.mul_assoc]; exact Nat.mul_le_mul_right _ (by decide)
      exact Nat.le_trans c1 (Nat.le_trans c2 (Nat.le_trans c3 c4))
    have hf := fin_nearest s' (mag := q) (place := place) hpl0 hW
    rw [hu] at hf
    have w1 := rnd_hi (q * u)
    have w2 := rnd_lo (q * u)
    rw [p52, Nat.mul_add, Nat.mul_one] at w1
    rw [p52] at w2
    have hres := div_lin (a := T * (q * u)) (e := T * u) (A := A) (y := T * rnd (q * u)) (mul_form w1) (mul_form2 w2) b3 b1 b2
    refine ⟨rnd (q * u), ?_, hres⟩
    rw [e, fcan_fin hf]
    exact hf
/-- The nearest whole number of what lies close to one. -/
theorem near_close {Y m : Int} (h : 2 * (Y - m * (DD : Int)).natAbs < DD) : nearV Y = m := by
  have hD := DD_pos
  have hH : DD = 2 * HH := DD_eq
  have key : ∀ N M : Nat, N < M * DD + HH → M * DD < N + HH → rne N = M := fun N M h1 h2 => by
    rw [rne_eq]
    by_cases c : M * DD ≤ N
    · have e1 : N / DD = M := by
        refine Nat.div_eq_of_lt_le c ?_
        rw [Nat.add_mul, Nat.one_mul]; omega
      have e2 := Nat.div_add_mod' N DD
      rw [e1] at e2
      rw [e1, if_neg (by omega)]; omega
    · obtain ⟨K, rfl⟩ : ∃ K, M = K + 1 := by
        cases M with
        | zero => rw [Nat.zero_mul] at c; omega
        | succ K => exact ⟨K, rfl⟩
      rw [Nat.add_mul, Nat.one_mul] at c h1 h2
      have e1 : N / DD = K := by
        refine Nat.div_eq_of_lt_le (by omega) ?_
        rw [Nat.add_mul, Nat.one_mul]; omega
      have e2 := Nat.div_add_mod' N DD
      rw [e1] at e2
      rw [e1, if_pos (.inl (by omega))]
  unfold nearV
  rcases Int.lt_trichotomy m 0 with hm | hm | hm
  · obtain ⟨M, rfl⟩ : ∃ M : Nat, m = -((M : Int) + 1) := ⟨(-m - 1).toNat, by omega⟩
    have e0 : -((M : Int) + 1) * (DD : Int) = -(((M + 1) * DD : Nat) : Int) := by rw [Int.neg_mul, Int.natCast_mul]; congr 1
    rw [e0] at h
    have hM : DD ≤ (M + 1) * DD := by rw [Nat.add_mul, Nat.one_mul]; omega
    generalize hQ : (M + 1) * DD = q at h hM
    have hY : Y < 0 := by omega
    rw [decide_eq_true hY, key Y.natAbs (M + 1) (by omega) (by omega)]
    unfold sgn; simp only [if_true]; omega
  · subst hm
    rw [Int.zero_mul] at h
    rw [key Y.natAbs 0 (by omega) (by omega)]
    exact sgn_zero _
  · obtain ⟨M, rfl⟩ : ∃ M : Nat, m = ((M : Int) + 1) := ⟨(m - 1).toNat, by omega⟩
    have e0 : ((M : Int) + 1) * (DD : Int) = (((M + 1) * DD : Nat) : Int) := by rw [Int.natCast_mul]; congr 1
    rw [e0] at h
    have hM : DD ≤ (M + 1) * DD := by rw [Nat.add_mul, Nat.one_mul]; omega
    generalize hQ : (M + 1) * DD = q at h hM
    have hY : ¬ Y < 0 := by omega
    rw [decide_eq_false hY, key Y.natAbs (M + 1) (by omega) (by omega)]
    unfold sgn; simp only [Bool.false_eq_true, if_false]; omega
end Go.FT

namespace Go.FT
open Ieee Go.Eng
theorem fin_int {m : Int} (h : m.natAbs < 2 ^ 53) : Fin (fofi m) (sgn (decide (m < 0)) (m.natAbs * DD)) := by
  have h1 := fin_of h
  have : sgn (decide (m < 0)) (m.natAbs * DD) = m * (DD : Int) := by
    rw [sgn_mul, sgn_abs]
  rw [this]; exact h1
theorem linA {v A Y D : Nat} (h1 : v * 1125899906842624 ≤ A * 1125899906842624 + A) (h2 : A * 1125899906842624 ≤ v * 1125899906842624 + A) (h3 : Y * 4503599627370496 ≤ v * 4503599627370496 + v) (h4 : v * 4503599627370496 ≤ Y * 4503599627370496 + v) (hA : A ≤ 17179869184 * D) (hD : 0 < D) :
    2 * Y < 2 * A + D ∧ 2 * A < 2 * Y + D ∧ Y ≤ 34359738368 * D := by omega
theorem linB {X a y : Nat} (h1 : X * 4503599627370496 ≤ a * 4503599627370496 + a) (h2 : a * 4503599627370496 ≤ X * 4503599627370496 + a) (h3 : y * 1125899906842624 ≤ X * 1125899906842624 + X) (h4 : X * 1125899906842624 ≤ y * 1125899906842624 + X) :
    y * 281474976710656 ≤ a * 281474976710656 + a ∧ a * 281474976710656 ≤ y * 281474976710656 + a := by omega
theorem linC {A Y D : Nat} (h1 : Y * 281474976710656 ≤ A * 281474976710656 + A) (h2 : A * 281474976710656 ≤ Y * 281474976710656 + A) (hA : A ≤ 17179869184 * D) (hD : 0 < D) :
    2 * Y < 2 * A + D ∧ 2 * A < 2 * Y + D ∧ Y ≤ 34359738368 * D := by omega
theorem lowA {v A X D : Nat} (h2 : A * 1125899906842624 ≤ v * 1125899906842624 + A) (hv : v ≤ 17179869184 * X) (hD : D ≤ A) : D ≤ X * 1152921504606846976 := by omega
theorem lowB {X a D : Nat} (h2 : a * 4503599627370496 ≤ X * 4503599627370496 + a) (hD : D ≤ a) : D ≤ X * 1152921504606846976 := by omega
theorem p60 : (2 : Nat) ^ 60 = 1152921504606846976 := by decide
theorem dist_of {Y : Nat} {m : Int} (h1 : 2 * Y < 2 * (m.natAbs * DD) + DD) (h2 : 2 * (m.natAbs * DD) < 2 * Y + DD) : nearV (sgn (decide (m < 0)) Y) = m := by
  refine near_close ?_
  have e : m * (DD : Int) = sgn (decide (m < 0)) (m.natAbs * DD) := by rw [sgn_mul, sgn_abs]
  rw [e]
  generalize m.natAbs * DD = q at h1 h2
  unfold sgn
  cases decide (m < 0) <;> simp only [if_true, Bool.false_eq_true, if_false] <;> omega
theorem up_bound {A T : Nat} {k j : Nat} (hA : A ≤ 2 ^ k * DD) (hT : T ≤ 2 ^ j) : A * T ≤ 2 ^ (k + j) * DD := by
  have := Nat.mul_le_mul hA hT
  have e2 : 2 ^ k * DD * 2 ^ j = 2 ^ (k + j) * DD := by rw [Nat.mul_right_comm, ← Nat.pow_add]
  rw [← e2]; exact this
theorem unform {T y A c : Nat} (hT : 0 < T) (h : T * y * c ≤ A * T * c + A * T) : y * c ≤ A * c + A := by
  refine Nat.le_of_mul_le_mul_left (c := T) ?_ hT
  rw [Nat.mul_add, ← Nat.mul_assoc, ← Nat.mul_assoc, Nat.mul_comm T A]
  exact h
theorem unform2 {T y A c : Nat} (hT : 0 < T) (h : A * T * c ≤ T * y * c + A * T) : A * c ≤ y * c + A := by
  refine Nat.le_of_mul_le_mul_left (c := T) ?_ hT
  rw [Nat.mul_add, ← Nat.mul_assoc, ← Nat.mul_assoc, Nat.mul_comm T A]
  exact h
/-- A whole number over a power of ten, and times it, is the number again but for rounding. -/
theorem trip_div {m : Int} {b T : Nat} (hm : m.natAbs ≤ 17179869184) (hb : Fin b ((T : Int) * (DD : Int))) (hT : 1 ≤ T ∧ T ≤ 17179869184) :
    (∃ X, Fin (fdiv (fofi m) b) X) ∧ ∃ Y : Int, Fin (fmul (fdiv (fofi m) b) b) Y ∧ nearV Y = m ∧ Y.natAbs ≤ 34359738368 * DD := by
  have hD := DD_pos
  have p40 : (2 : Nat) ^ 40 = 1099511627776 := by decide
  have hT' : 1 ≤ T ∧ T ≤ 2 ^ 40 := ⟨hT.1, by rw [p40]; omega⟩
  have hA34 : m.natAbs * DD ≤ 2 ^ 34 * DD := Nat.mul_le_mul_right _ (by have : (2 : Nat) ^ 34 = 17179869184 := by decide
                                                                        omega)
  have ha : Fin (fofi m) (sgn (decide (m < 0)) (m.natAbs * DD)) := fin_int (by have : (2 : Nat) ^ 53 = 9007199254740992 := by decide
                                                                               omega)
  have hcase : m.natAbs * DD = 0 ∨ (DD ≤ m.natAbs * DD * 2 ^ 60 ∧ m.natAbs * DD ≤ 2 ^ 100 * DD) := by
    by_cases h0 : m.natAbs = 0
    · left; rw [h0, Nat.zero_mul]
    · right
      refine ⟨?_, Nat.le_trans hA34 (Nat.mul_le_mul_right _ (by decide))⟩
      have h1 : DD ≤ m.natAbs * DD := Nat.le_mul_of_pos_left _ (by omega)
      exact Nat.le_trans h1 (Nat.le_mul_of_pos_right _ (pow_pos 60))
  obtain ⟨X, hX, x1, x2⟩ := div_err ha hb hT' hcase
  have hTX : T * X ≤ 17179869184 * X := Nat.mul_le_mul_right _ hT.2
  have hcase2 : X = 0 ∨ (DD ≤ X * 2 ^ 60 ∧ X ≤ 2 ^ 100 * DD) := by
    by_cases h0 : X = 0
    · exact .inl h0
    · right
      have hmne : m.natAbs ≠ 0 := by
        intro hc
        rw [hc, Nat.zero_mul] at x1
        have : 0 < T * X := Nat.mul_pos (by omega) (by omega)
        omega
      have h1 : DD ≤ m.natAbs * DD := Nat.le_mul_of_pos_left _ (by omega)
      refine ⟨by rw [p60]; exact lowA x2 hTX h1, ?_⟩
      have h2 : X ≤ T * X := Nat.le_mul_of_pos_left _ (by omega)
      have h3 : T * X ≤ 2 * (m.natAbs * DD) := by omega
      have h4 : 2 * (m.natAbs * DD) ≤ 2 * (2 ^ 34 * DD) := Nat.mul_le_mul_left _ hA34
      have h5 : 2 * (2 ^ 34 * DD) ≤ 2 ^ 100 * DD := by rw [← Nat.mul_assoc]; exact Nat.mul_le_mul_right _ (by decide)
      exact Nat.le_trans h2 (Nat.le_trans h3 (Nat.le_trans h4 h5))
  obtain ⟨Y, hY, y1, y2⟩ := mul_err hX hb hT' hcase2
  rw [p52, Nat.mul_add, Nat.mul_one, Nat.mul_comm X T] at y1
  rw [p52, Nat.mul_comm X T] at y2
  have hA' : m.natAbs * DD ≤ 17179869184 * DD := Nat.mul_le_mul_right _ hm
  obtain ⟨r1, r2, r3⟩ := linA x1 x2 y1 y2 hA' hD
  exact ⟨⟨_, hX⟩, _, hY, dist_of r1 r2, by rw [sgn_natAbs]; exact r3⟩
theorem trip_mul {m : Int} {b T : Nat} (hm : m.natAbs ≤ 17179869184) (hb : Fin b ((T : Int) * (DD : Int))) (hT : 1 ≤ T ∧ T ≤ 17179869184) :
    (∃ X, Fin (fmul (fofi m) b) X) ∧ ∃ Y : Int, Fin (fdiv (fmul (fofi m) b) b) Y ∧ nearV Y = m ∧ Y.natAbs ≤ 34359738368 * DD := by
  have hD := DD_pos
  have p40 : (2 : Nat) ^ 40 = 1099511627776 := by decide
  have hT' : 1 ≤ T ∧ T ≤ 2 ^ 40 := ⟨hT.1, by rw [p40]; omega⟩
  have hT34 : T ≤ 2 ^ 34 := by have : (2 : Nat) ^ 34 = 17179869184 := by decide
                               omega
  have hA34 : m.natAbs * DD ≤ 2 ^ 34 * DD := Nat.mul_le_mul_right _ (by have : (2 : Nat) ^ 34 = 17179869184 := by decide
                                                                        omega)
  have ha : Fin (fofi m) (sgn (decide (m < 0)) (m.natAbs * DD)) := fin_int (by have : (2 : Nat) ^ 53 = 9007199254740992 := by decide
                                                                               omega)
  have hcase : m.natAbs * DD = 0 ∨ (DD ≤ m.natAbs * DD * 2 ^ 60 ∧ m.natAbs * DD ≤ 2 ^ 100 * DD) := by
    by_cases h0 : m.natAbs = 0
    · left; rw [h0, Nat.zero_mul]
    · right
      refine ⟨?_, Nat.le_trans hA34 (Nat.mul_le_mul_right _ (by decide))⟩
      have h1 : DD ≤ m.natAbs * DD := Nat.le_mul_of_pos_left _ (by omega)
      exact Nat.le_trans h1 (Nat.le_mul_of_pos_right _ (pow_pos 60))
  obtain ⟨X, hX, x1, x2⟩ := mul_err ha hb hT' hcase
  rw [p52, Nat.mul_add, Nat.mul_one] at x1
  rw [p52] at x2
  have hcase2 : X = 0 ∨ (DD ≤ X * 2 ^ 60 ∧ X ≤ 2 ^ 100 * DD) := by
    by_cases h0 : X = 0
    · exact .inl h0
    · right
      have hmne : m.natAbs ≠ 0 := by
        intro hc
        rw [hc, Nat.zero_mul, Nat.zero_mul] at x1
        omega
      have h1 : DD ≤ m.natAbs * DD * T := Nat.le_trans (Nat.le_mul_of_pos_left _ (by omega)) (Nat.le_mul_of_pos_right _ (by omega))
      refine ⟨by rw [p60]; exact lowB x2 h1, ?_⟩
      have h3 : X ≤ 2 * (m.natAbs * DD * T) := by omega
      have h4 : 2 * (m.natAbs * DD * T) ≤ 2 * (2 ^ (34 + 34) * DD) := Nat.mul_le_mul_left _ (up_bound hA34 hT34)
      have h5 : 2 * (2 ^ (34 + 34) * DD) ≤ 2 ^ 100 * DD := by rw [← Nat.mul_assoc]; exact Nat.mul_le_mul_right _ (by decide)
      exact Nat.le_trans h3 (Nat.le_trans h4 h5)
  obtain ⟨Y, hY, y1, y2⟩ := div_err hX hb hT' hcase2
  obtain ⟨z1, z2⟩ := linB x1 x2 y1 y2
  have c1 := unform (by omega) z1
  have c2 := unform2 (by omega) z2
  have hA' : m.natAbs * DD ≤ 17179869184 * DD := Nat.mul_le_mul_right _ hm
  obtain ⟨r1, r2, r3⟩ := linC c1 c2 hA' hD
  exact ⟨⟨_, hX⟩, _, hY, dist_of r1 r2, by rw [sgn_natAbs]; exact r3⟩
end Go.FT

namespace Go.FT
open Ieee Go.Eng
theorem div_lin2 {a e A y : Nat} (h1 : y * 4503599627370496 ≤ a * 4503599627370496 + a) (h2 : a * 4503599627370496 ≤ y * 4503599627370496 + a) (h3 : e * 18014398509481984 ≤ a) (h4 : a ≤ A + e) (h5 : A ≤ a + e) :
    y * 18014398509481984000 ≤ A * 18014398509481984000 + A * 5001 ∧ A * 18014398509481984000 ≤ y * 18014398509481984000 + A * 5001 := by omega
theorem div_err2 {a b : Nat} {A T : Nat} {s : Bool} (ha : Fin a (sgn s A)) (hb : Fin b ((T : Int) * (DD : Int))) (hT : 1 ≤ T ∧ T ≤ 2 ^ 40) (hA : A = 0 ∨ (DD ≤ A * 2 ^ 60 ∧ A ≤ 2 ^ 100 * DD)) :
    ∃ Y : Nat, Fin (fdiv a b) (sgn s Y) ∧ T * Y * 18014398509481984000 ≤ A * 18014398509481984000 + A * 5001 ∧ A * 18014398509481984000 ≤ T * Y * 18014398509481984000 + A * 5001 := by
  obtain ⟨s', m, i, h1, h2, h3, h4⟩ := ha
  obtain ⟨t, n, p, k1, k2, k3, k4⟩ := hb
  have hB : n * 2 ^ (p + 1074).toNat = T * DD ∧ t = false := by
    have e1 := congrArg Int.natAbs k3
    rw [sgn_natAbs, scale_abs] at e1
    refine ⟨by simpa using e1.symm, ?_⟩
    cases t with
    | false => rfl
    | true =>
      exfalso
      unfold sgn at k3
      simp only [if_true] at k3
      have hD := DD_pos
      have : (0 : Int) < (T : Int) * (DD : Int) := Int.mul_pos (by omega) (by omega)
      omega
  obtain ⟨hB, rfl⟩ := hB
  have hAm : A = m * 2 ^ (i + 1074).toNat := by
    have := congrArg Int.natAbs h3
    rwa [sgn_natAbs, sgn_natAbs] at this
  have hD := DD_pos
  have hT0 : T * DD ≠ 0 := Nat.mul_ne_zero (by omega) (by omega)
  have hn : n ≠ 0 := by
    rintro rfl
    rw [Nat.zero_mul] at hB
    exact hT0 hB.symm
  have e : fdiv a b = fcan (some (double.nearest s' (2 * ((m <<< (54 + n.log2 - m.log2)) / n) + ((m <<< (54 + n.log2 - m.log2)) % n != 0).toNat) (i - p - ((54 + n.log2 - m.log2 : Nat) : Int) - 1))) := by
    have e0 : fdiv a b = fcan (some (double.nearest (s' ^^ false) (2 * ((m <<< (54 + n.log2 - m.log2)) / n) + ((m <<< (54 + n.log2 - m.log2)) % n != 0).toNat) (i - p - ((54 + n.log2 - m.log2 : Nat) : Int) - 1))) := by
      unfold fdiv Format.div
      rw [h1, k1]
      simp only [Datum.quotient, if_neg hn]
      rfl
    rw [Bool.xor_false] at e0
    exact e0
  by_cases h0 : A = 0
  · have hm : m = 0 := by
      rw [h0] at hAm
      rcases Nat.mul_eq_zero.1 hAm.symm with h | h
      · exact h
      · have := pow_pos (i + 1074).toNat; omega
    subst hm
    refine ⟨0, ?_, by rw [Nat.mul_zero, Nat.zero_mul]; exact Nat.zero_le _, by rw [h0, Nat.zero_mul]; exact Nat.zero_le _⟩
    have e0 : ∀ place, double.nearest s' (2 * ((0 <<< (54 + n.log2 - Nat.log2 0)) / n) + ((0 <<< (54 + n.log2 - Nat.log2 0)) % n != 0).toNat) place = double.word s' 0 := fun place => by
      have e1 : 2 * ((0 <<< (54 + n.log2 - Nat.log2 0)) / n) + ((0 <<< (54 + n.log2 - Nat.log2 0)) % n != 0).toNat = 0 := by simp
      rw [e1]; unfold Format.nearest; rw [if_pos rfl]
    have hf : Fin (double.word s' 0) 0 := ⟨s', _, _, read_word s' (by decide), by omega, by simp [mant, sgn_zero], mant_lt _⟩
    rw [e, e0, sgn_zero, fcan_fin hf]
    exact hf
  · obtain ⟨hlo, hhi⟩ := hA.resolve_left h0
    obtain ⟨q1, q2, hm0⟩ := place_of h2 h4 hAm h0 hlo hhi
    obtain ⟨r1, r2, r3⟩ := place_of (j := 0) (k := 40) k2 k4 hB.symm hT0 (by have := Nat.mul_le_mul_right DD hT.1; omega) (Nat.mul_le_mul_right _ hT.2)
    have hs : s' = s := by
      rw [hAm] at h3
      have hA' : m * 2 ^ (i + 1074).toNat ≠ 0 := by rw [← hAm]; exact h0
      unfold sgn at h3
      generalize m * 2 ^ (i + 1074).toNat = V at h3 hA'
      cases s <;> cases s' <;> simp at h3 <;> first | rfl | omega
    subst hs
    have lm : m.log2 ≤ 52 := by
      have : m.log2 < 53 := (Nat.log2_lt hm0).2 h4
      omega
    have ln : n.log2 ≤ 52 := by
      have : n.log2 < 53 := (Nat.log2_lt hn).2 k4
      omega
    have l1 := log_le hm0
    have l2 := log_lt n
    generalize hmore : 54 + n.log2 - m.log2 = more at e
    rw [Nat.shiftLeft_eq] at e
    have hx := Nat.div_add_mod (m * 2 ^ more) n
    have hmod := Nat.mod_lt (m * 2 ^ more) (show 0 < n by omega)
    have hxlo : 2 ^ 53 ≤ m * 2 ^ more / n := by
      rw [Nat.le_div_iff_mul_le (by omega)]
      have a1 : 2 ^ 53 * n ≤ 2 ^ 53 * 2 ^ (n.log2 + 1) := Nat.mul_le_mul_left _ (Nat.le_of_lt l2)
      have a2 : 2 ^ 53 * 2 ^ (n.log2 + 1) = 2 ^ (m.log2 + more) := by rw [← Nat.pow_add]; congr 1; omega
      have a3 : 2 ^ (m.log2 + more) ≤ m * 2 ^ more := by rw [Nat.pow_add]; exact Nat.mul_le_mul_right _ l1
      exact Nat.le_trans a1 (by rw [a2]; exact a3)
    generalize hxx : m * 2 ^ more / n = x at e hx hxlo
    generalize hrr : m * 2 ^ more % n = r at e hx hmod
    generalize hq : 2 * x + (r != 0).toNat = q at e
    have hst : (r != 0).toNat ≤ 1 ∧ ((r != 0).toNat = 0 → r = 0) := by
      by_cases hr0 : r = 0
      · subst hr0; exact ⟨by decide, fun _ => rfl⟩
      · have : (r != 0) = true := by simp [hr0]
        rw [this]; exact ⟨by decide, fun h => by cases h⟩
    have hnq1 : n * q ≤ 2 * (m * 2 ^ more) + n := by
      have c1 : n * q = 2 * (n * x) + n * (r != 0).toNat := by rw [← hq, Nat.mul_add, Nat.mul_left_comm]
      have c2 : n * (r != 0).toNat ≤ n * 1 := Nat.mul_le_mul_left _ hst.1
      omega
    have hnq2 : 2 * (m * 2 ^ more) ≤ n * q + n := by
      have c1 : n * q = 2 * (n * x) + n * (r != 0).toNat := by rw [← hq, Nat.mul_add, Nat.mul_left_comm]
      by_cases hz : (r != 0).toNat = 0
      · have := hst.2 hz
        rw [hz, Nat.mul_zero] at c1
        omega
      · have : (r != 0).toNat = 1 := by omega
        rw [this, Nat.mul_one] at c1
        omega
    have hq54 : 18014398509481984 ≤ q := by
      have : (2 : Nat) ^ 53 = 9007199254740992 := by decide
      omega
    clear hnq1 hnq2
    have hnq1 : n * q ≤ 2 * (m * 2 ^ more) + n := by
      have c1 : n * q = 2 * (n * x) + n * (r != 0).toNat := by rw [← hq, Nat.mul_add, Nat.mul_left_comm]
      have c2 : n * (r != 0).toNat ≤ n * 1 := Nat.mul_le_mul_left _ hst.1
      omega
    have hnq2 : 2 * (m * 2 ^ more) ≤ n * q + n := by
      have c1 : n * q = 2 * (n * x) + n * (r != 0).toNat := by rw [← hq, Nat.mul_add, Nat.mul_left_comm]
      by_cases hz : (r != 0).toNat = 0
      · have := hst.2 hz
        rw [hz, Nat.mul_zero] at c1
        omega
      · have : (r != 0).toNat = 1 := by omega
        rw [this, Nat.mul_one] at c1
        omega
    generalize hpl : i - p - (more : Int) - 1 = place at e
    have hpl0 : -1074 ≤ place := by omega
    generalize hu : 2 ^ (place + 1074).toNat = u
    have hupos : 0 < u := by rw [← hu]; exact pow_pos _
    -- all by the smallest part
    obtain ⟨d, hd⟩ : ∃ d : Nat, d = 1074 := ⟨_, rfl⟩
    generalize hg : 2 ^ (p + 1074).toNat = g at hB
    have hgpos : 0 < g := by rw [← hg]; exact pow_pos _
    have hAD : A * DD = 2 * (m * 2 ^ more) * (g * u) := by
      rw [DD_pow hd, hAm, ← hg, ← hu, Nat.mul_assoc, ← Nat.pow_add]
      have c1 : (i + 1074).toNat + d = 1 + more + ((p + 1074).toNat + (place + 1074).toNat) := by omega
      rw [c1, Nat.pow_add, Nat.pow_add, Nat.pow_add]
      simp only [Nat.pow_one, Nat.mul_assoc, Nat.mul_left_comm, Nat.mul_comm]
    have hTW : T * (q * u) * DD = n * q * (g * u) := by
      have : T * (q * u) * DD = T * DD * (q * u) := by simp only [Nat.mul_assoc, Nat.mul_left_comm, Nat.mul_comm]
      rw [this, ← hB]
      simp only [Nat.mul_assoc, Nat.mul_left_comm, Nat.mul_comm]
    have hTu : T * u * DD = n * (g * u) := by
      have : T * u * DD = T * DD * u := by simp only [Nat.mul_assoc, Nat.mul_left_comm, Nat.mul_comm]
      rw [this, ← hB]
      simp only [Nat.mul_assoc, Nat.mul_left_comm, Nat.mul_comm]
    have b1 : T * (q * u) ≤ A + T * u := by
      have := Nat.mul_le_mul_right (g * u) hnq1
      rw [Nat.add_mul, ← hTW, ← hAD, ← hTu, ← Nat.add_mul] at this
      exact Nat.le_of_mul_le_mul_right this hD
    have b2 : A ≤ T * (q * u) + T * u := by
      have := Nat.mul_le_mul_right (g * u) hnq2
      rw [Nat.add_mul, ← hTW, ← hAD, ← hTu, ← Nat.add_mul] at this
      exact Nat.le_of_mul_le_mul_right this hD
    have b3 : T * u * 18014398509481984 ≤ T * (q * u) := by
      have := Nat.mul_le_mul_left T (Nat.mul_le_mul_right u hq54)
      rw [Nat.mul_comm 18014398509481984 u, ← Nat.mul_assoc] at this
      exact this
    have hW : (q * 2 ^ (place + 1074).toNat).log2 < 2096 := by
      rw [hu]
      refine log_bd (k := 102) ?_ (by omega)
      have c1 : q * u ≤ T * (q * u) := by have := Nat.mul_le_mul_right (q * u) hT.1; omega
      have c2 : T * (q * u) ≤ 2 * A := by omega
      have c3 : 2 * A ≤ 2 * (2 ^ 100 * DD) := Nat.mul_le_mul_left _ hhi
      have c4 : 2 * (2 ^ 100 * DD) ≤ 2 ^ 102 * DD := by rw [← Nat.mul_assoc]; exact Nat.mul_le_mul_right _ (by decide)
      exact Nat.le_trans c1 (Nat.le_trans c2 (Nat.le_trans c3 c4))
    have hf := fin_nearest s' (mag := q) (place := place) hpl0 hW
    rw [hu] at hf
    have w1 := rnd_hi (q * u)
    have w2 := rnd_lo (q * u)
    rw [p52, Nat.mul_add, Nat.mul_one] at w1
    rw [p52] at w2
    have hres := div_lin2 (a := T * (q * u)) (e := T * u) (A := A) (y := T * rnd (q * u)) (mul_form w1) (mul_form2 w2) b3 b1 b2
    refine ⟨rnd (q * u), ?_, hres⟩
    rw [e, fcan_fin hf]
    exact hf
theorem linA2 {v A Y D : Nat} (h1 : v * 18014398509481984000 ≤ A * 18014398509481984000 + A * 5001) (h2 : A * 18014398509481984000 ≤ v * 18014398509481984000 + A * 5001) (h3 : Y * 4503599627370496 ≤ v * 4503599627370496 + v) (h4 : v * 4503599627370496 ≤ Y * 4503599627370496 + v) (hA : A ≤ 1000000000000000 * D) (hD : 0 < D) :
    2 * Y < 2 * A + D ∧ 2 * A < 2 * Y + D ∧ (v ≤ 1125899906842624 * D) := by omega
theorem lowA2 {v A X D : Nat} (h2 : A * 18014398509481984000 ≤ v * 18014398509481984000 + A * 5001) (hv : v ≤ 17179869184 * X) (hD : D ≤ A) : D ≤ X * 1152921504606846976 := by omega
/-- A whole number of at most 15 signs over a power of ten, and times it, lies close to the number again. -/
theorem trip15 {m : Int} {b T : Nat} (hm : m.natAbs ≤ 1000000000000000) (hb : Fin b ((T : Int) * (DD : Int))) (hT : 1 ≤ T ∧ T ≤ 17179869184) :
    (∃ X, Fin (fdiv (fofi m) b) X) ∧ ∃ Y : Int, Fin (fmul (fdiv (fofi m) b) b) Y ∧ 2 * (Y - m * (DD : Int)).natAbs < DD := by
  have hD := DD_pos
  have p40 : (2 : Nat) ^ 40 = 1099511627776 := by decide
  have hT' : 1 ≤ T ∧ T ≤ 2 ^ 40 := ⟨hT.1, by rw [p40]; omega⟩
  have hA50 : m.natAbs * DD ≤ 2 ^ 50 * DD := Nat.mul_le_mul_right _ (by rw [p50]; omega)
  have ha : Fin (fofi m) (sgn (decide (m < 0)) (m.natAbs * DD)) := fin_int (by have : (2 : Nat) ^ 53 = 9007199254740992 := by decide
                                                                               omega)
  have hcase : m.natAbs * DD = 0 ∨ (DD ≤ m.natAbs * DD * 2 ^ 60 ∧ m.natAbs * DD ≤ 2 ^ 100 * DD) := by
    by_cases h0 : m.natAbs = 0
    · left; rw [h0, Nat.zero_mul]
    · right
      refine ⟨?_, Nat.le_trans hA50 (Nat.mul_le_mul_right _ (by decide))⟩
      have h1 : DD ≤ m.natAbs * DD := Nat.le_mul_of_pos_left _ (by omega)
      exact Nat.le_trans h1 (Nat.le_mul_of_pos_right _ (pow_pos 60))
  obtain ⟨X, hX, x1, x2⟩ := div_err2 ha hb hT' hcase
  have hTX : T * X ≤ 17179869184 * X := Nat.mul_le_mul_right _ hT.2
  have hcase2 : X = 0 ∨ (DD ≤ X * 2 ^ 60 ∧ X ≤ 2 ^ 100 * DD) := by
    by_cases h0 : X = 0
    · exact .inl h0
    · right
      have hmne : m.natAbs ≠ 0 := by
        intro hc
        rw [hc, Nat.zero_mul] at x1
        have : 0 < T * X := Nat.mul_pos (by omega) (by omega)
        omega
      have h1 : DD ≤ m.natAbs * DD := Nat.le_mul_of_pos_left _ (by omega)
      refine ⟨by rw [p60]; exact lowA2 x2 hTX h1, ?_⟩
      have h2 : X ≤ T * X := Nat.le_mul_of_pos_left _ (by omega)
      have h3 : T * X ≤ 2 * (m.natAbs * DD) := by omega
      have h4 : 2 * (m.natAbs * DD) ≤ 2 * (2 ^ 50 * DD) := Nat.mul_le_mul_left _ hA50
      have h5 : 2 * (2 ^ 50 * DD) ≤ 2 ^ 100 * DD := by rw [← Nat.mul_assoc]; exact Nat.mul_le_mul_right _ (by decide)
      exact Nat.le_trans h2 (Nat.le_trans h3 (Nat.le_trans h4 h5))
  obtain ⟨Y, hY, y1, y2⟩ := mul_err hX hb hT' hcase2
  rw [p52, Nat.mul_add, Nat.mul_one, Nat.mul_comm X T] at y1
  rw [p52, Nat.mul_comm X T] at y2
  have hA' : m.natAbs * DD ≤ 1000000000000000 * DD := Nat.mul_le_mul_right _ hm
  obtain ⟨r1, r2, r3⟩ := linA2 x1 x2 y1 y2 hA' hD
  refine ⟨⟨_, hX⟩, _, hY, ?_⟩
  have e : m * (DD : Int) = sgn (decide (m < 0)) (m.natAbs * DD) := by rw [sgn_mul, sgn_abs]
  rw [e]
  generalize m.natAbs * DD = q at r1 r2
  unfold sgn
  cases decide (m < 0) <;> simp only [if_true, Bool.false_eq_true, if_false] <;> omega
end Go.FT

namespace Go.FT
open Ieee Go.Eng
/-! ### a word's number; its low bits cut off; rounding to whole numbers, halves up -/
theorem fin_make {x : Nat} (h : x % 2 ^ 63 < 2047 * 2 ^ 52) : Fin x (sgn (x / 2 ^ 63 % 2 == 1) (mant (x % 2 ^ 63) * 2 ^ ex (x % 2 ^ 63))) := by
  have hr := read_eq x
  generalize (x / 2 ^ 63 % 2 == 1) = neg at hr ⊢
  generalize x % 2 ^ 63 = r at hr h ⊢
  refine ⟨neg, mant r, -1074 + (ex r : Int), ?_, by omega, ?_, mant_lt r⟩
  · rw [hr]
    unfold rd0
    rw [bin_eq, inf_eq, lp_eq]
    unfold mant ex
    by_cases a : r < 2 ^ 52
    · rw [if_pos a, if_pos a, if_pos a]; rfl
    · rw [if_neg a, if_neg a, if_neg a, if_pos h]
  · rw [show (-1074 + (ex r : Int) + 1074).toNat = ex r by omega]
theorem clr (a k : Nat) (ha : a < 2 ^ 64) (hk : k ≤ 64) : (BitVec.ofNat 64 a &&& ~~~BitVec.ofNat 64 (2 ^ k - 1)).toNat = a / 2 ^ k * 2 ^ k := by
  apply Nat.eq_of_testBit_eq
  intro i
  rw [BitVec.testBit_toNat, BitVec.getLsbD_and, BitVec.getLsbD_not, BitVec.getLsbD_ofNat, BitVec.getLsbD_ofNat, Nat.testBit_two_pow_sub_one, Nat.testBit_mul_two_pow, Nat.testBit_div_two_pow]
  by_cases hi : i < 64
  · by_cases hki : k ≤ i
    · simp [hi, hki, show ¬ i < k by omega, show i - k + k = i by omega]
    · simp [hi, hki, show i < k by omega]
  · have : a.testBit i = false := Nat.testBit_lt_two_pow (Nat.lt_of_lt_of_le ha (Nat.pow_le_pow_right (by omega) (by omega)))
    by_cases hki : k ≤ i
    · simp [hi, hki, show i - k + k = i by omega, this]
    · simp [hi, hki]
theorem halves : ∀ s, s < 52 → 2251799813685248 / 2 ^ s = 2 ^ (51 - s) ∧ 4503599627370495 / 2 ^ s = 2 ^ (52 - s) - 1 := by decide
/-- A number of 53 figures, its last t cut off with halves up. -/
theorem cut_up {l k t : Nat} (ht : 1 ≤ t ∧ t ≤ 52) (hl : l + t = 1074) (hk : 2 ^ 52 ≤ k ∧ k < 2 ^ 53) :
    (l * 2 ^ 52 + k + 2 ^ (t - 1)) / 2 ^ t * 2 ^ t < 2047 * 2 ^ 52 ∧
    mant ((l * 2 ^ 52 + k + 2 ^ (t - 1)) / 2 ^ t * 2 ^ t) * 2 ^ ex ((l * 2 ^ 52 + k + 2 ^ (t - 1)) / 2 ^ t * 2 ^ t) = (k * 2 ^ l + HH) / DD * DD := by
  have p0 : 0 < 2 ^ t := pow_pos t
  have e52 : 2 ^ 52 = 2 ^ (52 - t) * 2 ^ t := by rw [← Nat.pow_add, Nat.sub_add_cancel ht.2]
  have e53 : 2 ^ 53 = 2 ^ (53 - t) * 2 ^ t := by rw [← Nat.pow_add]; congr 1; omega
  have q1 : (l * 2 ^ 52 + k + 2 ^ (t - 1)) / 2 ^ t = l * 2 ^ (52 - t) + (k + 2 ^ (t - 1)) / 2 ^ t := by
    rw [e52, ← Nat.mul_assoc, Nat.add_assoc, Nat.add_comm (l * 2 ^ (52 - t) * 2 ^ t), Nat.add_mul_div_right _ _ p0, Nat.add_comm]
  have q2 : (l * 2 ^ 52 + k + 2 ^ (t - 1)) / 2 ^ t * 2 ^ t = l * 2 ^ 52 + (k + 2 ^ (t - 1)) / 2 ^ t * 2 ^ t := by
    rw [q1, Nat.add_mul, Nat.mul_assoc, ← e52]
  have hh : 2 ^ t = 2 ^ (t - 1) + 2 ^ (t - 1) := by
    have : 2 ^ t = 2 ^ (t - 1 + 1) := by congr 1; omega
    rw [this, dbl]; omega
  have k1 : 2 ^ 52 ≤ (k + 2 ^ (t - 1)) / 2 ^ t * 2 ^ t := by
    have : 2 ^ (52 - t) ≤ (k + 2 ^ (t - 1)) / 2 ^ t := by
      rw [Nat.le_div_iff_mul_le p0, ← e52]; omega
    calc 2 ^ 52 = 2 ^ (52 - t) * 2 ^ t := e52
      _ ≤ _ := Nat.mul_le_mul_right _ this
  have k2 : (k + 2 ^ (t - 1)) / 2 ^ t * 2 ^ t ≤ 2 ^ 53 := by
    have : (k + 2 ^ (t - 1)) / 2 ^ t ≤ 2 ^ (53 - t) := by
      have h3 : k + 2 ^ (t - 1) < (2 ^ (53 - t) + 1) * 2 ^ t := by
        rw [Nat.add_mul, ← e53, Nat.one_mul]
        have := pow_pos (t - 1)
        omega
      have := (Nat.div_lt_iff_lt_mul p0).2 h3
      omega
    calc _ ≤ 2 ^ (53 - t) * 2 ^ t := Nat.mul_le_mul_right _ this
      _ = 2 ^ 53 := e53.symm
  rw [q2]
  refine ⟨by omega, ?_⟩
  rw [mant_ex (.inr ⟨k1, k2⟩)]
  have eD : DD = 2 ^ t * 2 ^ l := by
    rw [DD_pow (k := l + t) hl, Nat.add_comm, Nat.pow_add]
  have eH : HH = 2 ^ (t - 1) * 2 ^ l := by
    rw [HH_pow (k := t - 1 + l) (by omega), Nat.pow_add]
  have e4 : (k * 2 ^ l + HH) / DD = (k + 2 ^ (t - 1)) / 2 ^ t := by
    rw [eD, eH, ← Nat.add_mul, Nat.mul_div_mul_right _ _ (pow_pos l)]
  rw [e4, eD, Nat.mul_assoc]
/-- A whole number over a power of ten, and times it, is the number again but for rounding. -/
theorem trip_dist {m : Int} {b T : Nat} (hm : m.natAbs ≤ 17179869184) (hb : Fin b ((T : Int) * (DD : Int))) (hT : 1 ≤ T ∧ T ≤ 17179869184) :
    (∃ X, Fin (fdiv (fofi m) b) X) ∧ ∃ Y : Nat, Fin (fmul (fdiv (fofi m) b) b) (sgn (decide (m < 0)) Y) ∧ 2 * Y < 2 * (m.natAbs * DD) + DD ∧ 2 * (m.natAbs * DD) < 2 * Y + DD ∧ Y ≤ 34359738368 * DD := by
  have hD := DD_pos
  have p40 : (2 : Nat) ^ 40 = 1099511627776 := by decide
  have hT' : 1 ≤ T ∧ T ≤ 2 ^ 40 := ⟨hT.1, by rw [p40]; omega⟩
  have hA34 : m.natAbs * DD ≤ 2 ^ 34 * DD := Nat.mul_le_mul_right _ (by have : (2 : Nat) ^ 34 = 17179869184 := by decide
                                                                        omega)
  have ha : Fin (fofi m) (sgn (decide (m < 0)) (m.natAbs * DD)) := fin_int (by have : (2 : Nat) ^ 53 = 9007199254740992 := by decide
                                                                               omega)
  have hcase : m.natAbs * DD = 0 ∨ (DD ≤ m.natAbs * DD * 2 ^ 60 ∧ m.natAbs * DD ≤ 2 ^ 100 * DD) := by
    by_cases h0 : m.natAbs = 0
    · left; rw [h0, Nat.zero_mul]
    · right
      refine ⟨?_, Nat.le_trans hA34 (Nat.mul_le_mul_right _ (by decide))⟩
      have h1 : DD ≤ m.natAbs * DD := Nat.le_mul_of_pos_left _ (by omega)
      exact Nat.le_trans h1 (Nat.le_mul_of_pos_right _ (pow_pos 60))
  obtain ⟨X, hX, x1, x2⟩ := div_err ha hb hT' hcase
  have hTX : T * X ≤ 17179869184 * X := Nat.mul_le_mul_right _ hT.2
  have hcase2 : X = 0 ∨ (DD ≤ X * 2 ^ 60 ∧ X ≤ 2 ^ 100 * DD) := by
    by_cases h0 : X = 0
    · exact .inl h0
    · right
      have hmne : m.natAbs ≠ 0 := by
        intro hc
        rw [hc, Nat.zero_mul] at x1
        have : 0 < T * X := Nat.mul_pos (by omega) (by omega)
        omega
      have h1 : DD ≤ m.natAbs * DD := Nat.le_mul_of_pos_left _ (by omega)
      refine ⟨by rw [p60]; exact lowA x2 hTX h1, ?_⟩
      have h2 : X ≤ T * X := Nat.le_mul_of_pos_left _ (by omega)
      have h3 : T * X ≤ 2 * (m.natAbs * DD) := by omega
      have h4 : 2 * (m.natAbs * DD) ≤ 2 * (2 ^ 34 * DD) := Nat.mul_le_mul_left _ hA34
      have h5 : 2 * (2 ^ 34 * DD) ≤ 2 ^ 100 * DD := by rw [← Nat.mul_assoc]; exact Nat.mul_le_mul_right _ (by decide)
      exact Nat.le_trans h2 (Nat.le_trans h3 (Nat.le_trans h4 h5))
  obtain ⟨Y, hY, y1, y2⟩ := mul_err hX hb hT' hcase2
  rw [p52, Nat.mul_add, Nat.mul_one, Nat.mul_comm X T] at y1
  rw [p52, Nat.mul_comm X T] at y2
  have hA' : m.natAbs * DD ≤ 17179869184 * DD := Nat.mul_le_mul_right _ hm
  obtain ⟨r1, r2, r3⟩ := linA x1 x2 y1 y2 hA' hD
  exact ⟨⟨_, hX⟩, _, hY, r1, r2, r3⟩
/-- Halves up: the number is found again. -/
theorem up_dist {m : Int} {Y : Nat} (h1 : 2 * Y < 2 * (m.natAbs * DD) + DD) (h2 : 2 * (m.natAbs * DD) < 2 * Y + DD) : (Y + HH) / DD = m.natAbs := by
  have hD := DD_pos
  have hDH := DD_eq
  refine Nat.div_eq_of_lt_le ?_ ?_
  · generalize m.natAbs * DD = q at *; omega
  · rw [Nat.add_mul, Nat.one_mul]; generalize m.natAbs * DD = q at *; omega
theorem up_sign {m : Int} {Y : Nat} (h2 : 2 * (m.natAbs * DD) < 2 * Y + DD) : sgn (decide (sgn (decide (m < 0)) Y < 0)) m.natAbs = m := by
  have hD := DD_pos
  refine (sgn_same fun h0 => ?_).symm.trans (sgn_abs m)
  subst h0
  by_cases hm : m.natAbs = 0
  · exact hm
  · have : DD ≤ m.natAbs * DD := Nat.le_mul_of_pos_left _ (by omega)
    omega
theorem feq_inf {x z : Nat} {s : Bool} {Z : Int} (h : double.read x = .infinity s) (hz : Fin z Z) : feq x z = false := by
  obtain ⟨t, m, p, h1, _⟩ := hz
  unfold feq Format.order
  rw [h, h1]
  cases s <;> rfl
end Go.FT

namespace Go.FT
open Ieee Go.Eng
/-! ### words are below 2^64 -/
theorem word_lt (neg : Bool) {r : Nat} (h : r < 2 ^ 63) : double.word neg r < 2 ^ 64 := by
  unfold Format.word
  rw [sw_eq]
  cases neg <;> simp <;> omega
theorem near_lt (neg : Bool) (mag : Nat) (place : Int) : double.nearest neg mag place < 2 ^ 64 := by
  unfold Format.nearest
  by_cases h : mag = 0
  · rw [if_pos h]; exact word_lt neg (by decide)
  · rw [if_neg h]
    refine word_lt neg ?_
    have h1 : double.infRung < 2 ^ 63 := by decide
    exact Nat.lt_of_le_of_lt (Nat.min_le_right _ _) h1
theorem write_lt (d : Datum) : double.write d < 2 ^ 64 := by
  cases d with
  | number s m p => exact near_lt s m p
  | infinity s => exact word_lt s (by decide)
  | nan s t =>
    refine word_lt s ?_
    have h1 : t % double.binade < double.binade := Nat.mod_lt _ (by decide)
    rw [bin_eq] at h1
    rw [inf_eq, bin_eq]
    omega
theorem fcan_lt (o : Option Datum) : fcan (o.map double.write) < 2 ^ 64 := by
  cases o with
  | none => decide
  | some d => exact canonF_lt (write_lt d)
theorem fadd_lt (a b : Nat) : fadd a b < 2 ^ 64 := fcan_lt _
theorem fsub_lt (a b : Nat) : fsub a b < 2 ^ 64 := fcan_lt _
theorem fmul_lt (a b : Nat) : fmul a b < 2 ^ 64 := fcan_lt _
theorem fdiv_lt (a b : Nat) : fdiv a b < 2 ^ 64 := fcan_lt _
theorem fofi_word (n : Int) : fofi n < 2 ^ 64 := canonF_lt (near_lt _ _ _)
end Go.FT
