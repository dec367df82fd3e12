/-
  Part of a proof by the engine: texts that a program of ours printed, or plain lemmas on them. No condition but what each theorem says.
-/
import Derived.Test.YtgkejafaggaocaaDoorPureLib
set_option linter.unusedVariables false
set_option linter.unusedSimpArgs false
namespace Go.FT
open Ieee
/-- The quotient by a power of two, to the nearest, of two as near the even one. -/
def re (n l : Nat) : Nat := n / 2 ^ l + (if 2 ^ l < 2 * (n % 2 ^ l) ∨ (2 ^ l = 2 * (n % 2 ^ l) ∧ n / 2 ^ l % 2 = 1) then 1 else 0)
theorem pow_pos (k : Nat) : 0 < 2 ^ k := Nat.two_pow_pos k
theorem cut_eq (neg : Bool) (n drop : Nat) : Toward.even.cut neg n drop = re n drop := by
  unfold Toward.cut re
  simp only [Nat.one_shiftLeft]
  by_cases h : drop ≤ n.log2 + 2
  · rw [Nat.min_eq_left h]
    congr 1
    by_cases c : 2 ^ drop < 2 * (n % 2 ^ drop)
    · simp [c]
    · by_cases d : 2 ^ drop = 2 * (n % 2 ^ drop) ∧ n / 2 ^ drop % 2 = 1
      · have b1 : (2 ^ drop == 2 * (n % 2 ^ drop)) = true := beq_iff_eq.2 d.1
        have b2 : (n / 2 ^ drop % 2 == 1) = true := beq_iff_eq.2 d.2
        rw [if_pos (Or.inr d), b1, b2, Bool.and_self, Bool.or_true]; rfl
      · simp only [c, d, or_self, if_false, decide_false, Bool.false_or]
        by_cases e : 2 ^ drop = 2 * (n % 2 ^ drop)
        · have : ¬ n / 2 ^ drop % 2 = 1 := fun x => d ⟨e, x⟩
          simp [this]
        · simp [e]
  · have h' : n.log2 + 2 < drop := by omega
    rw [Nat.min_eq_right (by omega)]
    have hn : n < 2 ^ (n.log2 + 1) := Nat.lt_log2_self
    have h2 : 2 ^ (n.log2 + 2) = 2 * 2 ^ (n.log2 + 1) := by rw [Nat.pow_succ 2 (n.log2 + 1)]; omega
    have h3 : 2 ^ (n.log2 + 2) ≤ 2 ^ drop := Nat.pow_le_pow_right (by omega) (by omega)
    have e1 : n / 2 ^ (n.log2 + 2) = 0 := Nat.div_eq_of_lt (by omega)
    have e2 : n % 2 ^ (n.log2 + 2) = n := Nat.mod_eq_of_lt (by omega)
    have e3 : n / 2 ^ drop = 0 := Nat.div_eq_of_lt (by omega)
    have e4 : n % 2 ^ drop = n := Nat.mod_eq_of_lt (by omega)
    rw [e1, e2, e3, e4]
    have c1 : ¬ 2 ^ (n.log2 + 2) < 2 * n := by omega
    have c2 : ¬ 2 ^ (n.log2 + 2) = 2 * n := by omega
    have c3 : ¬ 2 ^ drop < 2 * n := by omega
    have c4 : ¬ 2 ^ drop = 2 * n := by omega
    simp [c1, c2, c3, c4]
theorem re_zero (n : Nat) : re n 0 = n := by simp [re, Nat.mod_one]
theorem re_mul (a l : Nat) : re (a * 2 ^ l) l = a := by
  have hp := pow_pos l
  unfold re
  rw [Nat.mul_div_cancel _ hp, Nat.mul_mod_left]
  have : ¬ (2 ^ l < 2 * 0 ∨ (2 ^ l = 2 * 0 ∧ a % 2 = 1)) := by omega
  rw [if_neg this]; omega
theorem re_scale (n k j : Nat) : re (n * 2 ^ k) (k + j) = re n j := by
  have hk := pow_pos k
  have hj := pow_pos j
  unfold re
  rw [Nat.pow_add, Nat.mul_comm n, Nat.mul_div_mul_left _ _ hk, Nat.mul_mod_mul_left]
  have e1 : (2 ^ k * 2 ^ j < 2 * (2 ^ k * (n % 2 ^ j))) ↔ 2 ^ j < 2 * (n % 2 ^ j) := by
    rw [show 2 * (2 ^ k * (n % 2 ^ j)) = 2 ^ k * (2 * (n % 2 ^ j)) by rw [Nat.mul_left_comm]]
    exact Nat.mul_lt_mul_left hk
  have e2 : (2 ^ k * 2 ^ j = 2 * (2 ^ k * (n % 2 ^ j))) ↔ 2 ^ j = 2 * (n % 2 ^ j) := by
    rw [show 2 * (2 ^ k * (n % 2 ^ j)) = 2 ^ k * (2 * (n % 2 ^ j)) by rw [Nat.mul_left_comm]]
    exact ⟨fun h => Nat.eq_of_mul_eq_mul_left hk h, fun h => by rw [← h]⟩
  simp only [e1, e2]
/-! ### the format -/
theorem lp_eq : double.leastPlace = -1074 := by decide
theorem bin_eq : double.binade = 2 ^ 52 := rfl
theorem inf_eq : double.infRung = 2047 * 2 ^ 52 := by decide
theorem sw_eq : double.signWeight = 2 ^ 63 := rfl
theorem fb_eq : double.fractionBits = 52 := rfl
theorem log2_mul {m : Nat} (h : m ≠ 0) (k : Nat) : (m * 2 ^ k).log2 = m.log2 + k := by
  have h0 : m * 2 ^ k ≠ 0 := by have := pow_pos k; exact Nat.mul_ne_zero h (by omega)
  rw [Nat.log2_eq_iff h0]
  have h1 := Nat.log2_self_le h
  have h2 := @Nat.lt_log2_self m
  constructor
  · rw [Nat.pow_add]; exact Nat.mul_le_mul_right _ h1
  · rw [show m.log2 + k + 1 = (m.log2 + 1) + k by omega, Nat.pow_add]
    exact Nat.mul_lt_mul_of_pos_right h2 (pow_pos k)
/-- How many digits are dropped. -/
def dr (V : Nat) : Nat := V.log2 - 52
def rung (V : Nat) : Nat := dr V * 2 ^ 52 + re V (dr V)
theorem nearest_eq (neg : Bool) {mag : Nat} {place : Int} (hm : mag ≠ 0) (hp : -1074 ≤ place) :
    double.nearest neg mag place = double.word neg (min (rung (mag * 2 ^ (place + 1074).toNat)) double.infRung) := by
  unfold Format.nearest
  rw [if_neg hm]
  simp only [lp_eq, fb_eq, bin_eq, cut_eq]
  obtain ⟨k, rfl⟩ : ∃ k : Nat, place = (k : Int) - 1074 := ⟨(place + 1074).toNat, by omega⟩
  rw [show ((k : Int) - 1074 + 1074).toNat = k by omega]
  have hl := log2_mul hm k
  have hlast : max ((k : Int) - 1074 + (mag.log2 : Int) - ((52 : Nat) : Int)) (-1074) = (dr (mag * 2 ^ k) : Int) - 1074 := by
    unfold dr; rw [hl]; omega
  rw [hlast]
  unfold rung
  generalize (2 : Nat) ^ 52 = B
  rw [show ((dr (mag * 2 ^ k) : Int) - 1074 - -1074).toNat = dr (mag * 2 ^ k) by omega]
  rw [show ((k : Int) - 1074 - ((dr (mag * 2 ^ k) : Int) - 1074)).toNat = k - dr (mag * 2 ^ k) by omega, show ((dr (mag * 2 ^ k) : Int) - 1074 - ((k : Int) - 1074)).toNat = dr (mag * 2 ^ k) - k by omega]
  generalize dr (mag * 2 ^ k) = l
  rw [Nat.shiftLeft_eq]
  suffices h : re (mag * 2 ^ (k - l)) (l - k) = re (mag * 2 ^ k) l by rw [h]
  by_cases h : l ≤ k
  · rw [show l - k = 0 by omega, re_zero, show mag * 2 ^ k = mag * 2 ^ (k - l) * 2 ^ l by rw [Nat.mul_assoc, ← Nat.pow_add, Nat.sub_add_cancel h], re_mul]
  · rw [show k - l = 0 by omega, Nat.pow_zero, Nat.mul_one]
    obtain ⟨j, rfl⟩ : ∃ j, l = k + j := ⟨l - k, by omega⟩
    rw [re_scale, show k + j - k = j by omega]
end Go.FT

namespace Go.FT
open Ieee Go.Eng
def mant (r : Nat) : Nat := if r < 2 ^ 52 then r else 2 ^ 52 + r % 2 ^ 52
def ex (r : Nat) : Nat := if r < 2 ^ 52 then 0 else r / 2 ^ 52 - 1
def sgn (s : Bool) (n : Nat) : Int := if s then -(n : Int) else (n : Int)
theorem read_word (neg : Bool) {r : Nat} (h : r < 2047 * 2 ^ 52) : double.read (double.word neg r) = .number neg (mant r) (-1074 + (ex r : Int)) := by
  unfold Format.read Format.word
  simp only [lp_eq, bin_eq, inf_eq, sw_eq]
  have e1 : ((if neg then 2 ^ 63 + r else r) / 2 ^ 63 % 2 == 1) = neg := by
    cases neg with
    | true => simp; omega
    | false => simp; omega
  have e2 : (if neg then 2 ^ 63 + r else r) % 2 ^ 63 = r := by
    cases neg <;> simp <;> omega
  rw [e1, e2]
  unfold mant ex
  by_cases h1 : r < 2 ^ 52
  · simp only [h1, if_true]; rfl
  · simp only [h1, h, if_true, if_false]
/-- What is written of a number of so many smallest parts. -/
def rnd (V : Nat) : Nat := re V (dr V) * 2 ^ dr V
theorem log_le {V : Nat} (h : V ≠ 0) : 2 ^ V.log2 ≤ V := Nat.log2_self_le h
theorem log_lt (V : Nat) : V < 2 ^ (V.log2 + 1) := Nat.lt_log2_self
theorem re_le (V l : Nat) : re V l ≤ V / 2 ^ l + 1 := by unfold re; split <;> omega
theorem le_re (V l : Nat) : V / 2 ^ l ≤ re V l := by unfold re; omega
theorem dr_pos {V : Nat} (h : dr V ≠ 0) : V.log2 = dr V + 52 := by unfold dr at *; omega
theorem quo_bounds {V : Nat} (h : V ≠ 0) (hd : dr V ≠ 0) : 2 ^ 52 ≤ V / 2 ^ dr V ∧ V / 2 ^ dr V < 2 ^ 53 := by
  have h1 := log_le h
  have h2 := log_lt V
  have hl := dr_pos hd
  rw [hl] at h1 h2
  have hp := pow_pos (dr V)
  constructor
  · rw [Nat.le_div_iff_mul_le hp, ← Nat.pow_add, Nat.add_comm 52]; exact h1
  · rw [Nat.div_lt_iff_lt_mul hp, ← Nat.pow_add, show 53 + dr V = dr V + 52 + 1 by omega]; exact h2
theorem small_of_dr {V : Nat} (h : dr V = 0) : V < 2 ^ 53 := by
  have h2 := log_lt V
  have : V.log2 ≤ 52 := by unfold dr at h; omega
  exact Nat.lt_of_lt_of_le h2 (Nat.pow_le_pow_right (by omega) (by omega))
theorem rung_eq {V : Nat} (h : V ≠ 0) : mant (rung V) * 2 ^ ex (rung V) = rnd V := by
  unfold rung rnd
  by_cases hd : dr V = 0
  · rw [hd, re_zero, Nat.zero_mul, Nat.zero_add, Nat.pow_zero, Nat.mul_one]
    have hs := small_of_dr hd
    unfold mant ex
    by_cases h1 : V < 2 ^ 52
    · simp [h1]
    · simp only [h1, if_false]
      have e1 : V / 2 ^ 52 = 1 := by omega
      have e2 : V % 2 ^ 52 = V - 2 ^ 52 := by omega
      rw [e1, e2]
      simp; omega
  · obtain ⟨q1, q2⟩ := quo_bounds h hd
    have h1 := le_re V (dr V)
    have h2 := re_le V (dr V)
    generalize re V (dr V) = k at *
    generalize dr V = l at *
    have hk : 2 ^ 52 ≤ k ∧ k ≤ 2 ^ 53 := by omega
    unfold mant ex
    have hn : ¬ l * 2 ^ 52 + k < 2 ^ 52 := by omega
    simp only [hn, if_false]
    by_cases he : k = 2 ^ 53
    · subst he
      have e1 : (l * 2 ^ 52 + 2 ^ 53) / 2 ^ 52 = l + 2 := by omega
      have e2 : (l * 2 ^ 52 + 2 ^ 53) % 2 ^ 52 = 0 := by omega
      rw [e1, e2, show l + 2 - 1 = l + 1 by omega, Nat.pow_succ 2 l, Nat.add_zero, ← Nat.mul_assoc]
      generalize 2 ^ l = q
      omega
    · have e1 : (l * 2 ^ 52 + k) / 2 ^ 52 = l + 1 := by omega
      have e2 : (l * 2 ^ 52 + k) % 2 ^ 52 = k - 2 ^ 52 := by omega
      rw [e1, e2, show l + 1 - 1 = l by omega, show 2 ^ 52 + (k - 2 ^ 52) = k by omega]
theorem rung_lt {V : Nat} (h : V ≠ 0) (hV : V.log2 < 2096) : rung V < 2047 * 2 ^ 52 := by
  unfold rung
  by_cases hd : dr V = 0
  · rw [hd, re_zero]
    have hs := small_of_dr hd
    omega
  · obtain ⟨q1, q2⟩ := quo_bounds h hd
    have h2 := re_le V (dr V)
    have hl := dr_pos hd
    generalize re V (dr V) = k at *
    omega
theorem rnd_exact {m k : Nat} (hm : m < 2 ^ 53) : rnd (m * 2 ^ k) = m * 2 ^ k := by
  by_cases h : m = 0
  · subst h; simp [rnd, re]
  · have hl := log2_mul h k
    have hlog : m.log2 ≤ 52 := by
      have : m.log2 < 53 := (Nat.log2_lt h).2 hm
      omega
    have hd : dr (m * 2 ^ k) ≤ k := by unfold dr; omega
    unfold rnd
    generalize dr (m * 2 ^ k) = l at hd ⊢
    rw [show m * 2 ^ k = m * 2 ^ (k - l) * 2 ^ l by rw [Nat.mul_assoc, ← Nat.pow_add, Nat.sub_add_cancel hd], re_mul]
theorem rnd_ge {V a : Nat} (h : 2 ^ a ≤ V) : 2 ^ a ≤ rnd V := by
  have h0 : V ≠ 0 := by have := pow_pos a; omega
  have ha : a ≤ V.log2 := (Nat.le_log2 h0).2 h
  unfold rnd
  have hl : dr V ≤ V.log2 := by unfold dr; omega
  have h1 := log_le h0
  have hp := pow_pos (dr V)
  have h2 : 2 ^ (V.log2 - dr V) ≤ V / 2 ^ dr V := by
    rw [Nat.le_div_iff_mul_le hp, ← Nat.pow_add, Nat.sub_add_cancel hl]; exact h1
  calc 2 ^ a ≤ 2 ^ V.log2 := Nat.pow_le_pow_right (by omega) ha
    _ = 2 ^ (V.log2 - dr V) * 2 ^ dr V := by rw [← Nat.pow_add, Nat.sub_add_cancel hl]
    _ ≤ V / 2 ^ dr V * 2 ^ dr V := Nat.mul_le_mul_right _ h2
    _ ≤ re V (dr V) * 2 ^ dr V := Nat.mul_le_mul_right _ (le_re _ _)
theorem rnd_le {V a : Nat} (h : V ≤ 2 ^ a) : rnd V ≤ 2 ^ a := by
  by_cases he : V = 2 ^ a
  · have := rnd_exact (m := 1) (k := a) (by decide)
    rw [Nat.one_mul] at this
    rw [he, this]; exact Nat.le_refl _
  · by_cases h0 : V = 0
    · subst h0; simp [rnd, re]
    · have hlt : V < 2 ^ a := by omega
      have ha : V.log2 < a := (Nat.log2_lt h0).2 hlt
      unfold rnd
      have hl : dr V ≤ V.log2 := by unfold dr; omega
      have h2 := log_lt V
      have hp := pow_pos (dr V)
      have h3 : V / 2 ^ dr V < 2 ^ (V.log2 + 1 - dr V) := by
        rw [Nat.div_lt_iff_lt_mul hp, ← Nat.pow_add, Nat.sub_add_cancel (by omega)]; exact h2
      have h4 := re_le V (dr V)
      calc re V (dr V) * 2 ^ dr V ≤ 2 ^ (V.log2 + 1 - dr V) * 2 ^ dr V := Nat.mul_le_mul_right _ (by omega)
        _ = 2 ^ (V.log2 + 1) := by rw [← Nat.pow_add, Nat.sub_add_cancel (by omega)]
        _ ≤ 2 ^ a := Nat.pow_le_pow_right (by omega) ha
end Go.FT

namespace Go.FT
open Ieee Go.Eng
/-- The word stands for Z of the smallest parts. -/
def Fin (x : Nat) (Z : Int) : Prop := ∃ s m p, double.read x = .number s m p ∧ -1074 ≤ p ∧ Z = sgn s (m * 2 ^ (p + 1074).toNat) ∧ m < 2 ^ 53
theorem mant_lt (r : Nat) : mant r < 2 ^ 53 := by
  unfold mant
  split <;> omega
theorem signed_eq (s : Bool) (m up : Nat) : signed s m up = sgn s (m * 2 ^ up) := by
  unfold signed sgn
  rw [Nat.shiftLeft_eq]
theorem sgn_mul (s : Bool) (m k : Nat) : sgn s (m * k) = sgn s m * (k : Int) := by
  unfold sgn
  cases s
  · simp
  · simp [Int.neg_mul]
theorem sgn_neg (s : Bool) (m : Nat) : sgn (!s) m = -sgn s m := by
  unfold sgn
  cases s <;> simp
theorem sgn_abs (Z : Int) : sgn (decide (Z < 0)) Z.natAbs = Z := by
  unfold sgn
  by_cases h : Z < 0
  · simp [h]; omega
  · simp [h]; omega
theorem canon_of {x : Nat} {s : Bool} {m : Nat} {p : Int} (h : double.read x = .number s m p) : canonF x = x := by
  unfold canonF
  have : (FloatKind.f64.decode x).isNaN = false := by
    show (double.read x).isNaN = false
    rw [h]; rfl
  rw [this]; rfl
theorem Fin.canon {x : Nat} {Z : Int} (h : Fin x Z) : canonF x = x := by
  obtain ⟨s, m, p, h, _⟩ := h
  exact canon_of h
theorem pow_cast (k : Nat) : ((2 ^ k : Nat) : Int) = (2 : Int) ^ k := by simp
theorem cmp_scale (a b : Int) (k : Nat) : compare (a * ((2 ^ k : Nat) : Int)) (b * ((2 ^ k : Nat) : Int)) = compare a b := by
  have hk : (0 : Int) < ((2 ^ k : Nat) : Int) := by have := pow_pos k; omega
  have h1 : a * ((2 ^ k : Nat) : Int) < b * ((2 ^ k : Nat) : Int) ↔ a < b := ⟨fun h => Int.lt_of_mul_lt_mul_right h (Int.le_of_lt hk), fun h => Int.mul_lt_mul_of_pos_right h hk⟩
  have h2 : a * ((2 ^ k : Nat) : Int) = b * ((2 ^ k : Nat) : Int) ↔ a = b := ⟨fun h => Int.eq_of_mul_eq_mul_right (by omega) h, fun h => by rw [h]⟩
  simp only [compare, compareOfLessAndEq, h1, h2]
theorem shift_to {s : Bool} {m : Nat} {i base : Int} (hb : -1074 ≤ base) (hi : base ≤ i) : signed s m (i - base).toNat * ((2 ^ (base + 1074).toNat : Nat) : Int) = sgn s (m * 2 ^ (i + 1074).toNat) := by
  rw [signed_eq, ← sgn_mul, Nat.mul_assoc, ← Nat.pow_add]
  congr 3
  omega
theorem fin_order {a b : Nat} {A B : Int} (ha : Fin a A) (hb : Fin b B) : double.order a b = some (compare A B) := by
  obtain ⟨s, m, i, h1, h2, rfl, _⟩ := ha
  obtain ⟨t, n, j, h3, h4, rfl, _⟩ := hb
  unfold Format.order
  rw [h1, h3]
  simp only [Datum.order]
  congr 1
  rw [← cmp_scale _ _ (min i j + 1074).toNat, shift_to (by omega) (by omega), shift_to (by omega) (by omega)]
theorem cmp_lt (A B : Int) : (some (compare A B) == some .lt) = decide (A < B) := by
  simp only [compare, compareOfLessAndEq]
  by_cases h : A < B
  · simp [h]
  · by_cases h2 : A = B <;> simp [h, h2]
theorem cmp_eq (A B : Int) : (some (compare A B) == some .eq) = decide (A = B) := by
  simp only [compare, compareOfLessAndEq]
  by_cases h : A < B
  · have : ¬ A = B := by omega
    simp [h, this]
  · by_cases h2 : A = B <;> simp [h, h2]
theorem cmp_gt (A B : Int) : (some (compare A B) == some .gt) = decide (B < A) := by
  simp only [compare, compareOfLessAndEq]
  by_cases h : A < B
  · have : ¬ B < A := by omega
    simp [h, this]
  · by_cases h2 : A = B
    · simp [h2]
    · have : B < A := by omega
      simp [h, h2, this]
theorem feq_fin {a b : Nat} {A B : Int} (ha : Fin a A) (hb : Fin b B) : feq a b = decide (A = B) := by rw [feq, fin_order ha hb, cmp_eq]
theorem flt_fin {a b : Nat} {A B : Int} (ha : Fin a A) (hb : Fin b B) : Go.Eng.flt a b = decide (A < B) := by rw [Go.Eng.flt, fin_order ha hb, cmp_lt]
theorem fgt_fin {a b : Nat} {A B : Int} (ha : Fin a A) (hb : Fin b B) : fgt a b = decide (B < A) := by rw [fgt, fin_order ha hb, cmp_gt]
/-- What is written of a number. -/
theorem fin_nearest (neg : Bool) {mag : Nat} {place : Int} (hp : -1074 ≤ place) (hV : (mag * 2 ^ (place + 1074).toNat).log2 < 2096) :
    Fin (double.nearest neg mag place) (sgn neg (rnd (mag * 2 ^ (place + 1074).toNat))) := by
  by_cases hm : mag = 0
  · subst hm
    have e : double.nearest neg 0 place = double.word neg 0 := by unfold Format.nearest; rw [if_pos rfl]
    rw [e]
    refine ⟨neg, _, _, read_word neg (by decide), by omega, ?_, mant_lt _⟩
    simp [mant, rnd, re]
  · have h0 : mag * 2 ^ (place + 1074).toNat ≠ 0 := Nat.mul_ne_zero hm (by have := pow_pos (place + 1074).toNat; omega)
    have hr := rung_lt h0 hV
    rw [nearest_eq neg hm hp, inf_eq, Nat.min_eq_left (by omega)]
    refine ⟨neg, _, _, read_word neg hr, by omega, ?_, mant_lt _⟩
    rw [← rung_eq h0]
    congr 3
    omega
/-- The sign and the size, rounded. -/
def rn (Z : Int) : Int := sgn (decide (Z < 0)) (rnd Z.natAbs)
theorem rn_exact {m k : Nat} (s : Bool) (hm : m < 2 ^ 53) : rn (sgn s (m * 2 ^ k)) = sgn s (m * 2 ^ k) := by
  have hr := rnd_exact (k := k) hm
  generalize m * 2 ^ k = V at hr ⊢
  have e : (sgn s V).natAbs = V := by
    unfold sgn
    cases s
    · show ((V : Int)).natAbs = V; omega
    · show (-(V : Int)).natAbs = V; omega
  unfold rn
  rw [e, hr]
  unfold sgn
  cases s with
  | false =>
    have : ¬ (V : Int) < 0 := by omega
    simp only [Bool.false_eq_true, if_false, this, decide_false]
  | true =>
    by_cases h : V = 0
    · subst h; rfl
    · have : -(V : Int) < 0 := by omega
      simp only [if_true, this, decide_true]
theorem natAbs_scale (T : Int) (k : Nat) : (T * ((2 ^ k : Nat) : Int)).natAbs = T.natAbs * 2 ^ k := by rw [Int.natAbs_mul]; simp
theorem neg_scale (T : Int) (k : Nat) : decide (T * ((2 ^ k : Nat) : Int) < 0) = decide (T < 0) := by
  have hk : (0 : Int) < ((2 ^ k : Nat) : Int) := by have := pow_pos k; omega
  rw [decide_eq_decide]
  constructor
  · intro h
    exact Int.lt_of_mul_lt_mul_right (by simpa using h) (Int.le_of_lt hk)
  · intro h
    have := Int.mul_lt_mul_of_pos_right h hk
    simpa using this
theorem fin_sum {x y : Datum} {s t : Bool} {m n : Nat} {i j : Int} (hi : -1074 ≤ i) (hj : -1074 ≤ j) (hV : (sgn s (m * 2 ^ (i + 1074).toNat) + sgn t (n * 2 ^ (j + 1074).toNat)).natAbs.log2 < 2096) :
    ∃ r, (Datum.sum (.number s m i) (.number t n j)).map double.write = some r ∧ Fin r (rn (sgn s (m * 2 ^ (i + 1074).toNat) + sgn t (n * 2 ^ (j + 1074).toNat))) := by
  have hb : -1074 ≤ min i j := by omega
  have e1 := shift_to (s := s) (m := m) hb (show min i j ≤ i by omega)
  have e2 := shift_to (s := t) (m := n) hb (show min i j ≤ j by omega)
  refine ⟨_, rfl, ?_⟩
  show Fin (double.nearest _ _ _) _
  rw [← e1, ← e2, ← Int.add_mul] at hV ⊢
  generalize signed s m (i - min i j).toNat + signed t n (j - min i j).toNat = T at hV ⊢
  rw [natAbs_scale] at hV
  by_cases h0 : T = 0
  · have hz := fin_nearest (s && t) (mag := 0) hb (by rw [Nat.zero_mul]; decide)
    subst h0
    simp only [if_true, Int.natAbs_zero, Int.zero_mul]
    have e0 : rn 0 = 0 := by simp [rn, rnd, re, sgn]
    rw [e0]
    have e3 : sgn (s && t) (rnd (0 * 2 ^ (min i j + 1074).toNat)) = 0 := by rw [Nat.zero_mul]; simp [rnd, re, sgn]
    rwa [e3] at hz
  · have hz := fin_nearest (decide (T < 0)) (mag := T.natAbs) hb hV
    simp only [h0, if_false]
    unfold rn
    rw [natAbs_scale, neg_scale]
    exact hz
theorem fcan_fin {r : Nat} {Z : Int} (h : Fin r Z) : fcan (some r) = r := h.canon
theorem fin_sub {a b : Nat} {A B : Int} (ha : Fin a A) (hb : Fin b B) (hV : (A - B).natAbs.log2 < 2096) : Fin (fsub a b) (rn (A - B)) := by
  obtain ⟨s, m, i, h1, h2, rfl, _⟩ := ha
  obtain ⟨t, n, j, h3, h4, rfl, _⟩ := hb
  rw [Int.sub_eq_add_neg, ← sgn_neg] at hV ⊢
  obtain ⟨r, e, hr⟩ := fin_sum (x := .number s m i) (y := .number t n j) h2 h4 hV
  have : fsub a b = r := by
    unfold fsub Format.sub
    rw [h1, h3]
    simp only [Datum.opposite]
    rw [e, fcan_fin hr]
  rw [this]; exact hr
theorem fin_add {a b : Nat} {A B : Int} (ha : Fin a A) (hb : Fin b B) (hV : (A + B).natAbs.log2 < 2096) : Fin (fadd a b) (rn (A + B)) := by
  obtain ⟨s, m, i, h1, h2, rfl, _⟩ := ha
  obtain ⟨t, n, j, h3, h4, rfl, _⟩ := hb
  obtain ⟨r, e, hr⟩ := fin_sum (x := .number s m i) (y := .number t n j) h2 h4 hV
  have : fadd a b = r := by
    unfold fadd Format.add
    rw [h1, h3, e, fcan_fin hr]
  rw [this]; exact hr
theorem log2_lt_of {V k : Nat} (h : V < 2 ^ k) (hk : 0 < k) : V.log2 < k := by
  by_cases h0 : V = 0
  · subst h0; simpa using hk
  · exact (Nat.log2_lt h0).2 h
theorem log_mul_lt {n k c d : Nat} (h : n < 2 ^ d) (hc : d + k ≤ c) (h0 : 0 < c) : (n * 2 ^ k).log2 < c := by
  refine log2_lt_of (Nat.lt_of_lt_of_le (Nat.mul_lt_mul_of_pos_right h (pow_pos _)) ?_) h0
  rw [← Nat.pow_add]
  exact Nat.pow_le_pow_right (by omega) hc
/-- So many smallest parts are one half. -/
def HH : Nat := 2 ^ 1073
/-- So many smallest parts are one. -/
def DD : Nat := 2 * HH
theorem HH_pow : ∀ {k : Nat}, k = 1073 → HH = 2 ^ k := fun {k} h => by rw [h]; rfl
theorem dbl (k : Nat) : 2 ^ (k + 1) = 2 * 2 ^ k := by rw [Nat.pow_succ, Nat.mul_comm]
theorem DD_pow {k : Nat} (h : k = 1074) : DD = 2 ^ k := by
  obtain ⟨j, rfl⟩ : ∃ j, k = j + 1 := ⟨k - 1, by omega⟩
  rw [dbl, DD, HH_pow (k := j) (by omega)]
theorem HH_pos : 0 < HH := by
  obtain ⟨k, hk⟩ : ∃ k : Nat, k = 1073 := ⟨_, rfl⟩
  rw [HH_pow hk]; exact pow_pos k
theorem DD_pos : 0 < DD := by have := HH_pos; unfold DD; omega
/-- A whole number below 2^53 is kept. -/
theorem fin_of {n : Int} (h : n.natAbs < 2 ^ 53) : Fin (fofi n) (n * (DD : Int)) := by
  have hl : (n.natAbs * 2 ^ ((0 : Int) + 1074).toNat).log2 < 2096 := log_mul_lt h (by decide) (by decide)
  have hz := fin_nearest (decide (n < 0)) (mag := n.natAbs) (place := 0) (by omega) hl
  have e : fofi n = double.nearest (decide (n < 0)) n.natAbs 0 := by
    show canonF (double.nearest (decide (n < 0)) n.natAbs 0) = _
    exact hz.canon
  rw [e]
  rw [rnd_exact h, sgn_mul, sgn_abs] at hz
  rw [DD_pow (k := ((0 : Int) + 1074).toNat) (by decide)]
  exact hz
end Go.FT

namespace Go.FT
open Ieee Go.Eng
theorem DD_eq : DD = 2 * HH := rfl
theorem cut_zero (neg : Bool) (n drop : Nat) : Toward.zero.cut neg n drop = n / 2 ^ drop := by
  unfold Toward.cut
  simp only [Nat.one_shiftLeft, Bool.toNat_false, Nat.add_zero]
  by_cases h : drop ≤ n.log2 + 2
  · rw [Nat.min_eq_left h]
  · rw [Nat.min_eq_right (by omega)]
    have hn : n < 2 ^ (n.log2 + 1) := Nat.lt_log2_self
    have h2 : 2 ^ (n.log2 + 1) ≤ 2 ^ (n.log2 + 2) := Nat.pow_le_pow_right (by omega) (by omega)
    have h3 : 2 ^ (n.log2 + 1) ≤ 2 ^ drop := Nat.pow_le_pow_right (by omega) (by omega)
    rw [Nat.div_eq_of_lt (by omega), Nat.div_eq_of_lt (by omega)]
/-- Whole places or not: the same quotient. -/
theorem quot_scale {m : Nat} {p : Int} (hp : -1074 ≤ p) : (m <<< p.toNat) / 2 ^ (-p).toNat = m * 2 ^ (p + 1074).toNat / DD := by
  rw [Nat.shiftLeft_eq]
  obtain ⟨k, hk⟩ : ∃ k : Nat, k = 1074 := ⟨_, rfl⟩
  rw [DD_pow hk]
  by_cases h : 0 ≤ p
  · rw [show (-p).toNat = 0 by omega, Nat.pow_zero, Nat.div_one, show (p + 1074).toNat = p.toNat + k by omega, Nat.pow_add, ← Nat.mul_assoc, Nat.mul_div_cancel _ (pow_pos _)]
  · rw [show p.toNat = 0 by omega, Nat.pow_zero, Nat.mul_one, show k = (-p).toNat + (p + 1074).toNat by omega, Nat.pow_add, Nat.mul_div_mul_right _ _ (pow_pos _)]
theorem re_scale2 {m : Nat} {p : Int} (hp : -1074 ≤ p) : re (m <<< p.toNat) (-p).toNat = re (m * 2 ^ (p + 1074).toNat) 1074 := by
  rw [Nat.shiftLeft_eq]
  obtain ⟨k, hk⟩ : ∃ k : Nat, k = 1074 := ⟨_, rfl⟩
  rw [← hk]
  by_cases h : 0 ≤ p
  · rw [show (-p).toNat = 0 by omega, re_zero, show (p + 1074).toNat = p.toNat + k by omega, Nat.pow_add, ← Nat.mul_assoc, re_mul]
  · rw [show p.toNat = 0 by omega, Nat.pow_zero, Nat.mul_one]
    have := re_scale m (p + 1074).toNat (-p).toNat
    rw [show (p + 1074).toNat + (-p).toNat = k by omega] at this
    exact this.symm
theorem sgn_natAbs (s : Bool) (N : Nat) : (sgn s N).natAbs = N := by
  unfold sgn
  cases s
  · show ((N : Int)).natAbs = N; omega
  · show (-(N : Int)).natAbs = N; omega
theorem sgn_same {s : Bool} {N K : Nat} (h : N = 0 → K = 0) : sgn s K = sgn (decide (sgn s N < 0)) K := by
  unfold sgn
  cases s with
  | false =>
    have : ¬ (N : Int) < 0 := by omega
    simp only [Bool.false_eq_true, if_false, this, decide_false]
  | true =>
    by_cases h0 : N = 0
    · have := h h0
      subst this h0
      rfl
    · have : -(N : Int) < 0 := by omega
      simp only [if_true, this, decide_true]
/-- Cut towards nought. -/
theorem trunc_fin {y : Nat} {Y : Int} (h : Fin y Y) (hb : Y.natAbs / DD ≤ 9223372036854775807) : floatToIntVal .f64 y .i64 = some (sgn (decide (Y < 0)) (Y.natAbs / DD)) := by
  obtain ⟨s, m, p, h1, h2, rfl, _⟩ := h
  have e1 : (FloatKind.f64.decode y).toInt .zero = some (sgn s (m * 2 ^ (p + 1074).toNat / DD)) := by
    show (double.read y).toInt .zero = _
    rw [h1]
    simp only [Datum.toInt, Datum.integral, cut_zero, quot_scale h2, signed_eq, Nat.pow_zero, Nat.mul_one]
  rw [sgn_natAbs] at hb ⊢
  rw [← sgn_same (fun h => by rw [h]; exact Nat.zero_div _)]
  unfold floatToIntVal
  rw [e1]
  simp only
  generalize m * 2 ^ (p + 1074).toNat / DD = K at hb
  rw [if_pos]
  have e2 : IntKind.i64.min = -9223372036854775808 := by decide
  have e3 : IntKind.i64.max = 9223372036854775807 := by decide
  rw [e2, e3]
  unfold sgn
  split <;> omega
theorem re_null (l : Nat) : re 0 l = 0 := by
  have := pow_pos l
  unfold re
  rw [Nat.zero_div, Nat.zero_mod, if_neg (by omega)]
/-- To the nearest whole number. -/
theorem even_fin {y : Nat} {Y : Int} (h : Fin y Y) (hb : re Y.natAbs 1074 < 2 ^ 53) :
    Fin (canonF (FloatKind.f64.encode ((FloatKind.f64.decode y).integral .even))) (sgn (decide (Y < 0)) (re Y.natAbs 1074) * (DD : Int)) := by
  obtain ⟨s, m, p, h1, h2, rfl, _⟩ := h
  rw [sgn_natAbs] at hb ⊢
  have e1 : FloatKind.f64.encode ((FloatKind.f64.decode y).integral .even) = double.nearest s (re (m * 2 ^ (p + 1074).toNat) 1074) 0 := by
    show double.write ((double.read y).integral .even) = _
    rw [h1]
    simp only [Datum.integral, cut_eq, re_scale2 h2]
    rfl
  rw [← sgn_same (fun h => by rw [h, re_null])]
  rw [e1]
  generalize re (m * 2 ^ (p + 1074).toNat) 1074 = K at hb
  have hl : (K * 2 ^ ((0 : Int) + 1074).toNat).log2 < 2096 := log_mul_lt hb (by decide) (by decide)
  have hz := fin_nearest s (mag := K) (place := 0) (by omega) hl
  rw [hz.canon]
  rw [rnd_exact hb, sgn_mul] at hz
  rw [DD_pow (k := ((0 : Int) + 1074).toNat) (by decide)]
  exact hz
end Go.FT

namespace Go.FT
open Ieee Go.Eng
/-- To the nearest whole number, of two as near the even one; in whole numbers. -/
def rne (N : Nat) : Nat := N / DD + (if DD < 2 * (N % DD) ∨ (DD = 2 * (N % DD) ∧ N / DD % 2 = 1) then 1 else 0)
theorem re_DD (N : Nat) : re N 1074 = rne N := by
  obtain ⟨k, hk⟩ : ∃ k : Nat, k = 1074 := ⟨_, rfl⟩
  rw [← hk]
  unfold re rne
  rw [DD_pow hk]
/-- Sizes that a float has are kept. -/
def Kept (V : Nat) : Prop := ∃ m k, V = m * 2 ^ k ∧ m < 2 ^ 53
theorem Kept.rnd {V : Nat} (h : Kept V) : rnd V = V := by
  obtain ⟨m, k, rfl, hm⟩ := h
  exact rnd_exact hm
theorem Fin.kept {y : Nat} {Y : Int} (h : Fin y Y) : Kept Y.natAbs := by
  obtain ⟨s, m, p, _, _, rfl, hm⟩ := h
  rw [sgn_natAbs]
  exact ⟨m, _, rfl, hm⟩
/-- What is left of a size of one and more, and what it lacks, are kept. -/
theorem rest_kept {N : Nat} (h : Kept N) (hN : DD ≤ N) : Kept (N % DD) ∧ Kept (DD - N % DD) := by
  obtain ⟨m, k, rfl, hm⟩ := h
  obtain ⟨d, hd⟩ : ∃ d : Nat, d = 1074 := ⟨_, rfl⟩
  rw [DD_pow hd] at hN ⊢
  by_cases hk : d ≤ k
  · have e : m * 2 ^ k % 2 ^ d = 0 := by
      rw [show k = (k - d) + d by omega, Nat.pow_add, ← Nat.mul_assoc]
      exact Nat.mul_mod_left _ _
    rw [e]
    exact ⟨⟨0, 0, by simp, by decide⟩, ⟨1, d, by simp, by decide⟩⟩
  · have h1 : 2 ^ d < 2 ^ (53 + k) := by
      refine Nat.lt_of_le_of_lt hN ?_
      rw [Nat.pow_add]
      exact Nat.mul_lt_mul_of_pos_right hm (pow_pos k)
    have h2 : d < 53 + k := (Nat.pow_lt_pow_iff_right (by omega)).1 h1
    obtain ⟨j, rfl⟩ : ∃ j, d = k + j := ⟨d - k, by omega⟩
    have hj : 2 ^ j ≤ 2 ^ 52 := Nat.pow_le_pow_right (by omega) (by omega)
    have hjp := pow_pos j
    have e : m * 2 ^ k % 2 ^ (k + j) = (m % 2 ^ j) * 2 ^ k := by
      rw [Nat.pow_add, Nat.mul_comm m, Nat.mul_mod_mul_left, Nat.mul_comm]
    rw [e]
    have hlt := Nat.mod_lt m hjp
    refine ⟨⟨m % 2 ^ j, k, rfl, by omega⟩, ⟨2 ^ j - m % 2 ^ j, k, ?_, by omega⟩⟩
    rw [Nat.pow_add, Nat.mul_comm (2 ^ k), ← Nat.sub_mul]
/-- What a size above one half lacks of one is kept. -/
theorem lack_kept {N : Nat} (h : Kept N) (h1 : HH < N) (h2 : N < DD) : Kept (DD - N) := by
  obtain ⟨m, k, rfl, hm⟩ := h
  obtain ⟨d, hd⟩ : ∃ d : Nat, d = 1073 := ⟨_, rfl⟩
  have e1 := HH_pow hd
  have e2 : DD = 2 * 2 ^ d := by rw [DD_eq, e1]
  rw [e1] at h1
  have h3 : 2 ^ d < 2 ^ (53 + k) := by
    refine Nat.lt_trans h1 ?_
    rw [Nat.pow_add]
    exact Nat.mul_lt_mul_of_pos_right hm (pow_pos k)
  have h4 : d < 53 + k := (Nat.pow_lt_pow_iff_right (by omega)).1 h3
  by_cases hk : d < k
  · have : 2 ^ (d + 1) ≤ 2 ^ k := Nat.pow_le_pow_right (by omega) (by omega)
    rw [dbl] at this
    have hm0 : m ≠ 0 := by
      rintro rfl
      have := pow_pos d
      omega
    have : 1 * 2 ^ k ≤ m * 2 ^ k := Nat.mul_le_mul_right _ (by omega)
    omega
  · obtain ⟨j, rfl⟩ : ∃ j, d = k + j := ⟨d - k, by omega⟩
    have hj : 2 ^ j ≤ 2 ^ 52 := Nat.pow_le_pow_right (by omega) (by omega)
    refine ⟨2 * 2 ^ j - m, k, ?_, ?_⟩
    · rw [e2, Nat.sub_mul, Nat.pow_add, Nat.mul_assoc, Nat.mul_comm (2 ^ k)]
    · have : 2 ^ j < m := by
        rw [Nat.pow_add, Nat.mul_comm] at h1
        exact Nat.lt_of_mul_lt_mul_right h1
      omega
theorem rnd_half : rnd HH = HH := by
  obtain ⟨d, hd⟩ : ∃ d : Nat, d = 1073 := ⟨_, rfl⟩
  rw [HH_pow hd]
  have := rnd_exact (m := 1) (k := d) (by decide)
  simpa using this
theorem rnd_ge_half {V : Nat} (h : HH ≤ V) : HH ≤ rnd V := by
  obtain ⟨d, hd⟩ : ∃ d : Nat, d = 1073 := ⟨_, rfl⟩
  rw [HH_pow hd] at h ⊢
  exact rnd_ge h
theorem rn_nat (V : Nat) : rn (V : Int) = (rnd V : Int) := by
  unfold rn
  have : ¬ (V : Int) < 0 := by omega
  simp [this, sgn]
end Go.FT

namespace Go.FT
open Ieee Go.Eng
/-- From the whole number below and what is left. -/
def up (n : Int) (r : Nat) : Int := if HH < r then n + 1 else if r = HH ∧ n.tmod 2 ≠ 0 then n + 1 else n
theorem tmod2_nat (q : Nat) : ((q : Int).tmod 2 ≠ 0) ↔ q % 2 = 1 := by
  rw [Int.tmod_eq_emod_of_nonneg (by omega)]; omega
theorem tmod2_neg (q : Nat) : ((-(q : Int) - 1).tmod 2 ≠ 0) ↔ q % 2 = 0 := by
  rw [show (-(q : Int) - 1) = -(((q + 1 : Nat) : Int)) by omega, Int.neg_tmod, Int.tmod_eq_emod_of_nonneg (by omega)]; omega
theorem rne_eq (N : Nat) : rne N = N / DD + (if HH < N % DD ∨ (HH = N % DD ∧ N / DD % 2 = 1) then 1 else 0) := by
  unfold rne
  have h1 : DD < 2 * (N % DD) ↔ HH < N % DD := by rw [DD_eq]; omega
  have h2 : DD = 2 * (N % DD) ↔ HH = N % DD := by
    have := DD_eq
    constructor
    · intro h; omega
    · intro h; omega
  simp only [h1, h2]
theorem up_pos {N : Nat} (h : Kept N) : up ((N / DD : Nat) : Int) (rnd (N % DD)) = ((rne N : Nat) : Int) := by
  have hr : rnd (N % DD) = N % DD := by
    by_cases hN : DD ≤ N
    · exact (rest_kept h hN).1.rnd
    · rw [Nat.mod_eq_of_lt (by omega)]; exact h.rnd
  rw [hr, rne_eq]
  unfold up
  simp only [tmod2_nat]
  generalize N / DD = q
  generalize N % DD = T
  by_cases h1 : HH < T
  · simp [h1]
  · by_cases h2 : T = HH
    · have h1' : ¬ HH < T := h1
      by_cases h3 : q % 2 = 1
      · rw [if_neg h1, if_pos ⟨h2, h3⟩, if_pos (Or.inr ⟨h2.symm, h3⟩)]; rfl
      · rw [if_neg h1, if_neg (fun x => h3 x.2), if_neg (fun x => x.elim h1 fun y => h3 y.2)]; rfl
    · have : ¬ HH = T := fun e => h2 e.symm
      simp [h1, h2, this]
theorem up_whole {q : Nat} : up (-(q : Int)) 0 = -(q : Int) := by
  have := HH_pos
  unfold up
  rw [if_neg (by omega), if_neg (by omega)]
theorem up_neg {N : Nat} (h : Kept N) (hT : N % DD ≠ 0) : up (-((N / DD : Nat) : Int) - 1) (rnd (DD - N % DD)) = -((rne N : Nat) : Int) := by
  have hp := DD_pos
  have hlt := Nat.mod_lt N hp
  have hd := DD_eq
  rw [rne_eq]
  unfold up
  simp only [tmod2_neg]
  by_cases hN : DD ≤ N
  · rw [(rest_kept h hN).2.rnd]
    generalize N / DD = q
    generalize N % DD = T at *
    by_cases h1 : HH < T
    · have a1 : ¬ HH < DD - T := by omega
      have a2 : ¬ DD - T = HH := by omega
      simp [h1, a1, a2]; omega
    · by_cases h2 : T = HH
      · have a1 : ¬ HH < DD - T := by omega
        have a2 : DD - T = HH := by omega
        by_cases h3 : q % 2 = 1
        · have : ¬ q % 2 = 0 := by omega
          rw [if_neg a1, if_neg (fun x => this x.2), if_pos (Or.inr ⟨h2.symm, h3⟩)]; omega
        · have : q % 2 = 0 := by omega
          rw [if_neg a1, if_pos ⟨a2, this⟩, if_neg (fun x => x.elim h1 fun y => h3 y.2)]; omega
      · have a1 : HH < DD - T := by omega
        have a3 : ¬ HH = T := fun e => h2 e.symm
        simp [h1, h2, a1, a3]
  · have e1 : N / DD = 0 := Nat.div_eq_of_lt (by omega)
    have e2 : N % DD = N := Nat.mod_eq_of_lt (by omega)
    rw [e1, e2] at *
    have e3 : (0 : Nat) % 2 = 0 := rfl
    by_cases h1 : HH < N
    · rw [(lack_kept h h1 (by omega)).rnd]
      have a1 : ¬ HH < DD - N := by omega
      have a2 : ¬ DD - N = HH := by omega
      simp [h1, a1, a2]
    · have g := rnd_ge_half (V := DD - N) (by omega)
      by_cases h2 : HH < rnd (DD - N)
      · simp [h1, h2]
      · have a1 : rnd (DD - N) = HH := by omega
        simp [h1, a1]
/-- The whole number nearest to Y of the smallest parts. -/
def nearV (Y : Int) : Int := sgn (decide (Y < 0)) (rne Y.natAbs)
theorem fin_half : Fin 4602678819172646912 (HH : Int) := by
  refine ⟨false, 2 ^ 52, -53, by decide, by omega, ?_, by decide⟩
  obtain ⟨d, hd⟩ : ∃ d : Nat, d = 1021 := ⟨_, rfl⟩
  rw [show ((-53 : Int) + 1074).toNat = d by omega, HH_pow (k := 52 + d) (by omega), Nat.pow_add]
  rfl
theorem whole_bound {Y : Int} {c : Nat} (h : Y.natAbs ≤ c * DD) : Y.natAbs / DD ≤ c := by
  have := Nat.div_le_div_right (c := DD) h
  rwa [Nat.mul_div_cancel _ DD_pos] at this
theorem scale_abs (n : Int) : (n * (DD : Int)).natAbs = n.natAbs * DD := by rw [Int.natAbs_mul]; simp
theorem log_fin {V : Nat} {c : Nat} (hc : c < 2 ^ 60) (h : V ≤ c * DD) : V.log2 < 2096 := by
  obtain ⟨d, hd⟩ : ∃ d : Nat, d = 1074 := ⟨_, rfl⟩
  obtain ⟨z, hz⟩ : ∃ z : Nat, z = 2096 := ⟨_, rfl⟩
  rw [← hz]
  rw [DD_pow hd] at h
  have := log_mul_lt (n := c) (k := d) (c := z) hc (by omega) (by omega)
  by_cases h0 : V = 0
  · subst h0; rw [Nat.log2_zero]; omega
  · refine (Nat.log2_lt h0).2 (Nat.lt_of_le_of_lt h ?_)
    by_cases h1 : c * 2 ^ d = 0
    · omega
    · exact (Nat.log2_lt h1).1 this
/-- What is left behind the whole number below. -/
theorem rest_fin {y : Nat} {Y n : Int} {R : Nat} (h : Fin y Y) (hn : n.natAbs < 2 ^ 53) (hR : Y - n * (DD : Int) = (R : Int)) (hb : R ≤ DD) : Fin (fsub y (fofi n)) ((rnd R : Nat) : Int) := by
  have hl : (Y - n * (DD : Int)).natAbs.log2 < 2096 := by
    rw [hR]
    exact log_fin (c := 1) (by decide) (by simpa using hb)
  have := fin_sub h (fin_of hn) hl
  rwa [hR, rn_nat] at this
end Go.FT

namespace Go.FT
open Ieee Go.Eng
theorem read_cases (y : Nat) : (∃ Z, Fin y Z) ∨ (∃ s, double.read y = .infinity s) ∨ (∃ s t, double.read y = .nan s t) := by
  by_cases h1 : y % double.signWeight < double.binade
  · have e : double.read y = .number (y / double.signWeight % 2 == 1) (y % double.signWeight) double.leastPlace := by
      unfold Format.read
      simp only [h1, if_true]
    exact .inl ⟨_, _, _, _, e, by rw [lp_eq]; omega, rfl, by rw [bin_eq] at h1; omega⟩
  · by_cases h2 : y % double.signWeight < double.infRung
    · have e : double.read y = .number (y / double.signWeight % 2 == 1) (double.binade + y % double.signWeight % double.binade) (double.leastPlace + (y % double.signWeight / double.binade - 1 : Nat)) := by
        unfold Format.read
        simp only [h1, h2, if_true, if_false]
      refine .inl ⟨_, _, _, _, e, by rw [lp_eq]; omega, rfl, ?_⟩
      rw [bin_eq]
      generalize y % double.signWeight = r
      omega
    · by_cases h3 : y % double.signWeight = double.infRung
      · refine .inr (.inl ⟨y / double.signWeight % 2 == 1, ?_⟩)
        unfold Format.read
        simp only [h1, h2, if_true, if_false]
        rw [if_pos h3]
      · refine .inr (.inr ⟨y / double.signWeight % 2 == 1, y % double.signWeight - double.infRung, ?_⟩)
        unfold Format.read
        simp only [h1, h2, if_false]
        rw [if_neg h3]
theorem rn_zero : rn 0 = 0 := by simp [rn, rnd, re_null, sgn]
theorem fin_zero : Fin 0 0 := ⟨false, 0, -1074, by decide, by omega, by simp [sgn], by decide⟩
theorem known_fin {y : Nat} {Y : Int} (h : Fin y Y) : feq (fsub y y) 0 = true := by
  have hs := fin_sub h h (by rw [Int.sub_self]; decide)
  rw [Int.sub_self, rn_zero] at hs
  rw [feq_fin hs fin_zero]; rfl
theorem qnan : double.read 0x7ff8000000000000 = .nan false (2 ^ 51) := by decide
theorem sub_none {y z : Nat} (h : (double.read y).sum (double.read z).opposite = none) : fsub y z = 0x7ff8000000000000 := by
  unfold fsub Format.sub
  rw [h]; rfl
theorem order_nan {y z : Nat} (h : (double.read y).isNaN = true) : double.order y z = none := by
  unfold Format.order
  cases hd : double.read y with
  | nan s t => rfl
  | number s m p => rw [hd] at h; cases h
  | infinity s => rw [hd] at h; cases h
theorem known_inf {y : Nat} {s : Bool} (h : double.read y = .infinity s) : feq (fsub y y) 0 = false := by
  have : fsub y y = 0x7ff8000000000000 := sub_none (by rw [h]; cases s <;> rfl)
  rw [this, feq, order_nan (by rw [qnan]; rfl)]; rfl
theorem known_nan {y : Nat} {s : Bool} {t : Nat} (h : double.read y = .nan s t) : feq (fsub y y) 0 = false := by
  have : fsub y y = 0x7ff8000000000000 := sub_none (by rw [h]; rfl)
  rw [this, feq, order_nan (by rw [qnan]; rfl)]; rfl
theorem self_fin {y : Nat} {Y : Int} (h : Fin y Y) : feq y y = true := by rw [feq_fin h h]; simp
theorem self_inf {y : Nat} {s : Bool} (h : double.read y = .infinity s) : feq y y = true := by
  unfold feq Format.order
  rw [h]; cases s <;> rfl
theorem self_nan {y : Nat} {s : Bool} {t : Nat} (h : double.read y = .nan s t) : feq y y = false := by
  rw [feq, order_nan (by rw [h]; rfl)]; rfl
/-! ### sizes -/
def rd0 (neg : Bool) (r : Nat) : Datum :=
  if r < double.binade then .number neg r double.leastPlace
  else if r < double.infRung then .number neg (double.binade + r % double.binade) (double.leastPlace + (r / double.binade - 1 : Nat))
  else if r = double.infRung then .infinity neg
  else .nan neg (r - double.infRung)
theorem read_eq (y : Nat) : double.read y = rd0 (y / 2 ^ 63 % 2 == 1) (y % 2 ^ 63) := rfl
theorem rd0_abs (neg : Bool) (r : Nat) : rd0 false r = match rd0 neg r with | .number _ m p => .number false m p | .infinity _ => .infinity false | .nan _ t => .nan false t := by
  unfold rd0
  by_cases h1 : r < double.binade
  · simp only [h1, if_true]
  · by_cases h2 : r < double.infRung
    · simp only [h1, h2, if_true, if_false]
    · by_cases h3 : r = double.infRung
      · rw [if_neg h1, if_neg h2, if_pos h3, if_neg h1, if_neg h2, if_pos h3]
      · rw [if_neg h1, if_neg h2, if_neg h3, if_neg h1, if_neg h2, if_neg h3]
theorem read_abs (y : Nat) : double.read (y % 2 ^ 63) = match double.read y with | .number _ m p => .number false m p | .infinity _ => .infinity false | .nan _ t => .nan false t := by
  rw [read_eq, read_eq y, ← rd0_abs]
  have e1 : y % 2 ^ 63 % 2 ^ 63 = y % 2 ^ 63 := Nat.mod_mod _ _
  have e2 : (y % 2 ^ 63 / 2 ^ 63 % 2 == 1) = false := by
    have : y % 2 ^ 63 / 2 ^ 63 = 0 := Nat.div_eq_of_lt (Nat.mod_lt _ (by decide))
    rw [this]; rfl
  rw [e1, e2]
theorem fin_abs {y : Nat} {Y : Int} (h : Fin y Y) : Fin (y % 2 ^ 63) (Y.natAbs : Int) := by
  obtain ⟨s, m, p, h1, h2, rfl, h3⟩ := h
  rw [sgn_natAbs]
  exact ⟨false, m, p, by rw [read_abs, h1], h2, rfl, h3⟩
theorem fin_max {e : Nat} (he : e = 2045) : Fin 9218868437227405311 (((2 ^ 53 - 1) * 2 ^ e : Nat) : Int) := ⟨false, 2 ^ 53 - 1, 971, by decide, by omega, by rw [show ((971 : Int) + 1074).toNat = e by omega]; rfl, by decide⟩
theorem place_le {y : Nat} {s : Bool} {m : Nat} {p : Int} (h : double.read y = .number s m p) : p ≤ 971 := by
  rw [read_eq] at h
  generalize (y / 2 ^ 63 % 2 == 1) = neg at h
  generalize y % 2 ^ 63 = r at h
  unfold rd0 at h
  by_cases h1 : r < double.binade
  · rw [if_pos h1] at h
    injection h with _ _ h
    rw [← h, lp_eq]; omega
  · by_cases h2 : r < double.infRung
    · rw [if_neg h1, if_pos h2] at h
      injection h with _ _ h
      rw [← h, lp_eq, bin_eq]
      rw [inf_eq] at h2
      omega
    · rw [if_neg h1, if_neg h2] at h
      split at h <;> cases h
theorem fin_le {y : Nat} {Y : Int} {e : Nat} (he : e = 2045) (h : Fin y Y) : Y.natAbs ≤ (2 ^ 53 - 1) * 2 ^ e := by
  obtain ⟨s, m, p, h1, h2, rfl, h3⟩ := h
  rw [sgn_natAbs]
  have hp := place_le h1
  exact Nat.mul_le_mul (by omega) (Nat.pow_le_pow_right (by omega) (by omega))
/-- A number is not above the greatest one. -/
theorem not_over {y : Nat} {Y : Int} (h : Fin y Y) : fgt y 9218868437227405311 = false := by
  obtain ⟨e, he⟩ : ∃ e : Nat, e = 2045 := ⟨_, rfl⟩
  have hl := fin_le he h
  rw [fgt_fin h (fin_max he)]
  generalize (2 ^ 53 - 1) * 2 ^ e = M at hl
  exact decide_eq_false (by omega)
theorem inf_over {y : Nat} (h : double.read y = .infinity false) : fgt y 9218868437227405311 = true := by
  have : double.read 9218868437227405311 = .number false (2 ^ 53 - 1) 971 := by decide
  unfold fgt Format.order
  rw [h, this]; rfl
theorem ninf_over {y : Nat} (h : double.read y = .infinity true) : fgt y 9218868437227405311 = false := by
  have : double.read 9218868437227405311 = .number false (2 ^ 53 - 1) 971 := by decide
  unfold fgt Format.order
  rw [h, this]; rfl
end Go.FT
