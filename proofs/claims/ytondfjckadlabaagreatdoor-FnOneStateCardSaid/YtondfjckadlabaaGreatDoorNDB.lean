/-
  Part of a proof by the engine: texts that a program of ours printed, or plain lemmas on them. No condition but what each theorem says.
-/
import Derived.Test.YtondfjckadlabaaGreatDoorCal
set_option linter.unusedVariables false
set_option linter.unusedSimpArgs false
namespace Go.Eng
/-- The minute of day d, hour h, minute i in month q. -/
def C (d h i q : Nat) : Int := (((Sm q : Nat) : Int) + (d : Int) - 1) * 1440 + (h : Int) * 60 + (i : Int)
def dst (a ref : Int) : Int := if ref - a > a - ref then ref - a else a - ref
def okC' (d h i q : Nat) : Prop := d ≤ ml q ∧ 0 ≤ C d h i q ∧ C d h i q ≤ 52596000
/-- Of the months in S, r is the nearest, the first of those. -/
def Best (S : Nat → Prop) (d h i : Nat) (ref r : Int) : Prop := (∃ q, S q ∧ okC' d h i q ∧ r = C d h i q) ∧ ∀ q, S q → okC' d h i q → dst r ref < dst (C d h i q) ref ∨ (dst r ref = dst (C d h i q) ref ∧ r ≤ C d h i q)
theorem C_lt {d h i q q' : Nat} (hl : q < q') : C d h i q + 40320 ≤ C d h i q' := by
  have h1 := Sm_mono (show q + 1 ≤ q' from hl)
  have h2 := (ml_pos q).1
  simp only [Sm] at h1
  unfold C
  generalize Sm q = a at *
  generalize Sm q' = b at *
  generalize ml q = c at *
  omega
theorem best_uniq {S : Nat → Prop} {d h i : Nat} {ref r r' : Int} (h1 : Best S d h i ref r) (h2 : Best S d h i ref r') : r = r' := by
  obtain ⟨⟨q, hs, ho, rfl⟩, ha⟩ := h1
  obtain ⟨⟨q', hs', ho', rfl⟩, hb⟩ := h2
  have e1 := ha q' hs' ho'
  have e2 := hb q hs ho
  omega
/-- One month more. -/
theorem best_new {n : Nat} {S : Nat → Prop} {d h i : Nat} {ref r : Int} (hS : ∀ q, S q → q < n) (hB : Best S d h i ref r) (ho : okC' d h i n) (hlt : dst (C d h i n) ref < dst r ref) : Best (fun q => S q ∨ q = n) d h i ref (C d h i n) := by
  refine ⟨⟨n, .inr rfl, ho, rfl⟩, fun q hq ho' => ?_⟩
  rcases hq with hq | rfl
  · have := hB.2 q hq ho'; left; omega
  · right; exact ⟨rfl, Int.le_refl _⟩
theorem best_old {n : Nat} {S : Nat → Prop} {d h i : Nat} {ref r : Int} (hS : ∀ q, S q → q < n) (hB : Best S d h i ref r) (hge : okC' d h i n → ¬ dst (C d h i n) ref < dst r ref) : Best (fun q => S q ∨ q = n) d h i ref r := by
  obtain ⟨⟨q0, hs, ho, rfl⟩, ha⟩ := hB
  refine ⟨⟨q0, .inl hs, ho, rfl⟩, fun q hq ho' => ?_⟩
  rcases hq with hq | rfl
  · exact ha q hq ho'
  · have := hge ho'
    have := C_lt (d := d) (h := h) (i := i) (hS q0 hs)
    omega
theorem best_first {n : Nat} {S : Nat → Prop} {d h i : Nat} {ref : Int} (hN : ∀ q, S q → ¬ okC' d h i q) (ho : okC' d h i n) : Best (fun q => S q ∨ q = n) d h i ref (C d h i n) := by
  refine ⟨⟨n, .inr rfl, ho, rfl⟩, fun q hq ho' => ?_⟩
  rcases hq with hq | rfl
  · exact absurd ho' (hN q hq)
  · right; exact ⟨rfl, Int.le_refl _⟩
theorem best_congr {S T : Nat → Prop} {d h i : Nat} {ref r : Int} (hST : ∀ q, S q ↔ T q) (hB : Best S d h i ref r) : Best T d h i ref r := by
  have : S = T := funext fun q => propext (hST q)
  rw [← this]; exact hB
theorem Sm_y (y : Nat) : (Sm (12 * y) : Int) = 365 * (y : Int) + ((y : Int) + 3) / 4 := by
  rw [Sm_year]; omega
theorem Sm_11 (y : Nat) : Sm (12 * y + 11) + 31 = Sm (12 * (y + 1)) := by
  have : Sm (12 * y + 11 + 1) = Sm (12 * y + 11) + ml (12 * y + 11) := rfl
  rw [show 12 * (y + 1) = 12 * y + 11 + 1 by omega, this, ml_at y 11 (by omega)]
  simp
/-- In the year of ref, or at the end of the one ahead of it, there is a month with that day, less than 250 days away. -/
theorem some_near {d h i y : Nat} {ref : Int} (hd : 1 ≤ d ∧ d ≤ 31) (hh : h ≤ 24) (hi : i < 60) (h24 : h = 24 → i = 0) (href : 0 ≤ ref ∧ ref ≤ 52596000) (hy : (Sm (12 * y) : Int) ≤ ref / 1440 ∧ ref / 1440 < (Sm (12 * (y + 1)) : Int)) :
    ∃ q, 12 * y ≤ q + 1 ∧ q < 12 * (y + 1) ∧ okC' d h i q ∧ dst (C d h i q) ref < 250 * 1440 := by
  have e0 := Sm_y y
  have e1 := Sm_y (y + 1)
  have e11 := Sm_11 y
  have hy100 : y ≤ 100 := by
    apply Nat.le_of_not_lt; intro hc
    have := Sm_mono (show 12 * 101 ≤ 12 * y by omega)
    have h2 := Sm_y 101
    omega
  by_cases hlast : y = 100
  · subst hlast
    refine ⟨1199, by omega, by omega, ?_, ?_⟩
    · have hml : ml 1199 = 31 := by decide
      have hs : Sm 1199 + 31 = Sm (12 * 100) := Sm_11 99
      refine ⟨by omega, ?_, ?_⟩ <;> (unfold C; omega)
    · have hs : Sm 1199 + 31 = Sm (12 * 100) := Sm_11 99
      unfold dst C; split <;> omega
  · by_cases hhalf : ref / 1440 < (Sm (12 * y) : Int) + 183
    · refine ⟨12 * y, by omega, by omega, ?_, ?_⟩
      · have hml : ml (12 * y) = 31 := by rw [show 12 * y = 12 * y + 0 from rfl, ml_at y 0 (by omega)]; rfl
        refine ⟨by omega, ?_, ?_⟩ <;> (unfold C; omega)
      · unfold dst C; split <;> omega
    · refine ⟨12 * y + 11, by omega, by omega, ?_, ?_⟩
      · have hml : ml (12 * y + 11) = 31 := by rw [ml_at y 11 (by omega)]; rfl
        refine ⟨by omega, ?_, ?_⟩ <;> (unfold C; omega)
      · unfold dst C; split <;> omega
/-- The nearest in three years is the nearest of all. -/
theorem best_wide {d h i y : Nat} {ref r : Int} (hd : 1 ≤ d ∧ d ≤ 31) (hh : h ≤ 24) (hi : i < 60) (h24 : h = 24 → i = 0) (href : 0 ≤ ref ∧ ref ≤ 52596000) (hy : (Sm (12 * y) : Int) ≤ ref / 1440 ∧ ref / 1440 < (Sm (12 * (y + 1)) : Int))
    (hB : Best (fun q => 12 * y ≤ q + 12 ∧ q < 12 * (y + 2)) d h i ref r) : Best (fun q => q < 1212) d h i ref r := by
  obtain ⟨q1, h1, h2, h3, h4⟩ := some_near hd hh hi h24 href hy
  have hy100 : y ≤ 100 := by
    apply Nat.le_of_not_lt; intro hc
    have := Sm_mono (show 12 * 101 ≤ 12 * y by omega)
    have h2 := Sm_y 101
    omega
  obtain ⟨⟨q0, hs, ho, rfl⟩, ha⟩ := hB
  have hr : dst (C d h i q0) ref < 250 * 1440 := by
    have := ha q1 (by omega) h3; omega
  have q0lt : q0 < 1212 := by
    apply Nat.lt_of_not_le; intro hc
    have h5 := Sm_mono (show 1200 ≤ q0 - 12 by omega)
    have h6 : Sm (12 * 101) ≤ Sm q0 := Sm_mono (by omega)
    have h7 := Sm_y 101
    have h8 := ho.2.2
    unfold C at h8
    omega
  refine ⟨⟨q0, q0lt, ho, rfl⟩, fun q hq ho' => ?_⟩
  by_cases hin : 12 * y ≤ q + 12 ∧ q < 12 * (y + 2)
  · exact ha q hin ho'
  · left
    refine Int.lt_of_lt_of_le hr ?_
    by_cases hlow : q + 12 < 12 * y
    · have h5 := Sm_mono (show q + 1 ≤ 12 * (y - 1) by omega)
      have h6 := Sm_y (y - 1)
      have h7 := Sm_y y
      have h8 : Sm (q + 1) = Sm q + ml q := rfl
      have h9 := ho'.1
      unfold dst C
      generalize Sm q = a at *
      generalize ml q = b at *
      split <;> omega
    · have h5 := Sm_mono (show 12 * (y + 2) ≤ q by omega)
      have h6 := Sm_y (y + 2)
      have h7 := Sm_y (y + 1)
      unfold dst C
      generalize Sm q = a at *
      split <;> omega
/-- One that is near is the nearest. -/
theorem best_is {S : Nat → Prop} {d h i q : Nat} {ref r : Int} (hB : Best S d h i ref r) (hS : S q) (ho : okC' d h i q) (hn : dst (C d h i q) ref ≤ 18720) : r = C d h i q := by
  obtain ⟨⟨q0, hs, ho0, rfl⟩, ha⟩ := hB
  have h1 := ha q hS ho
  have h2 : dst (C d h i q0) ref ≤ 18720 := by omega
  rcases Nat.lt_trichotomy q0 q with h3 | h3 | h3
  · have := C_lt (d := d) (h := h) (i := i) h3
    unfold dst at *; split at h2 <;> split at hn <;> omega
  · rw [h3]
  · have := C_lt (d := d) (h := h) (i := i) h3
    unfold dst at *; split at h2 <;> split at hn <;> omega
end Go.Eng
