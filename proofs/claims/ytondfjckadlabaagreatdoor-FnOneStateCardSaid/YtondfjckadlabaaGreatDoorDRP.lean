/-
  Part of a proof by the engine: texts that a program of ours printed, or plain lemmas on them. No condition but what each theorem says.
-/
import Derived.Test.YtondfjckadlabaaGreatDoorDR
import Derived.Test.YtondfjckadlabaaGreatDoorPureLib
set_option linter.unusedVariables false
set_option linter.unusedSimpArgs false
namespace Go.Proofs.YtondfjckadlabaaGreatDoor.DR
open Go Go.Eng
/-- It answers, and with what is asked. -/
def Answ {γ : Type} (Q : γ → Prop) (m : Option γ) : Prop := ∃ y, m = some y ∧ Q y
theorem good_bind {α γ : Type} {P : α → Prop} {Q : γ → Prop} {m : Option α} {f : α → Option γ} (h : Answ P m) (k : ∀ y, P y → Answ Q (f y)) : Answ Q (m.bind f) := by
  obtain ⟨y, e, hy⟩ := h
  rw [e]
  exact k y hy
theorem good_some {γ : Type} {Q : γ → Prop} {y : γ} (h : Q y) : Answ Q (some y) := ⟨y, rfl, h⟩
theorem good_bif {γ : Type} {Q : γ → Prop} {b : Bool} {t e : Option γ} (ht : b = true → Answ Q t) (hf : b = false → Answ Q e) : Answ Q (bif b then t else e) := by
  cases b with
  | true => exact ht rfl
  | false => exact hf rfl
theorem good_chk {γ : Type} {Q : γ → Prop} {b : Bool} {t e : Option γ} (h : b = true) (k : Answ Q t) : Answ Q (bif b then t else e) := by
  rw [h]; exact k
/-- A reader's state. -/
structure Rdr (l : List Int) (p : Int) : Prop where
  len : l.length ≤ 1048576
  b : ∀ x ∈ l, 0 ≤ x ∧ x ≤ 255
  lo : 0 ≤ p
  hi : p ≤ l.length
theorem next_good {l : List Int} {p : Int} (h : Rdr l p) : Answ (fun y => Rdr y.2.1 y.2.2 ∧ 0 ≤ y.1 ∧ y.1 ≤ 255) (spec_l1Rd_next l p) := by
  obtain ⟨hl, hb, h1, h2⟩ := h
  unfold spec_l1Rd_next
  by_cases h : p ≥ (l.length : Int)
  · exact ⟨(0, l, p), by simp only [h, decide_true, cond_true], ⟨hl, hb, h1, h2⟩, by simp, by simp⟩
  · have hn : p.toNat < l.length := by omega
    have e0 : IntKind.i64.wrap (p + 1) = p + 1 := w64 (by omega) (by omega)
    have e : IntKind.i64.wrap (p + 1 - 1) = (p.toNat : Int) := by rw [w64 (by omega) (by omega)]; omega
    have hb' := hb _ (List.getElem_mem hn)
    have r1 : rd (Kind.int IntKind.u8) l (p.toNat : Int) = l[p.toNat] := rd_nat (k := .int .u8) hn
    refine ⟨(l[p.toNat], l, p + 1), ?_, ⟨hl, hb, by simp only; omega, by simp only; omega⟩, hb'.1, hb'.2⟩
    simp only [h, e0, e, r1, show (0 : Int) ≤ (p.toNat : Int) by omega, show (p.toNat : Int) < (l.length : Int) by omega, decide_true, decide_false, cond_true, cond_false, w64 (n := l[p.toNat]) (by omega) (by omega)]
theorem below_good {l : List Int} {p : Int} (n : Int) (hn : n ≤ 65536) (h : Rdr l p) : Answ (fun y => Rdr y.2.1 y.2.2 ∧ 0 ≤ y.1 ∧ y.1 ≤ 65535 ∧ (1 < n → y.1 < n) ∧ (n ≤ 1 → y.1 = 0)) (spec_l1Rd_below n l p) := by
  unfold spec_l1Rd_below
  by_cases h1 : n ≤ 1
  · exact ⟨(0, l, p), by simp only [h1, decide_true, cond_true], h, by simp, by simp, fun _ => by simp only; omega, fun _ => rfl⟩
  · have hn0 : ¬ n = 0 := by omega
    obtain ⟨⟨v, l', q⟩, e, hv⟩ := next_good h
    simp only at hv
    have m1 := Int.tmod_lt_of_pos v (show 0 < n by omega)
    have m0 := Int.tmod_nonneg n hv.2.1
    by_cases h2 : n ≤ 256
    · refine ⟨(v.tmod n, l', q), by simp only [h1, h2, hn0, e, decide_true, decide_false, cond_true, cond_false, Option.bind_some, bneI, Bool.not_false], hv.1, m0, by simp only; omega, fun _ => m1, fun _ => by omega⟩
    · obtain ⟨⟨u, l'', r⟩, e', hu⟩ := next_good hv.1
      simp only at hu
      refine ⟨((v * 256 + u).tmod n, l'', r), ?_, hu.1, Int.tmod_nonneg _ (by omega), ?_, fun _ => Int.tmod_lt_of_pos _ (by omega), fun _ => by omega⟩
      · simp only [h1, h2, hn0, e, e', decide_true, decide_false, cond_true, cond_false, Option.bind_some, bneI, Bool.not_false, w64 (n := v * 256) (by omega) (by omega), w64 (n := v * 256 + u) (by omega) (by omega)]
      · have := Int.tmod_lt_of_pos (v * 256 + u) (show 0 < n by omega)
        simp only; omega
theorem once_good {l : List Int} {p : Int} (n : Int) (hn : 0 ≤ n ∧ n ≤ 65536) (h : Rdr l p) : Answ (fun y => Rdr y.2.1 y.2.2) (spec_l1Rd_once n l p) := by
  unfold spec_l1Rd_once
  exact good_bind (below_good n hn.2 h) fun y hy => good_some hy.1
theorem open_good {l : List Int} (hl : l.length ≤ 1048576) (hb : ∀ x ∈ l, 0 ≤ x ∧ x ≤ 255) : Answ (fun y => Rdr y.1 y.2) (spec_l1Open l) := by
  unfold spec_l1Open
  exact good_some ⟨hl, hb, Int.le_refl _, by simp only; omega⟩
theorem rd_in {k : Kind} {xs : List k.den} {i : Int} (h0 : 0 ≤ i) (h1 : i < (xs.length : Int)) : rd k xs i ∈ xs := by
  obtain ⟨n, rfl⟩ : ∃ n : Nat, i = (n : Int) := ⟨i.toNat, by omega⟩
  exact rd_mem (by omega)
theorem chk_lt {i n : Int} (h : i < n) : decide (i < n) = true := decide_eq_true h
theorem chk_le {i n : Int} (h : i ≤ n) : decide (i ≤ n) = true := decide_eq_true h
end Go.Proofs.YtondfjckadlabaaGreatDoor.DR
