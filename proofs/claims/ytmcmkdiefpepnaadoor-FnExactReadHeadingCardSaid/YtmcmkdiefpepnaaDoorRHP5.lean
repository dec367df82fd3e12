/-
  Part of a proof by the engine: texts that a program of ours printed, or plain lemmas on them. No condition but what each theorem says.
-/
import Derived.Test.YtmcmkdiefpepnaaDoorRHP4
set_option linter.unusedVariables false
set_option linter.unusedSimpArgs false
namespace Go.Proofs.YtmcmkdiefpepnaaDoor.RH
open Go Go.Eng Go.Proofs.YtmcmkdiefpepnaaDoor.DT Go.Proofs.YtmcmkdiefpepnaaDoor.EX
/-- The kind of a mark. -/
def mk (s : ByteArray) : Int :=
  match L s with
  | [] => 0
  | [a, b, c] => if (isUp a && (isUp b && isUp c)) = true then (if a = 80 then 4 else if a ≠ b ∨ 88 < c.toNat then -1 else if a = 82 then 1 else if a = 67 then 2 else if a = 65 then 3 else -1) else -1
  | _ => -1
theorem up_of {c : UInt8} (h : isUp c = true) : 65 ≤ c.toNat ∧ c.toNat ≤ 90 := by
  simpa only [isUp, Bool.and_eq_true, decide_eq_true_eq] using h
theorem u8_eq {a b : UInt8} : ((a.toNat : Int) = (b.toNat : Int)) ↔ a = b := ⟨fun h => UInt8.toNat_inj.1 (by omega), fun h => by rw [h]⟩
theorem size3 {s : ByteArray} (h : s.size = 3) : ∃ a b c, s = bs [a, b, c] := by
  have hl : (L s).length = 3 := by rw [L_length, h]
  have hs : s = bs (L s) := (bs_L s).symm
  generalize L s = l at hl hs
  subst hs
  match l, hl with
  | [a, b, c], _ => exact ⟨a, b, c, rfl⟩
theorem mk_not {s : ByteArray} (h0 : ¬ s = bs []) (h3 : ¬ s.size = 3) : mk s = -1 := by
  have hl : ¬ (L s).length = 3 := by rw [L_length]; exact h3
  have hn : ¬ L s = [] := fun e => h0 (by rw [← bs_L s, e])
  unfold mk
  split
  · rename_i e; exact absurd e hn
  · rename_i e; rw [e] at hl; simp at hl
  · rfl
theorem spec_mark (s : ByteArray) (hs : s.size ≤ 9223372036854775807) : ∃ n, spec_MarkOf s = some (mk s, n) := by
  unfold spec_MarkOf
  simp only [beq_bytes, bneI]
  by_cases h0 : s = bs []
  · subst h0; exact ⟨0, by simp [mk, L_bs]⟩
  by_cases h3 : s.size = 3
  · obtain ⟨a, b, c, rfl⟩ := size3 h3
    have hz : ((bs [a, b, c]).size : Int) = 3 := rfl
    have b0 : bt (bs [a, b, c]) 0 = (a.toNat : Int) := rfl
    have b1 : bt (bs [a, b, c]) 1 = (b.toNat : Int) := rfl
    have b2 : bt (bs [a, b, c]) 2 = (c.toNat : Int) := rfl
    have hm : mk (bs [a, b, c]) = if (isUp a && (isUp b && isUp c)) = true then (if a = 80 then 4 else if a ≠ b ∨ 88 < c.toNat then -1 else if a = 82 then 1 else if a = 67 then 2 else if a = 65 then 3 else -1) else -1 := rfl
    simp only [h0, hz, b0, b1, b2, spec_l4Letters_eq hs, L_bs, List.all_cons, List.all_nil, Bool.and_true, Option.bind_some, decide_true, decide_false, cond_false, Bool.not_true, show decide ((2 : Int) < 3) = true from rfl, show decide ((0 : Int) < 3) = true from rfl, show decide ((1 : Int) < 3) = true from rfl, cond_true]
    rw [hm]
    cases hu : (isUp a && (isUp b && isUp c)) with
    | false => exact ⟨0, by simp⟩
    | true =>
      have hu' := hu
      simp only [Bool.and_eq_true] at hu'
      have ua := up_of hu'.1
      have ub := up_of hu'.2.1
      have uc := up_of hu'.2.2
      have ew : IntKind.i64.wrap (IntKind.i64.wrap (IntKind.u8.wrap ((c.toNat : Int) - 65)) + 1) = (c.toNat : Int) - 64 := by
        rw [wu8 (by omega) (by omega), w64 (n := (c.toNat : Int) - 65) (by omega) (by omega), w64 (by omega) (by omega)]; omega
      have k80 : ((a.toNat : Int) == 80) = decide (a = 80) := by rw [beqI, decide_eq_decide]; exact u8_eq (b := 80)
      have k82 : ((a.toNat : Int) == 82) = decide (a = 82) := by rw [beqI, decide_eq_decide]; exact u8_eq (b := 82)
      have k67 : ((a.toNat : Int) == 67) = decide (a = 67) := by rw [beqI, decide_eq_decide]; exact u8_eq (b := 67)
      have k65 : ((a.toNat : Int) == 65) = decide (a = 65) := by rw [beqI, decide_eq_decide]; exact u8_eq (b := 65)
      have kab : decide ((a.toNat : Int) = (b.toNat : Int)) = decide (a = b) := by rw [decide_eq_decide]; exact u8_eq
      simp only [ew, k80, k82, k67, k65, kab, Bool.not_true, cond_false, if_true]
      by_cases a80 : a = 80
      · simp only [a80, decide_true, cond_true, if_true]; exact ⟨_, rfl⟩
      by_cases ab : a = b
      · subst ab
        by_cases c88 : 88 < c.toNat
        · exact ⟨0, by simp [a80, c88, show (c.toNat : Int) - 64 > 24 by omega]⟩
        · have c88' : ¬ (c.toNat : Int) - 64 > 24 := by omega
          simp only [a80, c88, c88', decide_true, decide_false, Bool.not_true, cond_false, ne_eq, not_true_eq_false, or_self, if_false]
          by_cases e1 : a = 82
          · exact ⟨_, by simp only [e1, decide_true, cond_true, if_true]; rfl⟩
          by_cases e2 : a = 67
          · exact ⟨_, by simp only [e1, e2, decide_true, decide_false, cond_true, cond_false, if_true, if_false]; rfl⟩
          by_cases e3 : a = 65
          · exact ⟨_, by simp only [e1, e2, e3, decide_true, decide_false, cond_true, cond_false, if_true, if_false]; rfl⟩
          · exact ⟨_, by simp only [e1, e2, e3, decide_false, cond_false, if_false]; rfl⟩
      · exact ⟨0, by simp [a80, ab]⟩
  · have h3' : ¬ (s.size : Int) = 3 := by omega
    exact ⟨0, by simp only [h0, h3', decide_false, cond_false, Bool.not_false, cond_true, mk_not h0 h3]⟩
end Go.Proofs.YtmcmkdiefpepnaaDoor.RH
