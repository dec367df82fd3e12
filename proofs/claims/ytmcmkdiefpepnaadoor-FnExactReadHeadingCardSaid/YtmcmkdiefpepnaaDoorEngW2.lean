/-
  The engine: one parameter, opened.
-/
import Derived.Test.YtmcmkdiefpepnaaDoorEngW
set_option linter.unusedSimpArgs false
set_option linter.unusedVariables false
namespace Go.Eng
open Go.ChangeShapes Go.WideShapes Go.Deep Go.RowKit
/-- The shape of a parameter of these kinds, by value. -/
def scOf : Kind → SC
  | .int k => .int k
  | .bool => .bool
  | .str => .str
  | .flt => .flt
  | .sl k => .sl k
  | .pair _ _ => .nil
theorem scOf_den {k : Kind} (h : flatK k = true) : (scOf k).den = k.den := by cases k <;> first | rfl | cases h
def encKs : (ks : List Kind) → denKs ks → List Cell
  | [], _ => []
  | .int k :: ks, x => .int k x.1 :: encKs ks x.2
  | .bool :: ks, x => .bool x.1 :: encKs ks x.2
  | .str :: ks, x => .str x.1 :: encKs ks x.2
  | .flt :: ks, x => .flt x.1 :: encKs ks x.2
  | .sl k :: ks, x => .sl k x.1 :: encKs ks x.2
  | .pair a b :: ks, x => .nil :: encKs ks x.2
theorem encKs_rep {w : World} {S : St} : ∀ {ks : List Kind} {x : denKs ks} {cs : List Value}, (∀ k ∈ ks, flatK k = true) → RepKs w S.imm ks x cs → RepL w S (encKs ks x) cs
  | [], _, [], _, _ => trivial
  | [], _, _ :: _, _, h => h.elim
  | _ :: _, _, [], _, h => h.elim
  | .int k :: ks, x, c :: cs, hf, h => ⟨Option.some.inj h.1, encKs_rep (fun l hl => hf l (by simp [hl])) h.2⟩
  | .bool :: ks, x, c :: cs, hf, h => ⟨Option.some.inj h.1, encKs_rep (fun l hl => hf l (by simp [hl])) h.2⟩
  | .str :: ks, x, c :: cs, hf, h => ⟨Option.some.inj h.1, encKs_rep (fun l hl => hf l (by simp [hl])) h.2⟩
  | .flt :: ks, x, c :: cs, hf, h => ⟨by obtain ⟨b, h1, h2⟩ := h.1; exact ⟨b, Option.some.inj h1, h2⟩, encKs_rep (fun l hl => hf l (by simp [hl])) h.2⟩
  | .sl k :: ks, x, c :: cs, hf, h => ⟨h.1, encKs_rep (fun l hl => hf l (by simp [hl])) h.2⟩
  | .pair a b :: ks, x, c :: cs, hf, h => by have := hf (.pair a b) (by simp); cases this
end Go.Eng
