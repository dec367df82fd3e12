/-
  Part of a proof by the engine: texts that a program of ours printed, or plain lemmas on them. No condition but what each theorem says.
-/
import Derived.Test.YtgkejafaggaocaaEng5
set_option linter.unusedVariables false
set_option linter.unusedSimpArgs false
namespace Go.Proofs.Ytgkejafaggaocaa.EX
open Go Go.Eng Go.RowKit
theorem arr_of {vals : Array Value} {l : List Value} (h : vals.toList = l) : vals = l.toArray := by cases vals; simpa using h
theorem reps1 {w : World} {S : St} {x : AVal} {xs : List AVal} {l : List Value} (h : RepAs w S (x :: xs) l) : ∃ v vs, l = v :: vs ∧ RepA w S x v ∧ RepAs w S xs vs := by
  cases l with
  | nil => exact h.elim
  | cons v vs => exact ⟨v, vs, rfl, h.1, h.2⟩
theorem reps0 {w : World} {S : St} {l : List Value} (h : RepAs w S [] l) : l = [] := by
  cases l with
  | nil => rfl
  | cons v vs => exact h.elim
theorem repL_ints {w : World} {S : St} {k : IntKind} : ∀ {zs : List Int} {vs : List Value}, RepL w S (zs.map (Cell.int k)) vs ↔ vs = zs.map (Value.int k)
  | [], vs => by cases vs <;> simp [RepL]
  | z :: zs, [] => by simp [RepL]
  | z :: zs, v :: vs => by
    simp only [List.map_cons, RepL, List.cons.injEq]
    exact and_congr Iff.rfl repL_ints
end Go.Proofs.Ytgkejafaggaocaa.EX
