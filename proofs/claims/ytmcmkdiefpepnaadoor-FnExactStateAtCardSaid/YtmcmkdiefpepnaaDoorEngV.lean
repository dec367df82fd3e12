/-
  The engine: its way in (a law's call) and a door for contracts proved elsewhere.
-/
import Derived.Test.YtmcmkdiefpepnaaDoorEngU
import Derived.Below
set_option linter.unusedSimpArgs false
set_option linter.unusedVariables false
namespace Go.Eng
open Go.RowKit
section
variable {P : Program}

/-- At the start nothing is one's own, and nobody writes what there is. -/
def St0 (w : World) : St := ⟨fun _ => none, fun b => b < w.heap.size⟩
theorem Inv.start {gl : Nat → Option (List Cell)} {w : World} (hg : GlOk gl w (St0 w)) : Inv (FdOf gl w (St0 w) 0) 0 (St0 w) ⟨[], []⟩ noAct w :=
  { defers := rfl, size := rfl, tmps := (fun t v ht => by cases ht), objs := (fun n o ho => by cases ho), news := (fun n _ => rfl), wr := (fun n o v b ho => by cases ho), dis := (fun n m o p v u b _ ho => by cases ho),
    imm := fun b hb => ⟨hb, .inl hb⟩, imm0 := fun b hb => hb, own := (fun j hj => absurd hj (Nat.not_lt_zero j)), frame := fun _ _ _ => rfl, os := rfl, tape := rfl, output := rfl, grow := Nat.le_refl _, glob := hg }

/-- What a contract says of a call out of the blue. -/
theorem Sound.law {gl : Nat → Option (List Cell)} {f : FuncId} {g : Sg} (h : Sound P gl f g) {w : World} (hg : GlOk gl w (St0 w)) {vals : Array Value} {x : g.ins.den} {y : g.β} (hins : g.ins.h.length = 0)
    (hr : RepAs w (St0 w) ((encT g.ins.t x.1).map (·.2)) vals.toList) (hy : g.fn x = some y) :
    Calls P f vals w fun e w' => ∃ v, e = .returned v ∧ (∃ p r S', encT g.outs.t (g.dn y).1 = [(p, r)] ∧ RepA w' S' r v) ∧ Below w.heap.size w w' := by
  have hI : Inv (FdOf gl w (St0 w) g.ins.h.length) 0 (St0 w) ⟨[], encH 0 g.ins.h x.2⟩ noAct w := by
    have h0 : encH 0 g.ins.h x.2 = [] := by
      have := encH_length (l := g.ins.h) (j := 0) (x := x.2)
      rw [hins] at this
      exact List.length_eq_zero_iff.1 this
    rw [h0, hins]
    exact Inv.start hg
  refine (h w (St0 w) vals x y hI hr hy).mono ?_
  rintro e w' ⟨v, S', rfl, ⟨p, r, h1, h2⟩, hI'⟩
  refine ⟨v, rfl, ⟨p, r, S', h1, h2⟩, ⟨hI'.os, hI'.tape, hI'.output, hI'.grow, fun b hb => hI'.frame b hb ?_⟩⟩
  rintro ⟨n, v, hn, _⟩
  rw [hins] at hn
  omega

/-- A contract proved elsewhere, of a function that neither takes nor gives what is one's own. -/
theorem sound_ext {gl : Nat → Option (List Cell)} {f : FuncId} {g : Sg} (hins : g.ins.h.length = 0) (hout : g.outs.h.length = 0)
    (h : ∀ (w : World) (S : St) (vals : Array Value) (x : g.ins.den) (y : g.β), GlOk gl w S → RepAs w S ((encT g.ins.t x.1).map (·.2)) vals.toList → g.fn x = some y →
      Calls P f vals w fun e w' => ∃ v, e = .returned v ∧ (∃ p r, encT g.outs.t (g.dn y).1 = [(p, r)] ∧ RepA w' S r v) ∧ Below w.heap.size w w') : Sound P gl f g := by
  intro w S vals x y hI hr hy
  refine (h w S vals x y hI.glob hr hy).mono ?_
  rintro e w' ⟨v, rfl, hv, hb⟩
  refine ⟨v, S, rfl, hv, ?_⟩
  have h0 : encH 0 g.ins.h x.2 = [] := by
    have := encH_length (l := g.ins.h) (j := 0) (x := x.2)
    rw [hins] at this
    exact List.length_eq_zero_iff.1 this
  have h1 : encH 0 g.outs.h (g.dn y).2 = [] := by
    have := encH_length (l := g.outs.h) (j := 0) (x := (g.dn y).2)
    rw [hout] at this
    exact List.length_eq_zero_iff.1 this
  rw [h0] at hI
  rw [h1]
  exact hI.world (fun _ => False) (fun _ hx => hx.elim) (fun b hlt _ => hb.block b hlt) hb.size hb.os hb.tape hb.output
end
end Go.Eng
