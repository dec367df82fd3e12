/-
  The engine: its way in (a law's call) and a door for contracts proved elsewhere.
-/
import Derived.Test.YtmcmkdiefpepnaaDoorEngU
import Derived.Below
set_option linter.unusedSimpArgs false
set_option linter.unusedVariables false
namespace Go.Eng
open Go.RowKit
section
variable {P : Program}

/-- At the start nothing is one's own, and nobody writes what there is. -/
def St0 (w : World) : St := ⟨fun _ => none, fun b => b < w.heap.size⟩
theorem Inv.start {gl : Nat → Option (List Cell)} {w : World} (hg : GlOk gl w (St0 w)) : Inv (FdOf gl w (St0 w) 0) 0 (St0 w) ⟨[], []⟩ noAct w :=
  { defers := rfl, size := rfl, tmps := (fun t v ht => by cases ht), objs := (fun n o ho => by cases ho), news := (fun n _ => rfl), wr := (fun n o v b ho => by cases ho), dis := (fun n m o p v u b _ ho => by cases ho),
    imm := fun b hb => ⟨hb, .inl hb⟩, imm0 := fun b hb => hb, own := (fun j hj => absurd hj (Nat.not_lt_zero j)), frame := fun _ _ _ => rfl, os := rfl, tape := rfl, output := rfl, grow := Nat.le_refl _, glob := hg }

/-- What a contract says of a call out of the blue. -/
theorem Sound.law {gl : Nat → Option (List Cell)} {f : FuncId} {g : Sg} (h : Sound P gl f g) {w : World} (hg : GlOk gl w (St0 w)) {vals : Array Value} {x : g.ins.den} {y : g.β} (hins : g.ins.h.length = 0)
    (hr : RepAs w (St0 w) ((encT g.ins.t x.1).map (·.2)) vals.toList) (hy : g.fn x = some y) :
    Calls P f vals w fun e w' => ∃ v, e = .returned v ∧ (∃ p r S', encT g.outs.t (g.dn y).1 = [(p, r)] ∧ RepA w' S' r v) ∧ Below w.heap.size w w' := by
  have hI : Inv (FdOf gl w (St0 w) g.ins.h.length) 0 (St0 w) ⟨[], encH 0 g.ins.h x.2⟩ noAct w := by
    have h0 : encH 0 g.ins.h x.2 = [] := by
      have := encH_length (l := g.ins.h) (j := 0) (x := x.2)
      rw [hins] at this
      exact List.length_eq_zero_iff.1 this
    rw [h0, hins]
    exact Inv.start hg
  refine (h w (St0 w) vals x y hI hr hy).mono ?_
  rintro e w' ⟨v, S', rfl, ⟨p, r, h1, h2⟩, hI'⟩
  refine ⟨v, rfl, ⟨p, r, S', h1, h2⟩, ⟨hI'.os, hI'.tape, hI'.output, hI'.grow, fun b hb => hI'.frame b hb ?_⟩⟩
  rintro ⟨n, v, hn, _⟩
  rw [hins] at hn
  omega

/-- A contract proved elsewhere, of a function that neither takes nor gives what is one's own. -/
theorem sound_ext {gl : Nat → Option (List Cell)} {f : FuncId} {g : Sg} (hins : g.ins.h.length = 0) (hout : g.outs.h.length = 0)
    (h : ∀ (w : World) (S : St) (vals : Array Value) (x : g.ins.den) (y : g.β), GlOk gl w S → RepAs w S ((encT g.ins.t x.1).map (·.2)) vals.toList → g.fn x = some y →
      Calls P f vals w fun e w' => ∃ v, e = .returned v ∧ (∃ p r, encT g.outs.t (g.dn y).1 = [(p, r)] ∧ RepA w' S r v) ∧ Below w.heap.size w w') : Sound P gl f g := by
  intro w S vals x y hI hr hy
  refine (h w S vals x y hI.glob hr hy).mono ?_
  rintro e w' ⟨v, rfl, hv, hb⟩
  refine ⟨v, S, rfl, hv, ?_⟩
  have h0 : encH 0 g.ins.h x.2 = [] := by
    have := encH_length (l := g.ins.h) (j := 0) (x := x.2)
    rw [hins] at this
    exact List.length_eq_zero_iff.1 this
  have h1 : encH 0 g.outs.h (g.dn y).2 = [] := by
    have := encH_length (l := g.outs.h) (j := 0) (x := (g.dn y).2)
    rw [hout] at this
    exact List.length_eq_zero_iff.1 this
  rw [h0] at hI
  rw [h1]
  exact hI.world (fun _ => False) (fun _ hx => hx.elim) (fun b hlt _ => hb.block b hlt) hb.size hb.os hb.tape hb.output

/-- An object's own block is written, new blocks are laid; the world elsewhere is as it was. -/
theorem Inv.rewriteG {Fr : Fd} {nt : Nat} {S : St} {e : Env} {a : Act} {w : World} (h : Inv Fr nt S e a w) {n : Nat} {o o' : Obj} {v : Value} {b : Nat} (hn : e.h.get n = some o) (hm : o.mut = true) (hv : S.val n = some v) (hbv : blk v = some b) {w' : World}
    (hb : ∀ k, k < w.heap.size → k ≠ b → w'.heap[k]? = w.heap[k]?) (hs : w.heap.size ≤ w'.heap.size) (ho : w'.os = w.os) (ht : w'.tape = w.tape) (hout : w'.output = w.output)
    (hr : RepO w' S n o') : Inv Fr nt S ⟨e.t, e.h.set n o'⟩ a w' := by
  have hw := h.wr n o v b hn hm hv hbv
  have hd : ∀ m p u, m ≠ n → e.h.get m = some p → p.mut = true → S.val m = some u → blk u ≠ some b := fun m p u hmn hp hpm hu hc => h.dis m n p o u v b hmn hp hn hpm hm hu hv hc hbv
  have h1 := h.kill hn
  have h2 := h1.world (w' := w') (fun k => k = b) (fun k hk => by
    subst hk
    refine ⟨hw.1, hw.2, fun m p u hp hpm hu => ?_⟩
    rw [AL.get_set] at hp
    split at hp
    · cases hp; cases hpm
    · rename_i hmn; exact hd m p u hmn hp hpm hu) (fun k hlt hk => hb k hlt hk) hs ho ht hout
  have h3 := h2.set (n := n) (o := o') (v := v) (.inr hv) (by rw [St.bind_same hv]; exact hr) (fun k _ hk => by
    rw [hbv] at hk; cases hk
    refine ⟨hw.1, hw.2, fun m p u hmn hp hpm hu => ?_⟩
    rw [AL.get_set, if_neg hmn] at hp
    exact hd m p u hmn hp hpm hu)
  rw [St.bind_same hv] at h3
  refine h3.congr fun m => ?_
  simp only [AL.get_set]
  split <;> rfl
/-- More package variables may be known. -/
theorem Sound.mono {gl gl' : Nat → Option (List Cell)} (h : ∀ g cs, gl g = some cs → gl' g = some cs) {f : FuncId} {g : Sg} (hlive : (g.ins.h.all SO.live) = true) (hs : Sound P gl f g) : Sound P gl' f g := by
  intro w S vals x y hI hr hy
  have hI0 : Inv (FdOf gl w S g.ins.h.length) 0 S ⟨[], encH 0 g.ins.h x.2⟩ noAct w := { hI with glob := fun k cs hk => hI.glob k cs (h k cs hk) }
  refine (hs w S vals x y hI0 hr hy).mono ?_
  rintro e w' ⟨v, S', rfl, hv, hI'⟩
  refine ⟨v, S', rfl, hv, ?_⟩
  have live : ∀ (l : List SO) (i n : Nat) (x : denO l), l.all SO.live = true → i ≤ n → n < i + l.length → ∃ o, AL.get (encH i l x) n = some o ∧ o.mut = true := fun l => by
    induction l with
    | nil => intro i n x _ h1 h2; simp at h2; omega
    | cons so l ih =>
      intro i n x hl h1 h2
      simp only [List.all_cons, Bool.and_eq_true] at hl
      simp only [encH, AL.get]
      cases hb : Nat.beq n i with
      | true => exact ⟨_, rfl, by cases so <;> first | rfl | cases hl.1⟩
      | false =>
        have : n ≠ i := fun hc => by rw [beq_iff.2 hc] at hb; cases hb
        exact ih (i + 1) n x.2 hl.2 (by omega) (by simp only [List.length_cons] at h2; omega)
  have keep : Keeps S.imm w w' := fun b hb => by
    refine hI'.frame b (hI.imm b hb).1 ?_
    rintro ⟨n, u, hn, hu, hbu⟩
    obtain ⟨o, h1, h2⟩ := live g.ins.h 0 n x.2 hlive (Nat.zero_le _) (by omega)
    exact (hI.wr n o u b h1 h2 hu hbu).1 hb
  have him : ∀ b, S.imm b → S'.imm b := fun b hb => hI'.imm0 b hb
  exact { hI' with glob := hI.glob.keep (S := ⟨fun _ => none, S.imm⟩) (S' := ⟨fun _ => none, S'.imm⟩) ⟨(fun _ _ h => nomatch h), him⟩ keep }
end
end Go.Eng
