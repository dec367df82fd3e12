/-
  From data that read to pure values: what a parameter's reading tells, kind by kind (numbers, bools, strings, slices, structs), for any type. No condition.
-/
import Derived.Test.YtmcmkdiefpepnaaDoorWWords
import Derived.Deep.Slices
import Derived.Deep.Fields
import Derived.ChangeSame
import Derived.Lib.SmallJoins
namespace Go.Proofs.YtmcmkdiefpepnaaDoor.Open
open Go Go.ChangeShapes Go.WideShapes Go.Deep Go.RowKit Go.Proofs.YtmcmkdiefpepnaaDoorW.PrintWords
section
variable {H : Type} {enc : TypeId × Value → H} {P : Program} {w : World} {base : Nat} {spare : Nat → Bool} {held : Bool}

/-- Whatever reads at type t is of the kind d, and good. -/
def Opens {H : Type} (enc : TypeId × Value → H) (P : Program) (w : World) (base : Nat) (spare : Nat → Bool) (held : Bool) (t : TypeId) {α : Type} (d : Kd α) (g : α → Prop) : Prop :=
  ∀ fuel cs x, DataW.trod enc P w base spare held fuel t cs = some x → ∃ a, d.K w a cs ∧ g a
/-- The same of fields that lie in line from a place on. -/
def OpensAt {H : Type} (enc : TypeId × Value → H) (P : Program) (w : World) (base : Nat) (spare : Nat → Bool) (held : Bool) (fs : List Field) (o : Nat) {α : Type} (d : Kd α) (g : α → Prop) : Prop :=
  ∀ (fuel : Nat) (cs : List Value), cs.length = o + d.sz → (∀ f, f ∈ fs → ∃ x, DataW.trod enc P w base spare held fuel f.type ((cs.drop f.offset).take (P.cellsOf f.type)) = some x) → ∃ a, d.K w a (cs.drop o) ∧ g a

theorem opens_int {t : TypeId} {k : IntKind} (ht : P.underlying t = some (.int k)) : Opens enc P w base spare held t (Kd.int k) (fun n => (Lit.int k n).wf = true) := fun fuel cs x h => by
  obtain ⟨n, rfl, _, hw⟩ := DataW.trod_int ht h
  exact ⟨n, rfl, hw⟩
theorem opens_bool {t : TypeId} (ht : P.underlying t = some .bool) : Opens enc P w base spare held t Kd.bool (fun _ => True) := fun fuel cs x h => by
  obtain ⟨b, rfl, _⟩ := DataW.trod_bool ht h
  exact ⟨b, rfl, trivial⟩
theorem opens_string {t : TypeId} (ht : P.underlying t = some .string) : Opens enc P w base spare held t Kd.string (fun s => s.size ≤ maxLen) := fun fuel cs x h => by
  obtain ⟨s, rfl, _, hs⟩ := DataW.trod_string ht h
  exact ⟨s, rfl, hs⟩
theorem choose_list {α : Type} (p : Nat → α → Prop) (n : Nat) (h : ∀ i, i < n → ∃ a, p i a) : ∃ l : List α, l.length = n ∧ ∀ i a, l[i]? = some a → p i a := by
  induction n with
  | zero => exact ⟨[], rfl, fun i a h => by simp at h⟩
  | succ n ih =>
    obtain ⟨l, hl, hp⟩ := ih (fun i hi => h i (by omega))
    obtain ⟨a, ha⟩ := h n (by omega)
    refine ⟨l ++ [a], by simp [hl], fun i b hb => ?_⟩
    by_cases hi : i < n
    · exact hp i b (by rw [List.getElem?_append_left (by omega)] at hb; exact hb)
    · have hlt : i < (l ++ [a]).length := (List.getElem?_eq_some_iff.1 hb).1
      obtain rfl : i = n := by simp [hl] at hlt; omega
      rw [← hl, List.getElem?_concat_length] at hb
      cases hb
      exact ha
theorem opens_slice {t e : TypeId} {α : Type} {d : Kd α} {g : α → Prop} (ht : P.underlying t = some (.slice e)) (hc : P.cellsOf e = d.sz) (ho : Opens enc P w base spare held e d g) :
    Opens enc P w base spare held t (Kd.slice e d) (fun l => l.length ≤ maxLen ∧ ∀ a, a ∈ l → g a) := fun fuel cs x h => by
  rcases open_slice ht h with ⟨rfl, _⟩ | ⟨a, len, cap, m, n, D, Pl, rfl, _, hl, hm, hmm, _, hi⟩
  · exact ⟨[], ⟨none, 0, rfl, Nat.le_refl _, rfl, by simp, fun h => by simp at h⟩, by simp [maxLen], fun a ha => by simp at ha⟩
  · have hlm : len ≤ m := by rw [hmm]; split <;> omega
    obtain ⟨l, hll, hp⟩ := choose_list (fun i b => ∃ c, w.cells? base (a.add (i * P.cellsOf e)) (P.cellsOf e) = some c ∧ d.K w b c ∧ g b) len (fun i hi' => by
      obtain ⟨c, h1, h2⟩ := hi i (by omega)
      obtain ⟨b, h3, h4⟩ := ho _ _ _ h2
      exact ⟨b, c, h1, h3, h4⟩)
    refine ⟨l, ⟨some a, cap, by rw [hll], by omega, rfl, by rw [hll]; unfold maxLen at hm; omega, fun _ => ⟨a, rfl, fun j p hj => ?_⟩⟩, by rw [hll]; omega, fun b hb => ?_⟩
    · obtain ⟨c, h1, h2, _⟩ := hp j p hj
      obtain ⟨_, h3, h4⟩ := World.cells?_some h1
      refine ⟨c, by rw [h3, hc], h2, fun i u hu => ?_⟩
      have hlt : i < c.length := (List.getElem?_eq_some_iff.1 hu).1
      have h5 := h4 i (by omega)
      rw [hu, Go.Deep.add_add, hc] at h5
      exact h5
    · obtain ⟨j, hj⟩ := List.getElem?_of_mem hb
      obtain ⟨_, _, _, h4⟩ := hp j b hj
      exact h4
theorem opensAt_one {f : Field} {o : Nat} {α : Type} {d : Kd α} {g : α → Prop} (hf : f.offset = o) (hc : P.cellsOf f.type = d.sz) (ho : Opens enc P w base spare held f.type d g) : OpensAt enc P w base spare held [f] o d g := fun fuel cs hl hx => by
  obtain ⟨x, hx⟩ := hx f (by simp)
  obtain ⟨a, h1, h2⟩ := ho _ _ _ hx
  rw [hf, hc, List.take_of_length_le (by simp; omega)] at h1
  exact ⟨a, h1, h2⟩
theorem opensAt_cons {f : Field} {fs : List Field} {o : Nat} {α β : Type} {d : Kd α} {d' : Kd β} {g : α → Prop} {g' : β → Prop} (hf : f.offset = o) (hc : P.cellsOf f.type = d.sz) (ho : Opens enc P w base spare held f.type d g)
    (hs : OpensAt enc P w base spare held fs (o + d.sz) d' g') : OpensAt enc P w base spare held (f :: fs) o (Kd.pair d d') (fun x => g x.1 ∧ g' x.2) := fun fuel cs hl hx => by
  obtain ⟨x, h0⟩ := hx f (by simp)
  obtain ⟨a, h1, h2⟩ := ho _ _ _ h0
  obtain ⟨b, h3, h4⟩ := hs fuel cs (by rw [hl]; show o + (d.sz + d'.sz) = _; omega) (fun f' hf' => hx f' (by simp [hf']))
  refine ⟨(a, b), ⟨(cs.drop o).take d.sz, cs.drop (o + d.sz), ?_, by rw [hf, hc] at h1; exact h1, h3⟩, h2, h4⟩
  rw [← List.drop_drop, List.take_append_drop]
theorem opens_struct {t : TypeId} {fs : Array Field} {α : Type} {d : Kd α} {g : α → Prop} (ht : P.underlying t = some (.struct fs)) (hc : P.cellsOf t = d.sz) (ho : OpensAt enc P w base spare held fs.toList 0 d g) :
    Opens enc P w base spare held t d g := fun fuel cs x h => by
  obtain ⟨xs, n, _, _, hl, hlen, hf⟩ := DataW.trod_struct ht h
  obtain ⟨a, h1, h2⟩ := ho n cs (by omega) (fun f hm => by
    obtain ⟨i, hi⟩ := List.getElem?_of_mem hm
    have hi' : fs[i]? = some f := by simpa using hi
    have hlt : i < xs.length := by rw [hlen]; exact (Array.getElem?_eq_some_iff.1 hi').1
    exact ⟨xs[i], (hf i f hi').trans (List.getElem?_eq_getElem hlt)⟩)
  exact ⟨a, h1, h2⟩
theorem opens_iso {t : TypeId} {α β : Type} {d : Kd α} {g : α → Prop} (f : β → α) (i : α → β) (hi : ∀ x, f (i x) = x) (ho : Opens enc P w base spare held t d g) : Opens enc P w base spare held t (Kd.iso d f) (fun b => g (f b)) := fun fuel cs x h => by
  obtain ⟨a, h1, h2⟩ := ho _ _ _ h
  exact ⟨i a, by show d.K w (f (i a)) cs; rw [hi]; exact h1, by show g (f (i a)); rw [hi]; exact h2⟩
/-- A parameter that is a struct: its value is its cells. -/
theorem open_agg {r : Reach} {b0 : Nat} {t : TypeId} {fs : Array Field} {α : Type} {d : Kd α} {g : α → Prop} {v : Value} {x : DataW H} {p : List MemPlace} (ht : P.underlying t = some (.struct fs))
    (ho : Opens enc P w base spare held t d g) (hv : Value.okWide P w r b0 t v) (h : DataW.Trod enc P w base spare held t v x p) : ∃ a cs, v = .agg ⟨cs⟩ ∧ d.K w a cs ∧ g a := by
  obtain ⟨⟨cs⟩, rfl, hsz⟩ := okWide_struct ht hv
  obtain ⟨fuel, hf⟩ := h
  obtain ⟨a, h1, h2⟩ := ho _ _ _ hf
  exact ⟨a, cs, rfl, by simpa [Value.cells] using h1, h2⟩
/-- A parameter that is a slice. -/
theorem open_row {r : Reach} {b0 : Nat} {t e : TypeId} {α : Type} {d : Kd α} {g : α → Prop} {v : Value} {x : DataW H} {p : List MemPlace} (ht : P.underlying t = some (.slice e)) (hc : P.cellsOf e = d.sz)
    (ho : Opens enc P w base spare held e d g) (hv : Value.okWide P w r b0 t v) (h : DataW.Trod enc P w base spare held t v x p) : ∃ (A : Option Addr) (c : Nat) (l : List α), v = .slice A l.length c ∧ l.length ≤ c ∧ d.C w A l.length l ∧ l.length ≤ maxLen ∧ ∀ a, a ∈ l → g a := by
  obtain ⟨a0, len, cap, rfl⟩ := okWide_slice ht hv
  obtain ⟨fuel, hf⟩ := h
  obtain ⟨l, ⟨A, c, h1, h2, h3⟩, h4, h5⟩ := opens_slice ht hc ho _ _ _ hf
  have e1 : [Value.slice a0 len cap] = [Value.slice A l.length c] := by simpa [Value.cells] using h1
  injection e1 with e2 _
  exact ⟨A, c, l, e2, h2, h3, h4, h5⟩
/-- The readings of a row's variables, one by one. -/
theorem vars_cons {n : String} {ns : List String} {gs : List (DataW H)} {ps : List MemPlace} (h : DataW.TrodVars enc P w spare (n :: ns) gs ps) : ∃ d ds ps', gs = d :: ds ∧ DataW.TrodVars enc P w spare ns ds ps' := by
  cases gs with
  | nil => exact h.elim
  | cons d ds =>
    obtain ⟨g, t, cs, fuel, p, q, _, _, _, _, hs, _⟩ := h
    exact ⟨d, ds, _, rfl, hs⟩
theorem vars_nil {gs : List (DataW H)} {ps : List MemPlace} (h : DataW.TrodVars enc P w spare [] gs ps) : gs = [] := (trodVars_none h).1
end
end Go.Proofs.YtmcmkdiefpepnaaDoor.Open
