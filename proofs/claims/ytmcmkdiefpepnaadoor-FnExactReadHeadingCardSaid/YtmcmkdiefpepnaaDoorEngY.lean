/-
  The engine: package variables as a row lays them, and the parameters of a law as the engine's values.
-/
import Derived.Test.YtmcmkdiefpepnaaDoorEngW2
import Derived.LaidMore
import Derived.OpenShut
import Derived.FnData
set_option linter.unusedSimpArgs false
set_option linter.unusedVariables false
namespace Go.Eng
open Go.ChangeShapes Go.WideShapes Go.Deep Go.RowKit
section
variable {P : Program} {W : World}
def GlOne (w : World) (S : St) (g : Nat) (cs : List Cell) : Prop :=
  S.imm g ∧ ∃ vs, RepL w ⟨fun _ => none, S.imm⟩ cs vs ∧ (∀ u ∈ vs, u.oneCell' = true) ∧ (∀ (j : Nat) u, vs[j]? = some u → w.cell? ⟨g, j, none⟩ = some u) ∧ ∃ t c, w.heap[g]? = some (.cells vs.toArray t c)
def glOf : List (Nat × List Cell) → Nat → Option (List Cell)
  | [], _ => none
  | p :: l, n => bif Nat.beq n p.1 then some p.2 else glOf l n
theorem glOf_ok {S : St} : ∀ {l : List (Nat × List Cell)}, (∀ p ∈ l, GlOne W S p.1 p.2) → GlOk (glOf l) W S
  | [], _, g, cs, h => by cases h
  | p :: l, hl, g, cs, h => by
    simp only [glOf] at h
    cases hb : Nat.beq g p.1 with
    | true =>
      rw [hb] at h
      simp only [cond_true, Option.some.injEq] at h
      have := beq_iff.1 hb
      subst this h
      exact hl p (by simp)
    | false =>
      rw [hb] at h
      exact glOf_ok (fun q hq => hl q (by simp [hq])) g cs h
theorem glOf_mono {gl' : Nat → Option (List Cell)} : ∀ {l : List (Nat × List Cell)}, (∀ p ∈ l, gl' p.1 = some p.2) → ∀ g cs, glOf l g = some cs → gl' g = some cs
  | [], _, g, cs, h => by cases h
  | p :: l, hl, g, cs, h => by
    simp only [glOf] at h
    cases hb : Nat.beq g p.1 with
    | true =>
      rw [hb] at h
      simp only [cond_true, Option.some.injEq] at h
      have := beq_iff.1 hb
      subst this h
      exact hl p (by simp)
    | false =>
      rw [hb] at h
      exact glOf_mono (fun q hq => hl q (by simp [hq])) g cs h
theorem glOne_of {name : String} {g : Nat} {cs : List Cell} {vs : List Value} (hg : P.globalNamed name = some g) (hv : W.var? P name = some vs.toArray)
    (hr : RepL W ⟨fun _ => none, (St0 W).imm⟩ cs vs) (h1 : ∀ u ∈ vs, u.oneCell' = true) : GlOne W (St0 W) g cs := by
  have hh : ∃ t c, W.heap[g]? = some (.cells vs.toArray t c) := by
    have h' := hv
    simp only [World.var?, hg, Option.bind_some] at h'
    cases hw : W.heap[g]? with
    | none => rw [hw] at h'; cases h'
    | some o =>
      rw [hw] at h'
      cases o with
      | cells cs t c => simp only [Option.some.injEq] at h'; subst h'; exact ⟨t, c, rfl⟩
      | _ => cases h'
  refine ⟨?_, vs, hr, h1, fun j u hj => by rw [World.var?_cell hg hv j]; simpa using hj, hh⟩
  obtain ⟨t, c, h⟩ := hh
  exact (Array.getElem?_eq_some_iff.1 h).1
/-- A string as a row writes it. -/
def litS {H : Type} (s : ByteArray) : DataW H := .lit (.string s.data.toList)
theorem trod_litS {H : Type} {enc : TypeId × Value → H} {w : World} {base : Nat} {sp : Nat → Bool} {held : Bool} {fuel : Nat} {t : TypeId} {cs : List Value} {s : ByteArray} {p : List MemPlace} (ht : P.underlying t = some .string)
    (h : DataW.trod enc P w base sp held fuel t cs = some (litS s, p)) : cs = [.string s] := by
  obtain ⟨s', rfl, hx, _⟩ := DataW.trod_string ht h
  simp only [litS, Prod.mk.injEq, DataW.lit.injEq, Lit.string.injEq] at hx
  have h2 := hx.1
  have : s' = s := by
    cases s'; cases s
    congr 1
    first | exact (Array.ext' h2.symm) | (apply Array.ext'; simpa [ByteArray.toList] using h2.symm)
  rw [this]
/-- A variable that is a list of strings. -/
theorem glOne_strs {name : String} {rest : List (String × DataW Unit)} {g : Nat} {t e : TypeId} (l : List ByteArray)
    (hg : P.globalNamed name = some g) (hty : (P.globals[g]?).map (·.type) = some t) (ht : P.underlying t = some (.slice e)) (he : P.underlying e = some .string) (hce : P.cellsOf e = 1)
    (h : laidMet P ((name, .slice (l.map litS) []) :: rest) W) : GlOne W (St0 W) g [.sl .str l] := by
  obtain ⟨ps, ⟨g', t', cs, fuel, p, q, hg', ht', hvar, hd, _, _⟩, _⟩ := h
  obtain rfl := Option.some.inj (hg.symm.trans hg')
  obtain rfl := Option.some.inj (hty.symm.trans ht')
  obtain ⟨a, cap, hcs, hcap, hel⟩ := Go.open_row ht hce hd
  rw [List.length_map] at hcs hcap
  have hc : cs = [Value.slice (some a) l.length cap].toArray := by cases cs; simp_all
  subst hc
  refine glOne_of hg hvar ⟨⟨some a, l.length, cap, rfl, rfl, hcap, (fun h => by cases h), ?_⟩, trivial⟩ (fun u hu => by simp at hu; subst hu; rfl)
  have hcell : ∀ i x, l[i]? = some x → W.cell? (a.add i) = some (.string x) := fun i x hx => by
    obtain ⟨v, n, q', hv, htr⟩ := hel i (litS x) (by rw [List.getElem?_map, hx]; rfl)
    have := trod_litS he htr
    simp only [List.cons.injEq, and_true] at this
    rw [← this]; exact hv
  cases hl : l with
  | nil => exact .inl rfl
  | cons x0 xs =>
    right
    have h0 := hcell 0 x0 (by rw [hl]; rfl)
    have ha0 : a.add 0 = a := by simp [Addr.add]
    rw [ha0] at h0
    obtain ⟨hlt, hsp⟩ := cell_lt h0
    refine ⟨a.block, a.off, by cases a; simp at hsp; simp [hsp], hlt, fun i y hy => ?_⟩
    have := hcell i y (by rw [hl]; exact hy)
    show W.cell? ⟨a.block, a.off + i * 1 + 0, none⟩ = some (.string y)
    rw [← this]
    congr 1
    cases a with
    | mk b o s =>
      simp at hsp
      subst hsp
      simp only [Addr.add]
      split
      · rename_i h0'; first | (simp; done) | (simp; omega)
      · simp
theorem cells_flat {α : Type} {cs : List Value} {l : List α} {f : α → Value} (hl : cs.length = l.length) (h : ∀ i x, l[i]? = some x → (cs.drop (i * 1)).take 1 = [f x]) : cs = l.map f := by
  apply List.ext_getElem?
  intro i
  rw [List.getElem?_map]
  cases hx : l[i]? with
  | none => rw [List.getElem?_eq_none_iff] at hx; rw [List.getElem?_eq_none (by omega)]; rfl
  | some x =>
    have h1 := h i x hx
    rw [Nat.mul_one] at h1
    have : (List.take 1 (List.drop i cs))[0]? = some (f x) := by rw [h1]; rfl
    rw [List.getElem?_take, if_pos (by omega), List.getElem?_drop, Nat.add_zero] at this
    rw [this]; rfl
/-- A variable that is an array of strings. -/
theorem glOne_arrS {name : String} {rest : List (String × DataW Unit)} {g : Nat} {t e : TypeId} (l : List ByteArray)
    (hg : P.globalNamed name = some g) (hty : (P.globals[g]?).map (·.type) = some t) (ht : P.underlying t = some (.array l.length e)) (he : P.underlying e = some .string) (hce : P.cellsOf e = 1) (hct : P.cellsOf t = l.length)
    (h : laidMet P ((name, .agg (l.map litS)) :: rest) W) : GlOne W (St0 W) g (l.map Cell.str) := by
  obtain ⟨ps, ⟨g', t', cs, fuel, p, q, hg', ht', hvar, hd, _, _⟩, _⟩ := h
  obtain rfl := Option.some.inj (hg.symm.trans hg')
  obtain rfl := Option.some.inj (hty.symm.trans ht')
  obtain ⟨xs, m, _, hx, hlen, hxl, hel⟩ := DataW.trod_array ht hd
  simp only [Prod.mk.injEq, DataW.agg.injEq] at hx
  have hcs : cs.toList = l.map Value.string := cells_flat (by rw [hlen, hct]) fun i x hx' => by
    have hi : i < l.length := (List.getElem?_eq_some_iff.1 hx').1
    have h1 := hel i hi
    rw [hce] at h1
    have h2 : (xs.map (·.1))[i]? = some (litS x) := by rw [← hx.1, List.getElem?_map, hx']; rfl
    rw [List.getElem?_map] at h2
    cases hxi : xs[i]? with
    | none => rw [hxi] at h2; cases h2
    | some z =>
      obtain ⟨z1, z2⟩ := z
      rw [hxi] at h1 h2
      simp only [Option.map_some, Option.some.injEq] at h2
      subst h2
      exact trod_litS he h1
  have hr : ∀ l : List ByteArray, RepL W ⟨fun _ => none, (St0 W).imm⟩ (l.map Cell.str) (l.map Value.string) := fun l => by
    induction l with
    | nil => trivial
    | cons x l ih => exact ⟨rfl, ih⟩
  refine glOne_of (vs := l.map Value.string) hg (by rw [hvar, ← hcs]) (hr l) (fun u hu => by obtain ⟨s, _, rfl⟩ := List.mem_map.1 hu; rfl)
/-- A variable that is an array of numbers. -/
theorem glOne_arrI {name : String} {rest : List (String × DataW Unit)} {g : Nat} {t e : TypeId} (k : IntKind) (l : List Int)
    (hg : P.globalNamed name = some g) (hty : (P.globals[g]?).map (·.type) = some t) (ht : P.underlying t = some (.array l.length e)) (he : P.underlying e = some (.int k)) (hce : P.cellsOf e = 1) (hct : P.cellsOf t = l.length)
    (h : laidMet P ((name, .agg (l.map fun z => .lit (.int k z))) :: rest) W) : GlOne W (St0 W) g (l.map (Cell.int k)) := by
  obtain ⟨ps, ⟨g', t', cs, fuel, p, q, hg', ht', hvar, hd, _, _⟩, _⟩ := h
  obtain rfl := Option.some.inj (hg.symm.trans hg')
  obtain rfl := Option.some.inj (hty.symm.trans ht')
  obtain ⟨xs, m, _, hx, hlen, hxl, hel⟩ := DataW.trod_array ht hd
  simp only [Prod.mk.injEq, DataW.agg.injEq] at hx
  have hcs : cs.toList = l.map (Value.int k) := cells_flat (by rw [hlen, hct]) fun i x hx' => by
    have hi : i < l.length := (List.getElem?_eq_some_iff.1 hx').1
    have h1 := hel i hi
    rw [hce] at h1
    have h2 : (xs.map (·.1))[i]? = some (DataW.lit (.int k x)) := by rw [← hx.1, List.getElem?_map, hx']; rfl
    rw [List.getElem?_map] at h2
    cases hxi : xs[i]? with
    | none => rw [hxi] at h2; cases h2
    | some z =>
      obtain ⟨z1, z2⟩ := z
      rw [hxi] at h1 h2
      simp only [Option.map_some, Option.some.injEq] at h2
      subst h2
      obtain ⟨n, hn, hx2, _⟩ := DataW.trod_int he h1
      simp only [Prod.mk.injEq, DataW.lit.injEq, Lit.int.injEq] at hx2
      rw [hn, hx2.1.2]
  have hr : ∀ l : List Int, RepL W ⟨fun _ => none, (St0 W).imm⟩ (l.map (Cell.int k)) (l.map (Value.int k)) := fun l => by
    induction l with
    | nil => trivial
    | cons x l ih => exact ⟨rfl, ih⟩
  refine glOne_of (vs := l.map (Value.int k)) hg (by rw [hvar, ← hcs]) (hr l) (fun u hu => by obtain ⟨s, _, rfl⟩ := List.mem_map.1 hu; rfl)
end
end Go.Eng
