/-
  The engine: a law's parameters as the engine's values; what a law's contract says.
-/
import Derived.Test.YtmcmkdiefpepnaaDoorEngY
import Derived.Laws.Cover2
import Derived.Carry
set_option linter.unusedSimpArgs false
set_option linter.unusedVariables false
namespace Go.Eng
open Go.ChangeShapes Go.WideShapes Go.Deep Go.RowKit
def aggOf (P : Program) (t : TypeId) : Bool := match P.underlying t with
  | some (.struct _) => true
  | _ => false
def isArr (P : Program) (t : TypeId) : Bool := match P.underlying t with
  | some (.array ..) => true
  | _ => false
def avOf : Bool → (ks : List Kind) → denKs ks → AVal
  | true, ks, z => .agg (encKs ks z)
  | false, ks, z => match encKs ks z with
    | [c] => .c c
    | _ => .tup []
section
variable {H : Type} {enc : TypeId × Value → H} {P : Program} {W : World} {base : Nat} {spare : Nat → Bool} {held : Bool}
theorem openA {d : Nat} {t : TypeId} {ks : List Kind} {r : Reach} {b0 : Nat} {v : Value} {x : DataW H} {p : List MemPlace} (hk : kindsOf P d t = some ks) (hl : lineOk P d t = true) (hna : isArr P t = false) (hv : Value.okWide P W r b0 t v)
    (h : DataW.Trod enc P W base spare held t v x p) : ∃ z : denKs ks, RepA W (St0 W) (avOf (aggOf P t) ks z) v ∧ wfKs ks z := by
  obtain ⟨fuel, hf⟩ := h
  obtain ⟨z, h1, h2⟩ := open_kinds hk hl hf
  refine ⟨z, ?_, h2⟩
  have hr : RepL W (St0 W) (encKs ks z) v.cells.toList := encKs_rep (S := St0 W) (kinds_flat hk) h1
  have one : v.cells = #[v] → v.oneCell' = true → aggOf P t = false → RepA W (St0 W) (avOf (aggOf P t) ks z) v := fun hc h1 ha => by
    rw [ha]
    rw [hc] at hr
    simp only [avOf]
    cases he : encKs ks z with
    | nil => rw [he] at hr; exact hr.elim
    | cons c cs =>
      rw [he] at hr
      cases cs with
      | nil => exact ⟨hr.1, h1⟩
      | cons _ _ => exact hr.2.elim
  cases d with
  | zero => cases hk
  | succ d =>
    cases hu : P.underlying t with
    | none => simp [kindsOf, hu] at hk
    | some ty =>
      cases ty with
      | bool => obtain ⟨b, rfl⟩ := okWide_bool hu hv; exact one rfl rfl (by simp [aggOf, hu])
      | int k => obtain ⟨b, rfl⟩ := okWide_int hu hv; exact one rfl rfl (by simp [aggOf, hu])
      | string => obtain ⟨b, rfl⟩ := okWide_string hu hv; exact one rfl rfl (by simp [aggOf, hu])
      | float k => obtain ⟨b, rfl⟩ := okWide_float hu hv; exact one rfl rfl (by simp [aggOf, hu])
      | slice e => obtain ⟨a, len, cap, rfl⟩ := okWide_slice hu hv; exact one rfl rfl (by simp [aggOf, hu])
      | struct fs =>
        obtain ⟨cs, rfl, _⟩ := okWide_struct hu hv
        have ha : aggOf P t = true := by simp [aggOf, hu]
        rw [ha]
        exact ⟨cs.toList, by simp, by simpa [Value.cells] using hr⟩
      | array n e => simp [isArr, hu] at hna
      | _ => simp [kindsOf, hu] at hk
/-- What a law's contract says: it answers true, and what there was is as it was. -/
theorem law_true {gl : Nat → Option (List Cell)} {f : FuncId} {g : Sg} (h : Sound P gl f g) (hg : GlOk gl W (St0 W)) {vals : Array Value} {x : g.ins.den} {y : g.β} (hins : g.ins.h.length = 0)
    (hr : RepAs W (St0 W) ((encT g.ins.t x.1).map (·.2)) vals.toList) (hy : g.fn x = some y) (hout : encT g.outs.t (g.dn y).1 = [(0, .c (.bool true))]) :
    Calls P f vals W fun e w' => e = .returned (.bool true) ∧ Below W.heap.size W w' := by
  refine (h.law hg hins hr hy).mono ?_
  rintro e w' ⟨v, rfl, ⟨p, r, S', h1, h2⟩, hb⟩
  rw [hout] at h1
  simp only [List.cons.injEq, Prod.mk.injEq, and_true] at h1
  obtain ⟨_, rfl⟩ := h1
  have : v = .bool true := h2.1
  exact ⟨by rw [this], hb⟩
end
/-- The readings of a row's variables, one by one. -/
theorem vars_cons {H : Type} {enc : TypeId × Value → H} {P : Program} {w : World} {spare : Nat → Bool} {n : String} {ns : List String} {gs : List (DataW H)} {ps : List MemPlace} (h : DataW.TrodVars enc P w spare (n :: ns) gs ps) : ∃ d ds ps', gs = d :: ds ∧ DataW.TrodVars enc P w spare ns ds ps' := by
  cases gs with
  | nil => exact h.elim
  | cons d ds =>
    obtain ⟨g, t, cs, fuel, p, q, _, _, _, _, hs, _⟩ := h
    exact ⟨d, ds, _, rfl, hs⟩
theorem vars_nil {H : Type} {enc : TypeId × Value → H} {P : Program} {w : World} {spare : Nat → Bool} {gs : List (DataW H)} {ps : List MemPlace} (h : DataW.TrodVars enc P w spare [] gs ps) : gs = [] := (trodVars_none h).1
end Go.Eng
