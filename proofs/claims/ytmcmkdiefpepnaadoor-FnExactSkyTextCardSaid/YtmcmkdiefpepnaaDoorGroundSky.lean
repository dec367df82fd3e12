/-
  From a row's word of a laid variable that holds a slice of strings to the fact that the walks ask. No condition.
-/
import Derived.Test.YtmcmkdiefpepnaaDoorRows
import Derived.Test.YtmcmkdiefpepnaaDoorExtSky
import Derived.LaidMore
import Derived.Deep.Slices
import Derived.Stop.LaidErr
namespace Go.Proofs.YtmcmkdiefpepnaaDoor.Ext
open Go Go.ChangeShapes Go.WideShapes Go.RowKit Go.Proofs.YtmcmkdiefpepnaaDoorW.PrintWords

theorem varRow_of_head {P : Program} {W : World} {name : String} {rest : List (String × DataW Unit)} {g : Nat} {t e : TypeId} (l : List ByteArray)
    (hg : P.globalNamed name = some g) (hty : (P.globals[g]?).map (·.type) = some t) (ht : P.underlying t = some (.slice e)) (he : P.underlying e = some .string) (hce : P.cellsOf e = 1) (hsm : l.length < 8796093022208)
    (h : laidMet P ((name, .slice (l.map fun s => .lit (.string s.data.toList)) []) :: rest) W) : VarRow g l W := by
  obtain ⟨ps, ⟨g', t', cs, fuel, p, q, hg', ht', hvar, hd, _, _⟩, _⟩ := h
  obtain rfl := Option.some.inj (hg.symm.trans hg')
  obtain rfl := Option.some.inj (hty.symm.trans ht')
  obtain ⟨a, cap, hcs, hcap, hel⟩ := Go.open_row ht hce hd
  rw [List.length_map] at hcs hcap
  have hc0 : W.cell? ⟨g, 0, none⟩ = some (.slice (some a) l.length cap) := by
    rw [World.var?_cell hg hvar 0]
    have : cs = #[.slice (some a) l.length cap] := by cases cs; simp_all
    rw [this]; rfl
  refine ⟨some a, cap, hc0, hcap, ⟨rfl, by omega, fun _ => ⟨a, rfl, fun j x hj => ?_⟩⟩⟩
  obtain ⟨v, n, q', hv, htr⟩ := hel j (.lit (.string x.data.toList)) (by rw [List.getElem?_map, hj]; rfl)
  obtain ⟨s, hs, hx, _⟩ := DataW.trod_string he htr
  have hsx : s = x := by
    simp only [Prod.mk.injEq, DataW.lit.injEq, Lit.string.injEq] at hx
    have := hx.1
    cases s; cases x
    congr 1
    first | exact (Array.ext' this.symm) | (apply Array.ext'; simpa [ByteArray.toList] using this.symm)
  subst hsx
  obtain rfl : v = .string s := by simpa using hs
  refine ⟨[.string s], rfl, rfl, fun i u hu => ?_⟩
  have hi : i = 0 := by
    have := (List.getElem?_eq_some_iff.1 hu).1
    simp at this
    exact this
  subst hi
  obtain rfl : Value.string s = u := by simpa using hu
  have e1 : j * (Kd.string).sz + 0 = j := by show j * 1 + 0 = j; omega
  rw [e1]
  exact hv

theorem Gcov.head {W : World} {rest : List (String × DataW Unit)} (h : laidMet Tryd.prog (("loop.example/g00051/impl.covers", Rows.laid_loop_example_g00051_impl_covers) :: rest) W) : Gcov W :=
  varRow_of_head coverL (t := 107) (e := 9) (by kernel_rfl) (by kernel_rfl) Tryd.underlying107 Tryd.underlying9 (by kernel_rfl) (by decide) h
theorem Gwea.head {W : World} {rest : List (String × DataW Unit)} (h : laidMet Tryd.prog (("loop.example/g00051/impl.weathers", Rows.laid_loop_example_g00051_impl_weathers) :: rest) W) : Gwea W :=
  varRow_of_head weatherL (t := 107) (e := 9) (by kernel_rfl) (by kernel_rfl) Tryd.underlying107 Tryd.underlying9 (by kernel_rfl) (by decide) h
end Go.Proofs.YtmcmkdiefpepnaaDoor.Ext
