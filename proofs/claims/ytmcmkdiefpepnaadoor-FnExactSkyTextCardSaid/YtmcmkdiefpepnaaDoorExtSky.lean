/-
  The two lists of words that package-level variables hold, as facts that a walk asks; strings.Join by the shelf's contract. Conditions: the joined text has at most 2^47 bytes.
-/
import Derived.Test.YtmcmkdiefpepnaaDoorShelfJoin
import Derived.Test.YtmcmkdiefpepnaaDoorWWords
import Derived.Below
import Derived.WalkKit
import Derived.OpenShut
namespace Go.Proofs.YtmcmkdiefpepnaaDoor.Ext
open Go Go.RowKit Go.Proofs.YtmcmkdiefpepnaaDoorW.PrintWords

def coverL : List ByteArray := [⟨#[70, 69, 87]⟩, ⟨#[83, 67, 84]⟩, ⟨#[66, 75, 78]⟩, ⟨#[79, 86, 67]⟩]
def weatherL : List ByteArray := [⟨#[78, 83, 87]⟩, ⟨#[82, 65]⟩, ⟨#[45, 82, 65]⟩, ⟨#[43, 82, 65]⟩, ⟨#[83, 78]⟩, ⟨#[45, 83, 78]⟩, ⟨#[43, 83, 78]⟩, ⟨#[84, 83, 82, 65]⟩, ⟨#[70, 71]⟩, ⟨#[66, 82]⟩]
/-- Variable g holds a slice that reads as l. -/
def VarRow (g : Nat) (l : List ByteArray) (w : World) : Prop := ∃ A c, w.cell? ⟨g, 0, none⟩ = some (.slice A l.length c) ∧ l.length ≤ c ∧ Kd.C Kd.string w A l.length l
theorem VarRow.below {g : Nat} {l : List ByteArray} {w w' : World} (h : VarRow g l w) (hb : Below w.heap.size w w') : VarRow g l w' := by
  obtain ⟨A, c, h1, h2, h3⟩ := h
  exact ⟨A, c, pw_cell_below hb h1, h2, Kd.C_below h3 hb⟩
def Gcov (w : World) : Prop := VarRow 3 coverL w
def Gwea (w : World) : Prop := VarRow 2 weatherL w
theorem Gcov.below {w w' : World} (h : Gcov w) (hb : Below w.heap.size w w') : Gcov w' := VarRow.below h hb
theorem Gwea.below {w w' : World} (h : Gwea w) (hb : Below w.heap.size w w') : Gwea w' := VarRow.below h hb

theorem cells_of_C {w : World} {A : Option Addr} {l : List ByteArray} (h : Kd.C Kd.string w A l.length l) (h0 : 0 < l.length) :
    ∃ b o, A = some ⟨b, o, none⟩ ∧ ∀ (j : Nat) x, l[j]? = some x → w.cell? ⟨b, o + j, none⟩ = some (.string x) := by
  obtain ⟨_, _, h3⟩ := h
  obtain ⟨ad, rfl, hc⟩ := h3 h0
  have hc' : ∀ (j : Nat) x, l[j]? = some x → w.cell? (ad.add j) = some (.string x) := fun j x hj => by
    obtain ⟨c, _, rfl, h5⟩ := hc j x hj
    have h6 := h5 0 _ rfl
    have e : j * (Kd.string).sz + 0 = j := by show j * 1 + 0 = j; omega
    rw [e] at h6
    exact h6
  obtain ⟨b, off, spot⟩ := ad
  have hspot : spot = none := by simpa [Addr.add] using World.cell?_spot (hc' 0 _ (List.getElem?_eq_getElem h0))
  subst hspot
  exact ⟨b, off, rfl, fun j x hj => by rw [← Go.WideShapes.add_plain]; exact hc' j x hj⟩

/-- Texts in line, sep between them. -/
def strings_Join.f (l : List ByteArray) (sep : ByteArray) : Option ByteArray :=
  if l.length ≤ 140737488355328 ∧ (Lib.join (l.map (·.data.toList)) sep.data.toList).length ≤ 140737488355328 then some ⟨(Lib.join (l.map (·.data.toList)) sep.data.toList).toArray⟩ else none
theorem strings_Join.calls (A0 : Option Addr) (c0 : Nat) (l0 : List ByteArray) (a1 : ByteArray) (r : ByteArray) (w : World) (hr0 : Kd.C Kd.string w A0 l0.length l0) (hc0 : l0.length ≤ c0) (h : strings_Join.f l0 a1 = some r) :
    Calls Tryd.prog 87 #[.slice A0 l0.length c0, .string a1] w fun e w' => e = .returned (.string r) ∧ Below w.heap.size w w' := by
  unfold strings_Join.f at h
  split at h
  · rename_i hc
    cases h
    by_cases h0 : 0 < l0.length
    · obtain ⟨b, o, rfl, hcell⟩ := cells_of_C hr0 h0
      have hb : b < w.heap.size := World.block_lt_of_cell? w _ (hcell 0 _ (List.getElem?_eq_getElem h0))
      exact Tryd.strings_Join b o c0 l0 a1 w hcell hb hc.1 hc0 hc.2
    · obtain rfl : l0 = [] := List.eq_nil_of_length_eq_zero (by omega)
      exact (Tryd.strings_Join_none A0 c0 a1 w).mono fun e w' ⟨he, hw⟩ => ⟨he, hw ▸ Below.refl _ _⟩
  · cases h
end Go.Proofs.YtmcmkdiefpepnaaDoor.Ext
