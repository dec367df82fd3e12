/-
  The library's two functions that print a number with noughts ahead, each by the shelf's contract, in the form of the printed texts:
  strconv.FormatInt at base 10, strings.Repeat. Conditions: the base is 10 and the number an int64; the repeated text has at most 2^47 bytes.
-/
import Derived.Test.YtmcmkdiefpepnaaDoorShelfStr
import Derived.Below
import Derived.WalkKit
import Derived.Lib.SmallJoins
namespace Go.Proofs.YtmcmkdiefpepnaaDoor.Ext
open Go Go.RowKit

/-- What the digit counter's table reads as. -/
def Gpow (w : World) : Prop := Lib.TabIs Tryd.prog w "internal/strconv.uint64pow10" .u64 Lib.pow10Tab
theorem Gpow.below {w w' : World} (h : Gpow w) (hb : Below w.heap.size w w') : Gpow w' :=
  Joins.tab_stays (g := 6) (by kernel_rfl) h hb (Nat.le_refl _)

def strconv_FormatInt.f (a0 : Int) (a1 : Int) : Option ByteArray :=
  if a1 = 10 ∧ -9223372036854775808 ≤ a0 ∧ a0 ≤ 9223372036854775807 then some ⟨(Lib.itoa a0).toArray⟩ else none

theorem below_grow (w : World) (k : Nat) (os : Array Obj) : Below w.heap.size w (Sort.grow (w.drewN k) os) :=
  ⟨rfl, rfl, rfl, by simp [Sort.grow, World.drewN], fun b hb => by simp [Sort.grow, World.drewN, Array.getElem?_append_left hb]⟩

theorem strconv_FormatInt.calls (a0 : Int) (a1 : Int) (r : ByteArray) (w : World) (hG : Gpow w) (h : strconv_FormatInt.f a0 a1 = some r) :
    Calls Tryd.prog 133 #[.int .i64 a0, .int .i64 a1] w fun e w' => e = .returned (.string r) ∧ Below w.heap.size w w' := by
  unfold strconv_FormatInt.f at h
  split at h
  · rename_i c
    obtain ⟨rfl, h0, h1⟩ := c
    cases h
    exact (Tryd.strconv_FormatInt_10 a0 h0 h1 w hG).mono fun e w' ⟨he, k, os, hw⟩ => ⟨he, hw ▸ below_grow w k os⟩
  · cases h

def strings_Repeat.f (a0 : ByteArray) (a1 : Int) : Option ByteArray :=
  if 0 ≤ a1 ∧ a1 ≤ 9223372036854775807 ∧ a0.size * a1.toNat ≤ 140737488355328 then some ⟨(Lib.repeatL a0.data.toList a1.toNat).toArray⟩ else none

theorem strings_Repeat.calls (a0 : ByteArray) (a1 : Int) (r : ByteArray) (w : World) (h : strings_Repeat.f a0 a1 = some r) :
    Calls Tryd.prog 134 #[.string a0, .int .i64 a1] w fun e w' => e = .returned (.string r) ∧ Below w.heap.size w w' := by
  unfold strings_Repeat.f at h
  split at h
  · rename_i c
    obtain ⟨h0, h1, h2⟩ := c
    cases h
    obtain ⟨c, rfl⟩ := Int.eq_ofNat_of_zero_le h0
    exact Tryd.strings_Repeat a0 c w (by omega) h2
  · cases h

end Go.Proofs.YtmcmkdiefpepnaaDoor.Ext
