/-
  Part of a proof by the engine: texts that a program of ours printed, or plain lemmas on them. No condition but what each theorem says.
-/
import Derived.Test.YtondfjckadlabaaGreatDoorDoors1
import Derived.Test.YtondfjckadlabaaGreatDoorShelfSplit
import Derived.Shelf.Strings.Search2
import Derived.Lib.SplitLaws
set_option linter.unusedVariables false
set_option linter.unusedSimpArgs false
namespace Go.Proofs.YtondfjckadlabaaGreatDoor.EX
open Go Go.Eng Go.RowKit
def dIdx (s p : ByteArray) : Option Int := if p.size = 1 then some (Lib.indexByte s.data.toList (p.data.toList.headD 0)) else none
noncomputable def gIdx : Sg := ⟨⟨[(0, .c (.str)), (1, .c (.str))], []⟩, ⟨[(0, .c (.int .i64))], []⟩, Int, fun y => ((y, ()), ()), fun x => dIdx x.1.1 x.1.2.1⟩
theorem eIdx {gl : Nat → Option (List Cell)} : Sound Tryz.prog gl 226 gIdx := sound_ext rfl rfl fun w S vals x y hg hr hy => by
  obtain ⟨v0, l0, h0, hv0, hr⟩ := reps1 hr
  obtain ⟨v1, l1, h1, hv1, hr⟩ := reps1 hr
  have h2 := reps0 hr
  subst h2 h1
  have hy' : dIdx x.1.1 x.1.2.1 = some y := hy
  unfold dIdx at hy'
  split at hy'
  · rename_i c
    obtain rfl := Option.some.inj hy'
    rw [arr_of h0, show v0 = .string x.1.1 from hv0.1, show v1 = .string x.1.2.1 from hv1.1]
    obtain ⟨b, hb⟩ := Lib.one_byte x.1.2.1 c
    rw [hb]
    have L := Tryz.lays220
    refine (Any.stringslite_Index_one (ρ := Tryz.lays220_ren) { L with } x.1.1 b w).mono ?_
    rintro e w' ⟨rfl, rfl⟩
    exact ⟨_, rfl, ⟨0, _, rfl, rfl, rfl⟩, Below.refl _ _⟩
  · cases hy'
end Go.Proofs.YtondfjckadlabaaGreatDoor.EX
