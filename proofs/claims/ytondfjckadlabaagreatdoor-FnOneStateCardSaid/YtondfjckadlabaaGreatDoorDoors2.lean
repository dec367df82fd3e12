/-
  Part of a proof by the engine: texts that a program of ours printed, or plain lemmas on them. No condition but what each theorem says.
-/
import Derived.Test.YtondfjckadlabaaGreatDoorDoors1
import Derived.Test.YtondfjckadlabaaGreatDoorShelfJoin
set_option linter.unusedVariables false
set_option linter.unusedSimpArgs false
namespace Go.Proofs.YtondfjckadlabaaGreatDoor.EX
open Go Go.Eng Go.RowKit
def dJoin (l : List ByteArray) (sep : ByteArray) : Option ByteArray :=
  bif decide (l.length ≤ 140737488355328) && decide ((Lib.join (l.map (·.data.toList)) sep.data.toList).length ≤ 140737488355328) then some (bs (Lib.join (l.map (·.data.toList)) sep.data.toList)) else none
noncomputable def gJoin : Sg := ⟨⟨[(0, .c (.sl .str)), (1, .c (.str))], []⟩, ⟨[(0, .c (.str))], []⟩, ByteArray, fun y => ((y, ()), ()), fun x => dJoin x.1.1 x.1.2.1⟩
theorem eJoin {gl : Nat → Option (List Cell)} : Sound Tryz.prog gl 73 gJoin := sound_ext rfl rfl fun w S vals x y hg hr hy => by
  obtain ⟨v0, l0, h0, hv0, hr⟩ := reps1 hr
  obtain ⟨v1, l1, h1, hv1, hr⟩ := reps1 hr
  have h2 := reps0 hr
  subst h2 h1
  have hy' : dJoin x.1.1 x.1.2.1 = some y := hy
  unfold dJoin at hy'
  cases hc : (decide (x.1.1.length ≤ 140737488355328) && decide ((Lib.join (x.1.1.map (·.data.toList)) x.1.2.1.data.toList).length ≤ 140737488355328)) with
  | false => rw [hc] at hy'; cases hy'
  | true =>
    rw [hc] at hy'
    simp only [Bool.and_eq_true, decide_eq_true_eq] at hc
    simp only [cond_true] at hy'
    obtain rfl := Option.some.inj hy'
    rw [arr_of h0, show v1 = .string x.1.2.1 from hv1.1]
    obtain ⟨a, len, cap, he, hlen, hcap, _, hcell⟩ := hv0.1
    obtain rfl := Option.some.inj he
    subst hlen
    rcases hcell with hnil | ⟨b, o, rfl, him, hcell⟩
    · rw [hnil]
      refine (Tryz.strings_Join_none a cap x.1.2.1 w).mono ?_
      rintro e w' ⟨rfl, rfl⟩
      exact ⟨_, rfl, ⟨0, _, rfl, rfl, rfl⟩, Below.refl _ _⟩
    · by_cases h0 : 0 < x.1.1.length
      · have hcell' : ∀ (j : Nat) z, x.1.1[j]? = some z → w.cell? ⟨b, o + j, none⟩ = some (.string z) := fun j z hj => by
          have := hcell j z hj
          simpa [RepK, Kind.sz] using this
        have hb : b < w.heap.size := World.block_lt_of_cell? w _ (hcell' 0 _ (List.getElem?_eq_getElem h0))
        refine (Tryz.strings_Join b o cap x.1.1 x.1.2.1 w hcell' hb hc.1 hcap hc.2).mono ?_
        rintro e w' ⟨rfl, hbel⟩
        exact ⟨_, rfl, ⟨0, _, rfl, rfl, rfl⟩, hbel⟩
      · have hnil : x.1.1 = [] := List.eq_nil_of_length_eq_zero (by omega)
        rw [hnil]
        refine (Tryz.strings_Join_none _ cap x.1.2.1 w).mono ?_
        rintro e w' ⟨rfl, rfl⟩
        exact ⟨_, rfl, ⟨0, _, rfl, rfl, rfl⟩, Below.refl _ _⟩
end Go.Proofs.YtondfjckadlabaaGreatDoor.EX
