/-
  Part of a proof by the engine: texts that a program of ours printed, or plain lemmas on them. No condition but what each theorem says.
-/
import Derived.Test.YtondfjckadlabaaGreatDoorDoors1
import Derived.Test.YtondfjckadlabaaGreatDoorShelfParse
set_option linter.unusedVariables false
set_option linter.unusedSimpArgs false
namespace Go.Proofs.YtondfjckadlabaaGreatDoor.EX
open Go Go.Eng Go.RowKit
def dPar (s : ByteArray) (b n : Int) : Option Int := if b = 10 ∧ n = 64 ∧ s.size ≤ 9223372036854775806 then (match Lib.parseIntB 64 s.data.toList with | .ok v => some v | _ => none) else none
noncomputable def gPar : Sg := ⟨⟨[(0, .c (.str)), (1, .c (.int .i64)), (2, .c (.int .i64))], []⟩, ⟨[(0, .tup [(false, [.int .i64]), (false, [.nilI])])], []⟩, Int, fun y => ((((y, ()), (((), ()), ())), ()), ()), fun x => dPar x.1.1 x.1.2.1 x.1.2.2.1⟩
theorem ePar {gl : Nat → Option (List Cell)} : Sound Tryz.prog gl 194 gPar := sound_ext rfl rfl fun w S vals x y hg hr hy => by
  obtain ⟨v0, l0, h0, hv0, hr⟩ := reps1 hr
  obtain ⟨v1, l1, h1, hv1, hr⟩ := reps1 hr
  obtain ⟨v2, l2, h2, hv2, hr⟩ := reps1 hr
  have h3 := reps0 hr
  subst h3 h2 h1
  have hy' : dPar x.1.1 x.1.2.1 x.1.2.2.1 = some y := hy
  unfold dPar at hy'
  split at hy'
  · rename_i c
    obtain ⟨c1, c2, c3⟩ := c
    split at hy'
    · rename_i v hv
      obtain rfl : v = y := Option.some.inj hy'
      rw [arr_of h0, show v0 = .string x.1.1 from hv0.1, show v1 = .int .i64 x.1.2.1 from hv1.1, show v2 = .int .i64 x.1.2.2.1 from hv2.1, c1, c2]
      refine (Tryz.strconv_ParseInt_10_at64_ok x.1.1 c3 v hv w).mono ?_
      rintro e w' ⟨rfl, hb⟩
      have hbel : Below w.heap.size w w' := by
        rcases hb with rfl | ⟨t, rfl⟩
        · exact Below.refl _ _
        · exact Lib.bytesWorld_below w 5 t
      exact ⟨_, rfl, ⟨0, .tup [(false, [.int .i64 v]), (false, [.opq .nilIface])], rfl, [.int .i64 v, .nilIface], rfl, ⟨rfl, rfl⟩, ⟨⟨.inl rfl, rfl⟩, rfl⟩, trivial⟩, hbel⟩
    · cases hy'
  · cases hy'
end Go.Proofs.YtondfjckadlabaaGreatDoor.EX
