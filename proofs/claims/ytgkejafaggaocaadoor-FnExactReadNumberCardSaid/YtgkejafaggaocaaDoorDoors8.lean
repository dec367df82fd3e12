/-
  Part of a proof by the engine: texts that a program of ours printed, or plain lemmas on them. No condition but what each theorem says.
-/
import Derived.Test.YtgkejafaggaocaaDoorDoors5
set_option linter.unusedVariables false
set_option linter.unusedSimpArgs false
namespace Go.Proofs.YtgkejafaggaocaaDoor.EX
open Go Go.Eng Go.RowKit
def dParR (s : ByteArray) (b n : Int) : Option Int := if b = 10 ∧ n = 64 ∧ s.size ≤ 281474976710656 then (match Lib.parseIntB 64 s.data.toList with | .range => some (Lib.intSat 64 s.data.toList) | _ => none) else none
noncomputable def gParR : Sg := ⟨⟨[(0, .c (.str)), (1, .c (.int .i64)), (2, .c (.int .i64))], []⟩, ⟨[(0, .tup [(false, [.int .i64]), (false, [.errI])])], []⟩, Int, fun y => ((((y, ()), (((), ()), ())), ()), ()), fun x => dParR x.1.1 x.1.2.1 x.1.2.2.1⟩
theorem eParR {gl : Nat → Option (List Cell)} (hgl : gl 3 = some [.opq (.iface 0 (.pointer none))]) : Sound Tryd.prog gl 67 gParR := sound_ext rfl rfl fun w S vals x y hg hr hy => by
  obtain ⟨v0, l0, h0, hv0, hr⟩ := reps1 hr
  obtain ⟨v1, l1, h1, hv1, hr⟩ := reps1 hr
  obtain ⟨v2, l2, h2, hv2, hr⟩ := reps1 hr
  have h3 := reps0 hr
  subst h3 h2 h1
  have hy' : dParR x.1.1 x.1.2.1 x.1.2.2.1 = some y := hy
  unfold dParR at hy'
  split at hy'
  · rename_i c
    obtain ⟨c1, c2, c3⟩ := c
    split at hy'
    · rename_i hv
      obtain rfl := Option.some.inj hy'
      rw [arr_of h0, show v0 = .string x.1.1 from hv0.1, show v1 = .int .i64 x.1.2.1 from hv1.1, show v2 = .int .i64 x.1.2.2.1 from hv2.1, c1, c2]
      obtain ⟨_, vs, hrl, _, hcell, _⟩ := hg _ _ hgl
      cases vs with
      | nil => exact hrl.elim
      | cons ev vs =>
        have hev : ev = .nilIface ∨ ∃ te pe, ev = .iface te pe := by
          rcases hrl.1.1 with e | ⟨_, t, a, e⟩
          · exact .inr ⟨_, _, e⟩
          · exact .inr ⟨_, _, e⟩
        refine (Tryd.strconv_ParseInt_10_at64_range x.1.1 c3 hv ev w (hcell 0 ev rfl) hev).mono ?_
        rintro e w' ⟨N, rfl, _, _, hbel⟩
        exact ⟨_, rfl, ⟨0, .tup [(false, [.int .i64 (Lib.intSat 64 x.1.1.data.toList)]), (false, [.opq (.iface 0 (.pointer none))])], rfl, [.int .i64 (Lib.intSat 64 x.1.1.data.toList), .iface _ (.pointer (some ⟨N, 0, none⟩))], rfl, ⟨rfl, rfl⟩, ⟨⟨.inr ⟨rfl, _, _, rfl⟩, rfl⟩, rfl⟩, trivial⟩, hbel⟩
    · cases hy'
  · cases hy'
end Go.Proofs.YtgkejafaggaocaaDoor.EX
