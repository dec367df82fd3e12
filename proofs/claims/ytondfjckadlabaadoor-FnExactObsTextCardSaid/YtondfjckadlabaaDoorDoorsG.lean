/-
  Part of a proof by the engine: texts that a program of ours printed, or plain lemmas on them. No condition but what each theorem says.
-/
import Derived.Test.YtondfjckadlabaaDoorDoors1
import Derived.Laws.Externs
import Derived.Test.YtondfjckadlabaaDoorProg
set_option linter.unusedVariables false
set_option linter.unusedSimpArgs false
namespace Go.Proofs.YtondfjckadlabaaDoor.EX
open Go Go.Eng Go.RowKit
def isNaNB (b : Nat) : Bool := (FloatKind.f64.decode b).isNaN
theorem canon_not {b : Nat} (h : isNaNB (canonF b) = false) : canonF b = b := by
  unfold canonF
  cases hb : (FloatKind.f64.decode b).isNaN with
  | false => rfl
  | true =>
    have : canonF b = 0x7ff8000000000000 := by unfold canonF; rw [hb]; rfl
    rw [this] at h
    exact absurd h (by decide)
def dFb (x : Nat) : Option Int := bif isNaNB x then none else some (x : Int)
def dFf (n : Int) : Option Nat := some (canonF n.toNat)
noncomputable def gFb : Sg := ⟨⟨[(0, .c .flt)], []⟩, ⟨[(0, .c (.int .u64))], []⟩, Int, fun y => ((y, ()), ()), fun x => dFb x.1.1⟩
noncomputable def gFf : Sg := ⟨⟨[(0, .c (.int .u64))], []⟩, ⟨[(0, .c .flt)], []⟩, Nat, fun y => ((y, ()), ()), fun x => dFf x.1.1⟩
theorem xFb : Extn Tryd.prog 73 gFb := by
  refine ⟨rfl, rfl, rfl, fun w S vals x y hr hy => ?_⟩
  obtain ⟨v0, l0, h0, hv0, hr⟩ := reps1 hr
  have h1 := reps0 hr
  subst h1
  obtain ⟨⟨b, rfl, hb⟩, _⟩ := hv0
  have hy' : dFb x.1.1 = some y := hy
  unfold dFb at hy'
  cases hn : isNaNB x.1.1 with
  | true => rw [hn] at hy'; cases hy'
  | false =>
    rw [hn] at hy'
    simp only [cond_false] at hy'
    have hy' := Option.some.inj hy'
    have hbb : b = x.1.1 := by
      rw [← hb] at hn ⊢
      exact (canon_not hn).symm
    refine ⟨.int .u64 b, .c (.int .u64 y), 0, ?_, rfl, fun _ => rfl, fun S' => ⟨by rw [hbb]; exact congrArg (Value.int .u64) hy', rfl⟩⟩
    rw [arr_of h0, run_callFunc_extern Tryd.func73 (by kernel_rfl) (by kernel_rfl) (by kernel_rfl) (e := Extern.MathFloatBits.float64bits) (by kernel_rfl)]
    rfl
theorem xFf : Extn Tryd.prog 72 gFf := by
  refine ⟨rfl, rfl, rfl, fun w S vals x y hr hy => ?_⟩
  obtain ⟨v0, l0, h0, hv0, hr⟩ := reps1 hr
  have h1 := reps0 hr
  subst h1
  have e0 : v0 = .int .u64 x.1.1 := hv0.1
  have hy' : dFf x.1.1 = some y := hy
  have hy' := Option.some.inj hy'
  refine ⟨.float .f64 x.1.1.toNat, .c (.flt y), 0, ?_, rfl, fun _ => rfl, fun S' => ⟨⟨_, rfl, hy'⟩, rfl⟩⟩
  rw [arr_of h0, e0, run_callFunc_extern Tryd.func72 (by kernel_rfl) (by kernel_rfl) (by kernel_rfl) (e := Extern.MathFloatBits.float64frombits) (by kernel_rfl)]
  rfl
end Go.Proofs.YtondfjckadlabaaDoor.EX
