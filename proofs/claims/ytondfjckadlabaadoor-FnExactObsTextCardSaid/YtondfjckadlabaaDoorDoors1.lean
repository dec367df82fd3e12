/-
  Part of a proof by the engine: texts that a program of ours printed, or plain lemmas on them. No condition but what each theorem says.
-/
import Derived.Test.YtondfjckadlabaaDoorEng5
import Derived.Test.YtondfjckadlabaaDoorShelfStr
import Derived.Below
import Derived.WalkKit
import Derived.Lib.SmallJoins
import Derived.Lib.Repeat
set_option linter.unusedVariables false
set_option linter.unusedSimpArgs false
namespace Go.Proofs.YtondfjckadlabaaDoor.EX
open Go Go.Eng Go.RowKit
theorem arr_of {vals : Array Value} {l : List Value} (h : vals.toList = l) : vals = l.toArray := by cases vals; simpa using h
theorem reps1 {w : World} {S : St} {x : AVal} {xs : List AVal} {l : List Value} (h : RepAs w S (x :: xs) l) : ∃ v vs, l = v :: vs ∧ RepA w S x v ∧ RepAs w S xs vs := by
  cases l with
  | nil => exact h.elim
  | cons v vs => exact ⟨v, vs, rfl, h.1, h.2⟩
theorem reps0 {w : World} {S : St} {l : List Value} (h : RepAs w S [] l) : l = [] := by
  cases l with
  | nil => rfl
  | cons v vs => exact h.elim
theorem repL_ints {w : World} {S : St} {k : IntKind} : ∀ {zs : List Int} {vs : List Value}, RepL w S (zs.map (Cell.int k)) vs ↔ vs = zs.map (Value.int k)
  | [], vs => by cases vs <;> simp [RepL]
  | z :: zs, [] => by simp [RepL]
  | z :: zs, v :: vs => by
    simp only [List.map_cons, RepL, List.cons.injEq]
    exact and_congr Iff.rfl repL_ints
/-- What the digit counter's table reads as. -/
def Gpow (w : World) : Prop := Lib.TabIs Tryd.prog w "internal/strconv.uint64pow10" .u64 Lib.pow10Tab
theorem gpow_of {gl : Nat → Option (List Cell)} {l : List Int} (hgl : gl 4 = some (l.map (Cell.int .u64))) (hl : l = Lib.pow10Tab) {w : World} {S : St} (h : GlOk gl w S) : Gpow w := by
  subst hl
  obtain ⟨_, vs, h2, _, _, t, c, hc⟩ := h _ _ hgl
  have := repL_ints.1 h2
  subst this
  show w.var? Tryd.prog _ = _
  have hg : Tryd.prog.globalNamed "internal/strconv.uint64pow10" = some 4 := by kernel_rfl
  simp only [World.var?, hg, Option.bind_some, hc]
theorem below_grow (w : World) (k : Nat) (os : Array Go.Obj) : Below w.heap.size w (Sort.grow (w.drewN k) os) :=
  ⟨rfl, rfl, rfl, by simp [Sort.grow, World.drewN], fun b hb => by simp [Sort.grow, World.drewN, Array.getElem?_append_left hb]⟩
def dFmt (n b : Int) : Option ByteArray := bif decide (b = 10) && (decide (-9223372036854775808 ≤ n) && decide (n ≤ 9223372036854775807)) then some (bs (Lib.itoa n)) else none
def dRep (s : ByteArray) (n : Int) : Option ByteArray := bif decide (0 ≤ n) && (decide (n ≤ 9223372036854775807) && decide (s.size * n.toNat ≤ 140737488355328)) then some (bs (Lib.repeatL s.data.toList n.toNat)) else none
noncomputable def gFmt : Sg := ⟨⟨[(0, .c (.int .i64)), (1, .c (.int .i64))], []⟩, ⟨[(0, .c (.str))], []⟩, ByteArray, fun y => ((y, ()), ()), fun x => dFmt x.1.1 x.1.2.1⟩
noncomputable def gRep : Sg := ⟨⟨[(0, .c (.str)), (1, .c (.int .i64))], []⟩, ⟨[(0, .c (.str))], []⟩, ByteArray, fun y => ((y, ()), ()), fun x => dRep x.1.1 x.1.2.1⟩
theorem eFmt {gl : Nat → Option (List Cell)} {l : List Int} (hgl : gl 4 = some (l.map (Cell.int .u64))) (hl : l = Lib.pow10Tab) : Sound Tryd.prog gl 60 gFmt := sound_ext rfl rfl fun w S vals x y hg hr hy => by
  obtain ⟨v0, l0, h0, hv0, hr⟩ := reps1 hr
  obtain ⟨v1, l1, h1, hv1, hr⟩ := reps1 hr
  have h2 := reps0 hr
  subst h2 h1
  have hy' : dFmt x.1.1 x.1.2.1 = some y := hy
  unfold dFmt at hy'
  cases hc : (decide (x.1.2.1 = 10) && (decide (-9223372036854775808 ≤ x.1.1) && decide (x.1.1 ≤ 9223372036854775807))) with
  | false => rw [hc] at hy'; cases hy'
  | true =>
    rw [hc] at hy'
    simp only [Bool.and_eq_true, decide_eq_true_eq] at hc
    simp only [cond_true] at hy'
    obtain rfl := Option.some.inj hy'
    rw [arr_of h0, show v0 = .int .i64 x.1.1 from hv0.1, show v1 = .int .i64 x.1.2.1 from hv1.1, hc.1]
    refine (Tryd.strconv_FormatInt_10 x.1.1 hc.2.1 hc.2.2 w (gpow_of hgl hl hg)).mono ?_
    rintro e w' ⟨rfl, k, os, hw⟩
    exact ⟨_, rfl, ⟨0, _, rfl, rfl, rfl⟩, hw ▸ below_grow w k os⟩
theorem eRep {gl : Nat → Option (List Cell)} : Sound Tryd.prog gl 55 gRep := sound_ext rfl rfl fun w S vals x y hg hr hy => by
  obtain ⟨v0, l0, h0, hv0, hr⟩ := reps1 hr
  obtain ⟨v1, l1, h1, hv1, hr⟩ := reps1 hr
  have h2 := reps0 hr
  subst h2 h1
  have hy' : dRep x.1.1 x.1.2.1 = some y := hy
  unfold dRep at hy'
  cases hc : (decide (0 ≤ x.1.2.1) && (decide (x.1.2.1 ≤ 9223372036854775807) && decide (x.1.1.size * x.1.2.1.toNat ≤ 140737488355328))) with
  | false => rw [hc] at hy'; cases hy'
  | true =>
    rw [hc] at hy'
    simp only [Bool.and_eq_true, decide_eq_true_eq] at hc
    simp only [cond_true] at hy'
    obtain rfl := Option.some.inj hy'
    obtain ⟨g0, g1, g2⟩ := hc
    rw [arr_of h0, show v0 = .string x.1.1 from hv0.1, show v1 = .int .i64 x.1.2.1 from hv1.1]
    have key : ∀ (s : ByteArray) (z : Int), 0 ≤ z → z ≤ 9223372036854775807 → s.size * z.toNat ≤ 140737488355328 → Calls Tryd.prog 55 #[.string s, .int .i64 z] w fun e w' => e = .returned (.string (bs (Lib.repeatL s.data.toList z.toNat))) ∧ Below w.heap.size w w' := fun s z g0 g1 g2 => by
      have e1 : z = ((z.toNat : Nat) : Int) := by omega
      have h9 := Tryd.strings_Repeat s z.toNat w (by omega) g2
      rw [← e1] at h9
      exact h9
    have h9 := key x.1.1 x.1.2.1 g0 g1 g2
    refine h9.mono ?_
    rintro e w' ⟨rfl, hb⟩
    exact ⟨_, rfl, ⟨0, _, rfl, rfl, rfl⟩, hb⟩
end Go.Proofs.YtondfjckadlabaaDoor.EX
