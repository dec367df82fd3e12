/-
  Part of a proof by the engine: texts that a program of ours printed, or plain lemmas on them. No condition but what each theorem says.
-/
import Derived.Test.YtondfjckadlabaaGreatDoorEng5
import Derived.Test.YtondfjckadlabaaGreatDoorShelfSort
import Derived.Sort.OwnSortedInts
set_option linter.unusedVariables false
set_option linter.unusedSimpArgs false
namespace Go.Proofs.YtondfjckadlabaaGreatDoor.EX
open Go Go.Eng Go.RowKit
def dSort (xs : List Int) : Option (List Int) := bif xs.isEmpty || !decide (xs.length < 4611686018427387904) then none else some (xs.mergeSort fun x y => decide (x ≤ y))
noncomputable def gSort : Sg := ⟨⟨[(0, .c (.ref 0))], [.lst 2 (.int .i64)]⟩, ⟨[(0, .tup [])], [.lst 2 (.int .i64)]⟩, List Int, fun y => (((), ()), (y, ())), fun x => dSort x.2.1⟩
theorem eSort {gl : Nat → Option (List Cell)} : Sound Tryz.prog gl 183 gSort := by
  intro w S vals x y hI hr hy
  obtain ⟨⟨x0, x1⟩, xs, x2⟩ := x
  have hy' : dSort xs = some y := hy
  unfold dSort at hy'
  cases hc : (xs.isEmpty || !decide (xs.length < 4611686018427387904)) with
  | true => rw [hc] at hy'; cases hy'
  | false =>
    rw [hc] at hy'
    simp only [Bool.or_eq_false_iff, Bool.not_eq_false', decide_eq_true_eq] at hc
    simp only [cond_false] at hy'
    obtain rfl := Option.some.inj hy'
    cases hvs : vals.toList with
    | nil => rw [hvs] at hr; exact hr.elim
    | cons v0 rest =>
      rw [hvs] at hr
      cases rest with
      | cons _ _ => exact hr.2.elim
      | nil =>
        have hv0 : vals = #[v0] := by cases vals; simpa using hvs
        subst hv0
        have hval : S.val 0 = some v0 := hr.1.1.1
        have hget : AL.get (encH 0 gSort.ins.h (xs, x2)) 0 = some (.lst 2 (.int .i64) xs) := rfl
        obtain ⟨v', flat, h1, h2, h3, h4⟩ := hI.objs 0 _ hget
        rw [hval] at h1
        cases h1
        have hflat : flat = xs.map (Value.int .i64) := by
          apply List.ext_getElem?
          intro j
          rw [List.getElem?_map]
          have hl := h2.1
          simp only [Kind.sz, Nat.mul_one] at hl
          cases hx : xs[j]? with
          | none => rw [List.getElem?_eq_none_iff] at hx; rw [List.getElem?_eq_none (by omega)]; rfl
          | some z =>
            have := h3 j z hx
            simp only [RepK, Kind.sz, Nat.mul_one, Nat.add_zero] at this
            rw [this]; rfl
        rcases h2.2 with ⟨rfl, h0⟩ | ⟨g, cap, cur, rfl, hbg, hg, hnc, hcm, hcs, htake⟩
        · have : xs = [] := List.eq_nil_of_length_eq_zero h0
          rw [this] at hc; cases hc.1
        · simp only [Kind.sz, Nat.mul_one] at htake
          rw [hflat] at htake
          have hH := holds_of_blockI hg htake
          have hlt : g < w.heap.size := (Array.getElem?_eq_some_iff.1 hg).1
          refine (Tryz.slices_Sort_int g 0 cap xs w hH hlt hc.2).mono ?_
          rintro e w' ⟨rfl, n, os, rfl⟩
          have hgr := grownBy_sortedI (w := w) (g := g) (n := n) (os := os) (xs.mergeSort fun x y => decide (x ≤ y)).toArray
          refine ⟨.tuple #[], S, rfl, ⟨0, .tup [], rfl, ⟨[], rfl, trivial⟩⟩, ?_⟩
          have hlen : (xs.mergeSort fun x y => decide (x ≤ y)).length = xs.length := List.length_mergeSort _
          have hown := ownsRow_sortedI (w := w) (base := 0) (g := g) (cap := cap) (n := n) (e := 2) (os := os) (cur := cur) (ss := xs) (ts := xs.mergeSort fun x y => decide (x ≤ y)) hlen hbg hg hnc hcm (by simpa [Kind.sz] using hcs)
          have := hI.rewriteG (o' := .lst 2 (.int .i64) (xs.mergeSort fun x y => decide (x ≤ y))) hget rfl hval rfl (fun k hk hne => hgr.block k hk (fun hc => hne (Option.some.inj hc))) hgr.size hgr.os hgr.tape hgr.output
            ⟨_, (xs.mergeSort fun x y => decide (x ≤ y)).map (Value.int .i64), hval, by rw [hlen]; exact hown, fun j z hj => by simp [RepK, Kind.sz, hj], fun u hu => by obtain ⟨z, _, rfl⟩ := List.mem_map.1 hu; rfl⟩
          exact this
end Go.Proofs.YtondfjckadlabaaGreatDoor.EX
