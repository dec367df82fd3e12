/-
  Part of a proof by the engine: texts that a program of ours printed, or plain lemmas on them. No condition but what each theorem says.
-/
import Derived.Test.YtondfjckadlabaaGreatDoorDoors1
import Derived.Test.YtondfjckadlabaaGreatDoorDoors3
import Derived.Test.YtondfjckadlabaaGreatDoorShelfComp
import Derived.Lib.RowBridge
set_option linter.unusedVariables false
set_option linter.unusedSimpArgs false
namespace Go.Proofs.YtondfjckadlabaaGreatDoor.EX
open Go Go.Eng Go.RowKit Go.Sort Go.Lib
def dClone (xs : List Int) : Option (List Int) := bif xs.isEmpty || !decide (xs.length ≤ 17592186044416) then none else some xs
noncomputable def gClone : Sg := ⟨⟨[(0, .c (.sl (.int .i64)))], []⟩, ⟨[(0, .c (.ref 0))], [.lst 2 (.int .i64)]⟩, List Int, fun y => (((), ()), (y, ())), fun x => dClone x.1.1⟩
theorem eClone {gl : Nat → Option (List Cell)} : Sound Tryz.prog gl 182 gClone := by
  intro w S vals x y hI hr hy
  obtain ⟨⟨xs, x1⟩, x2⟩ := x
  have hy' : dClone xs = some y := hy
  unfold dClone at hy'
  cases hc : (xs.isEmpty || !decide (xs.length ≤ 17592186044416)) with
  | true => rw [hc] at hy'; cases hy'
  | false =>
    rw [hc] at hy'
    simp only [Bool.or_eq_false_iff, Bool.not_eq_false', decide_eq_true_eq] at hc
    simp only [cond_false] at hy'
    obtain rfl := Option.some.inj hy'
    obtain ⟨v0, l0, h0, hv0, hr⟩ := reps1 hr
    have h1 := reps0 hr
    subst h1
    rw [arr_of h0]
    obtain ⟨a, len, cap, he, hlen, hcap, _, hcell⟩ := hv0.1
    obtain rfl := Option.some.inj he
    subst hlen
    rcases hcell with hnil | ⟨b, o, rfl, him, hcell⟩
    · have hnil' : xs = [] := hnil
      rw [hnil'] at hc; cases hc.1
    · have hcell' : ∀ j, j < xs.length → w.cell? ⟨b, o + j, none⟩ = some (.int .i64 (xs.getD j 0)) := fun j hj => by
        have := hcell j xs[j] (List.getElem?_eq_getElem hj)
        simpa [RepK, Kind.sz, List.getD, List.getElem?_eq_getElem hj] using this
      refine (Tryz.slices_Clone_int b o xs.length cap xs w (Nat.le_refl _) (by omega) hcell').mono ?_
      rintro e w' ⟨v', rfl, hown, hne, hbel⟩
      have hw : Inv (FdOf gl w S 0) 0 S ⟨[], []⟩ noAct w' := hI.world (fun _ => False) (fun _ hx => hx.elim) (fun k hlt _ => hbel.block k hlt) hbel.size hbel.os hbel.tape hbel.output
      have hS0 : S.val 0 = none := hI.news 0 rfl
      rw [List.take_length] at hown
      have hone : v'.oneCell' = true := by rcases hown.2 with ⟨rfl, _⟩ | ⟨g, c', cur, rfl, _⟩ <;> rfl
      have hown0 : w'.ownsRow 0 2 1 v' xs.length (xs.map (Value.int .i64)) := ⟨hown.1, by
        rcases hown.2 with h | ⟨g, c', cur, h1, h2, h3⟩
        · exact .inl h
        · exact .inr ⟨g, c', cur, h1, Nat.zero_le _, h3⟩⟩
      have hset := hw.set (n := 0) (o := .lst 2 (.int .i64) xs) (v := v') (.inl hS0)
        ⟨v', xs.map (Value.int .i64), by simp [St.bind], hown0, fun j z hj => by simp [RepK, Kind.sz, hj], fun u hu => by obtain ⟨z, _, rfl⟩ := List.mem_map.1 hu; rfl⟩
        (fun k _ hk => by
          rcases hown.2 with ⟨rfl, _⟩ | ⟨g, c', cur, rfl, hg, _⟩
          · cases hk
          · obtain rfl : g = k := by simpa [blk] using hk
            exact ⟨fun hc => absurd (hI.imm _ hc).1 (by omega), .inl hg, fun m p u hm hp => by cases hp⟩)
      refine ⟨v', S.bind 0 v', rfl, ⟨0, .c (.ref 0), rfl, ⟨by simp [St.bind], hone⟩, hone⟩, ?_⟩
      exact hset
def dCompact (xs : List Int) : Option (List Int) := bif xs.isEmpty || !decide (xs.length ≤ 9223372036854775807) then none else some (Lib.compact xs)
noncomputable def gCompact : Sg := ⟨⟨[(0, .c (.ref 0))], [.lst 2 (.int .i64)]⟩, ⟨[(0, .c (.ref 1))], [.dead, .lst 2 (.int .i64)]⟩, List Int, fun y => (((), ()), ((), (y, ()))), fun x => dCompact x.2.1⟩
theorem eCompact {gl : Nat → Option (List Cell)} : Sound Tryz.prog gl 93 gCompact := by
  intro w S vals x y hI hr hy
  obtain ⟨⟨x0, x1⟩, xs, x2⟩ := x
  have hy' : dCompact xs = some y := hy
  unfold dCompact at hy'
  cases hc : (xs.isEmpty || !decide (xs.length ≤ 9223372036854775807)) with
  | true => rw [hc] at hy'; cases hy'
  | false =>
    rw [hc] at hy'
    simp only [Bool.or_eq_false_iff, Bool.not_eq_false', decide_eq_true_eq] at hc
    simp only [cond_false] at hy'
    obtain rfl := Option.some.inj hy'
    obtain ⟨v0, l0, h0, hv0, hr⟩ := reps1 hr
    have h1 := reps0 hr
    subst h1
    rw [arr_of h0]
    have hval : S.val 0 = some v0 := hv0.1.1
    have hget : AL.get (encH 0 gCompact.ins.h (xs, x2)) 0 = some (.lst 2 (.int .i64) xs) := rfl
    obtain ⟨v', flat, h1, h2, h3, h4⟩ := hI.objs 0 _ hget
    rw [hval] at h1
    cases h1
    have hflat : flat = xs.map (Value.int .i64) := by
      apply List.ext_getElem?
      intro j
      rw [List.getElem?_map]
      have hl := h2.1
      simp only [Kind.sz, Nat.mul_one] at hl
      cases hx : xs[j]? with
      | none => rw [List.getElem?_eq_none_iff] at hx; rw [List.getElem?_eq_none (by omega)]; rfl
      | some z =>
        have := h3 j z hx
        simp only [RepK, Kind.sz, Nat.mul_one, Nat.add_zero] at this
        rw [this]; rfl
    rcases h2.2 with ⟨rfl, hz⟩ | ⟨g, cap, cur, rfl, hbg, hg, hnc, hcm, hcs, htake⟩
    · have : xs = [] := List.eq_nil_of_length_eq_zero hz
      rw [this] at hc; cases hc.1
    · simp only [Kind.sz, Nat.mul_one] at htake
      rw [hflat] at htake
      have hH := holds_of_blockI hg htake
      have hlt : g < w.heap.size := (Array.getElem?_eq_some_iff.1 hg).1
      have hle := Lib.compact_length_le xs
      refine (Tryz.slices_Compact_int g 0 cap xs w hH hc.2 hnc).mono ?_
      rintro e w' ⟨rfl, q, rfl⟩
      have hgrow : ∀ W : World, grow W #[] = W := fun W => by simp [grow]
      rw [← hgrow (putRow _ _ _ _ _)]
      generalize hD : Lib.compact xs ++ List.replicate (xs.length - (Lib.compact xs).length) 0 = D
      have hlen : D.length = xs.length := by rw [← hD]; simp; omega
      have hgr := grownBy_sortedI (w := w) (g := g) (n := q) (os := #[]) D.toArray
      have hown := ownsRow_sortedI (w := w) (base := 0) (g := g) (cap := cap) (n := q) (e := 2) (os := #[]) (cur := cur) (ss := xs) (ts := D) hlen hbg hg hnc hcm (by simpa [Kind.sz] using hcs)
      have hre := hI.rewriteG (o' := .lst 2 (.int .i64) D) hget rfl hval rfl (fun k hk hne => hgr.block k hk (fun hc => hne (Option.some.inj hc))) hgr.size hgr.os hgr.tape hgr.output
        ⟨_, D.map (Value.int .i64), hval, by rw [hlen]; exact hown, fun j z hj => by simp [RepK, Kind.sz, hj], fun u hu => by obtain ⟨z, _, rfl⟩ := List.mem_map.1 hu; rfl⟩
      have hw := hre.wr 0 _ _ g rfl rfl hval rfl
      have hk := hre.kill (n := 0) (o := .lst 2 (.int .i64) D) rfl
      have hS1 : S.val 1 = none := hI.news 1 rfl
      have hown1 : (grow (putRow (Value.int .i64) (Sort.ahead w q) g 0 D.toArray) #[]).ownsRow 0 2 1 (.slice (some ⟨g, 0, none⟩) (Lib.compact xs).length cap) (Lib.compact xs).length ((Lib.compact xs).map (Value.int .i64)) := by
        refine ⟨by simp, .inr ⟨g, cap, _, rfl, Nat.zero_le _, heap_sortedI _ hg, by omega, hcm, by simp [putCells]; simpa [Kind.sz] using hcs, ?_⟩⟩
        have := take_putCellsI cur D (by have : cur.size = cap := by simpa [Kind.sz] using hcs
                                         omega)
        have h2 := congrArg (List.take (Lib.compact xs).length) this
        rw [List.take_take, Nat.min_eq_left (by omega), ← List.map_take, ← hD, List.take_left] at h2
        rw [Nat.mul_one, ← hD]
        exact h2
      have hset := hk.set (n := 1) (o := .lst 2 (.int .i64) (Lib.compact xs)) (v := .slice (some ⟨g, 0, none⟩) (Lib.compact xs).length cap) (.inl hS1)
        ⟨_, (Lib.compact xs).map (Value.int .i64), by simp [St.bind], hown1, fun j z hj => by simp [RepK, Kind.sz, hj], fun u hu => by obtain ⟨z, _, rfl⟩ := List.mem_map.1 hu; rfl⟩
        (fun k _ hk' => by
          obtain rfl : g = k := by simpa [blk] using hk'
          refine ⟨hw.1, hw.2, fun m p u hm hp hpm => ?_⟩
          simp only [AL.get_set] at hp
          split at hp
          · cases hp; cases hpm
          · rename_i hm0
            have : AL.get (encH 0 gCompact.ins.h (xs, x2)) m = none := by
              cases m with
              | zero => exact absurd rfl hm0
              | succ m => rfl
            rw [this] at hp; cases hp)
      refine ⟨_, S.bind 1 (.slice (some ⟨g, 0, none⟩) (Lib.compact xs).length cap), rfl, ⟨0, .c (.ref 1), rfl, ⟨by simp [St.bind], rfl⟩, rfl⟩, ?_⟩
      exact hset
end Go.Proofs.YtondfjckadlabaaGreatDoor.EX
