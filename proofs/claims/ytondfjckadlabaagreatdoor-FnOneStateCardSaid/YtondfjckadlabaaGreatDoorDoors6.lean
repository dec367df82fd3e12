/-
  Part of a proof by the engine: texts that a program of ours printed, or plain lemmas on them. No condition but what each theorem says.
-/
import Derived.Test.YtondfjckadlabaaGreatDoorDoors1
import Derived.Test.YtondfjckadlabaaGreatDoorShelfSplit
import Derived.Shelf.Strings.SplitCore
import Derived.Shelf.Strings.Split
import Derived.WalkKit
set_option linter.unusedVariables false
set_option linter.unusedSimpArgs false
namespace Go.Proofs.YtondfjckadlabaaGreatDoor.EX
open Go Go.Eng Go.RowKit Go.Shelf Go.Lib
theorem heap_alloc_new (w : World) (o : Go.Obj) : (w.alloc o).heap[w.heap.size]? = some o := by
  show (w.heap.push o)[w.heap.size]? = some o
  exact Array.getElem?_push_size
variable {P : Program} {ρ : Ren}
theorem index_byte (c : UInt8) : ∀ l : List UInt8, Lib.index l [c] = Lib.indexByte l c
  | [] => rfl
  | b :: l => by
    rw [Lib.index, Lib.indexByte, index_byte c l]
    have : [c].isPrefixOf (b :: l) = (b == c) := by simp [List.isPrefixOf, Bool.beq_comm, beq_iff_eq]
    rw [this]
set_option maxHeartbeats 1000000 in
theorem split_one (L : Lays.n146 P ρ) (hi9 : (P.info? (ρ.t 9)).map (fun i => (i.zero, i.size, i.bytes)) = some (some (.string ByteArray.empty), 1, 16)) (s : ByteArray) (b : UInt8) (w : World) (hs : s.size < 4294967281) :
    Calls P (ρ.f 146) #[.string s, .string ⟨#[b]⟩] w fun e w' =>
      e = .returned (.slice (some ⟨w.heap.size, 0, none⟩) (Lib.countB s ⟨#[b]⟩ + 1) (Lib.countB s ⟨#[b]⟩ + 1)) ∧ w' = w.alloc (.cells ((Lib.splitB ⟨#[b]⟩ 0 (Lib.countB s ⟨#[b]⟩) s).map Value.string).toArray (ρ.t 9)) := by
  have h1 : 1 ≤ (⟨#[b]⟩ : ByteArray).size := Nat.le_refl _
  have hle := Lib.countB_le ⟨#[b]⟩ h1 s.size s (Nat.le_refl _)
  have hlen := Lib.splitB_all ⟨#[b]⟩ h1 0 _ s rfl
  have c := Any.strings_genSplit_core { L with } hi9 s ⟨#[b]⟩ 0 (-1) (Lib.countB s ⟨#[b]⟩ + 1) w hs h1 (Nat.zero_le _)
    (fun x cs hx => (Any.strings_Index_one { L with } x b _).mono fun e w' ⟨he, hw⟩ => ⟨by rw [he, ← index_byte], hw⟩)
    ((Any.strings_Count_one { L with } s b w).mono fun e w' ⟨he, hw⟩ => ⟨by
      rw [he]
      show _ = Ending.returned (Value.int .i64 ((Lib.count s.data.toList [b] : Nat) : Int))
      rw [Lib.count_one]
      rfl, hw⟩) (by decide) (by decide) (by rw [if_pos (by decide)]; omega)
  rw [Nat.add_sub_cancel, hlen] at c
  have e2 : Lib.cellsOf (Lib.splitB ⟨#[b]⟩ 0 (Lib.countB s ⟨#[b]⟩) s) (Lib.countB s ⟨#[b]⟩ + 1) = ((Lib.splitB ⟨#[b]⟩ 0 (Lib.countB s ⟨#[b]⟩) s).map Value.string).toArray := by rw [← hlen]; exact Lib.cellsOf_full _
  rw [e2] at c
  have t3 := L.t3; have t9 := L.t9; have t31 := L.t31
  have a3 := L.a3; have a9 := L.a9; have a31 := L.a31
  have z3 := L.z3; have v3 := L.v3; have z9 := L.z9; have v9 := L.v9; have z31 := L.z31; have v31 := L.v31
  have e221 : ∀ args w, (callFunc (ρ.f 221) args).run P w = .ok (.enter (ρ.f 221) args) w := enters_of L.f221 (by kernel_rfl) rfl
  go_enter L.f146, Body.n146_ntmps ρ
  go_wp2_with (go_at_fn (ρ.f 221); refine c.mono ?_; rintro e w' ⟨rfl, hw⟩; rw [hw])
  go_ret
  exact ⟨rfl, rfl⟩
/-- The pieces. -/
def pieces (s sep : ByteArray) : List ByteArray := Lib.splitB sep 0 (Lib.countB s sep) s
def dSplit (s sep : ByteArray) : Option (List ByteArray) := bif decide (s.size < 4294967281) && decide (sep.size = 1) then some (pieces s sep) else none
noncomputable def gSplit : Sg := ⟨⟨[(0, .c (.str)), (1, .c (.str))], []⟩, ⟨[(0, .c (.ref 0))], [.lst 9 .str]⟩, List ByteArray, fun y => (((), ()), (y, ())), fun x => dSplit x.1.1 x.1.2.1⟩
theorem eSplit {gl : Nat → Option (List Cell)} : Sound Tryz.prog gl 56 gSplit := by
  intro w S vals x y hI hr hy
  obtain ⟨⟨s, sep, x1⟩, x2⟩ := x
  have hy' : dSplit s sep = some y := hy
  unfold dSplit at hy'
  cases hc : (decide (s.size < 4294967281) && decide (sep.size = 1)) with
  | false => rw [hc] at hy'; cases hy'
  | true =>
    rw [hc] at hy'
    simp only [Bool.and_eq_true, decide_eq_true_eq] at hc
    simp only [cond_true] at hy'
    obtain rfl := Option.some.inj hy'
    obtain ⟨v0, l0, h0, hv0, hr⟩ := reps1 hr
    obtain ⟨v1, l1, h1, hv1, hr⟩ := reps1 hr
    have h2 := reps0 hr
    subst h2 h1
    rw [arr_of h0, show v0 = .string s from hv0.1, show v1 = .string sep from hv1.1]
    obtain ⟨b, rfl⟩ := Lib.one_byte sep hc.2
    have hlen := Lib.splitB_all ⟨#[b]⟩ (Nat.le_refl _) 0 _ s rfl
    refine (split_one Tryz.lays146 (by kernel_rfl) s b w hc.1).mono ?_
    rintro e w' ⟨rfl, rfl⟩
    have hw : Inv (FdOf gl w S 0) 0 S ⟨[], []⟩ noAct (w.alloc (.cells ((pieces s ⟨#[b]⟩).map Value.string).toArray 9)) := hI.alloc _
    have hS0 : S.val 0 = none := hI.news 0 rfl
    have hle := Lib.countB_le ⟨#[b]⟩ (Nat.le_refl _) s.size s (Nat.le_refl _)
    have hown : (w.alloc (.cells ((pieces s ⟨#[b]⟩).map Value.string).toArray 9)).ownsRow 0 9 1 (.slice (some ⟨w.heap.size, 0, none⟩) (Lib.countB s ⟨#[b]⟩ + 1) (Lib.countB s ⟨#[b]⟩ + 1)) (pieces s ⟨#[b]⟩).length ((pieces s ⟨#[b]⟩).map Value.string) := by
      refine ⟨by simp, .inr ⟨w.heap.size, Lib.countB s ⟨#[b]⟩ + 1, ((pieces s ⟨#[b]⟩).map Value.string).toArray, ?_, Nat.zero_le _, heap_alloc_new _ _, ?_, ?_, ?_, ?_⟩⟩
      · rw [show (pieces s ⟨#[b]⟩).length = Lib.countB s ⟨#[b]⟩ + 1 from hlen]
      · exact Nat.le_of_eq hlen
      · unfold maxLen; omega
      · rw [List.size_toArray, List.length_map, show (pieces s ⟨#[b]⟩).length = Lib.countB s ⟨#[b]⟩ + 1 from hlen, Nat.mul_one]
      · rw [Nat.mul_one, List.take_of_length_le (by simp)]
    have hset := hw.set (n := 0) (o := .lst 9 .str (pieces s ⟨#[b]⟩)) (v := .slice (some ⟨w.heap.size, 0, none⟩) (Lib.countB s ⟨#[b]⟩ + 1) (Lib.countB s ⟨#[b]⟩ + 1)) (.inl hS0)
      ⟨_, (pieces s ⟨#[b]⟩).map Value.string, by simp [St.bind], hown, fun j z hj => by simp [RepK, Kind.sz, hj], fun u hu => by obtain ⟨z, _, rfl⟩ := List.mem_map.1 hu; rfl⟩
      (fun k _ hk => by
        obtain rfl : w.heap.size = k := by simpa [blk] using hk
        exact ⟨fun hc => absurd (hI.imm _ hc).1 (by omega), .inl (Nat.le_refl _), fun m p u hm hp => by cases hp⟩)
    refine ⟨_, S.bind 0 _, rfl, ⟨0, .c (.ref 0), rfl, ⟨by simp [St.bind]; rfl, rfl⟩, rfl⟩, ?_⟩
    exact hset
end Go.Proofs.YtondfjckadlabaaGreatDoor.EX
