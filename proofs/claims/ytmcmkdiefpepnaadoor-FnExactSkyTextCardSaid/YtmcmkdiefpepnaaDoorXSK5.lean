-- By xprint.py, a driver of ours round the kit's printer, out of the translation; Lean checks it.
import Derived.Test.YtmcmkdiefpepnaaDoorXSK0
import Derived.Test.YtmcmkdiefpepnaaDoorXSK4
namespace Go.Proofs.YtmcmkdiefpepnaaDoor.XSK
open Go.Proofs.YtmcmkdiefpepnaaDoor.Ext
open Go.RowKit Go.Proofs.YtmcmkdiefpepnaaDoorW.PrintWords Go.Proofs.YtmcmkdiefpepnaaDoorW.PrintLast Go.Proofs.YtmcmkdiefpepnaaDoorW.PrintMore
attribute [local go_sem] max2_int min2_int max_two min_two max_three min_three max_four min_four   -- for this text's walks alone
set_option linter.unusedVariables false
set_option linter.unusedSimpArgs false

/-! ### impl_SkyOk: function 85 -/
mutual
def impl_SkyOk.j1 : Nat → Int → Int → Int → ByteArray → ByteArray → Int → Option (Bool)
  | 0, _, _, _, _, _, _ => none
  | k + 1, x162000, x162001, x162002, x162003, x162004, x162005 => (impl_in.f x162002 (-1) 9999).bind fun t165 => (if t165 = true then (if x162003.toList = ([] : List UInt8) then (impl_SkyOk.j2 k false x162000 x162001 x162002 x162003 x162004 x162005) else ((slices_Contains_string_string.f k weatherL x162003).bind fun t166 => (impl_SkyOk.j2 k (!t166) x162000 x162001 x162002 x162003 x162004 x162005))) else (impl_SkyOk.j2 k true x162000 x162001 x162002 x162003 x162004 x162005))
def impl_SkyOk.j2 : Nat → Bool → Int → Int → Int → ByteArray → ByteArray → Int → Option (Bool)
  | 0, _, _, _, _, _, _, _ => none
  | k + 1, x46, x162000, x162001, x162002, x162003, x162004, x162005 => if x46 = true then (some false) else (if x162004.toList = ([] : List UInt8) then (impl_SkyOk.j3 k true x162000 x162001 x162002 x162003 x162004 x162005) else (impl_SkyOk.j3 k (x162004.toList == ([83, 75, 67] : List UInt8)) x162000 x162001 x162002 x162003 x162004 x162005))
def impl_SkyOk.j3 : Nat → Bool → Int → Int → Int → ByteArray → ByteArray → Int → Option (Bool)
  | 0, _, _, _, _, _, _, _ => none
  | k + 1, x54, x162000, x162001, x162002, x162003, x162004, x162005 => if x54 = true then (some (x162005 == 0)) else ((slices_Contains_string_string.f k coverL x162004).bind fun t167 => (if t167 = true then ((impl_in.f x162005 1 200).bind fun t168 => (some t168)) else (some false)))
def impl_SkyOk.j0 : Nat → Bool → Int → Int → Int → ByteArray → ByteArray → Int → Option (Bool)
  | 0, _, _, _, _, _, _, _ => none
  | k + 1, x3, x162000, x162001, x162002, x162003, x162004, x162005 => if x3 = true then (if x162001 = 0 then (impl_SkyOk.j1 k x162000 x162001 x162002 x162003 x162004 x162005) else (some false)) else ((impl_in.f x162000 1 36).bind fun t162 => (if t162 = true then ((impl_in.f x162001 1 99).bind fun t163 => (if t163 = true then (impl_SkyOk.j1 k x162000 x162001 x162002 x162003 x162004 x162005) else (some false))) else (if x162000 = 99 then ((impl_in.f x162001 1 99).bind fun t164 => (if t164 = true then (impl_SkyOk.j1 k x162000 x162001 x162002 x162003 x162004 x162005) else (some false))) else (some false))))
end
def impl_SkyOk.f (k : Nat) (a0_0 : Int) (a0_1 : Int) (a0_2 : Int) (a0_3 : ByteArray) (a0_4 : ByteArray) (a0_5 : Int) : Option (Bool) := if a0_0 = (-1) then (impl_SkyOk.j0 k true a0_0 a0_1 a0_2 a0_3 a0_4 a0_5) else (impl_SkyOk.j0 k (a0_0 == 0) a0_0 a0_1 a0_2 a0_3 a0_4 a0_5)
theorem impl_SkyOk.mono_l : ∀ k, (∀ y0 y1 y2 y3 y4 y5, LeO (impl_SkyOk.j1 k y0 y1 y2 y3 y4 y5) (impl_SkyOk.j1 (k + 1) y0 y1 y2 y3 y4 y5)) ∧ (∀ y0 y1 y2 y3 y4 y5 y6, LeO (impl_SkyOk.j2 k y0 y1 y2 y3 y4 y5 y6) (impl_SkyOk.j2 (k + 1) y0 y1 y2 y3 y4 y5 y6)) ∧ (∀ y0 y1 y2 y3 y4 y5 y6, LeO (impl_SkyOk.j3 k y0 y1 y2 y3 y4 y5 y6) (impl_SkyOk.j3 (k + 1) y0 y1 y2 y3 y4 y5 y6)) ∧ (∀ y0 y1 y2 y3 y4 y5 y6, LeO (impl_SkyOk.j0 k y0 y1 y2 y3 y4 y5 y6) (impl_SkyOk.j0 (k + 1) y0 y1 y2 y3 y4 y5 y6))
  | 0 => ⟨fun _ _ _ _ _ _ r h => by simp [impl_SkyOk.j1] at h, fun _ _ _ _ _ _ _ r h => by simp [impl_SkyOk.j2] at h, fun _ _ _ _ _ _ _ r h => by simp [impl_SkyOk.j3] at h, fun _ _ _ _ _ _ _ r h => by simp [impl_SkyOk.j0] at h⟩
  | k + 1 => by
    obtain ⟨ih0, ih1, ih2, ih3⟩ := impl_SkyOk.mono_l k
    refine ⟨?_, ?_, ?_, ?_⟩
    · intro y0 y1 y2 y3 y4 y5
      unfold impl_SkyOk.j1
      repeat' first
      | (with_reducible exact ih0 _ _ _ _ _ _)
      | (with_reducible exact ih1 _ _ _ _ _ _ _)
      | (with_reducible exact ih2 _ _ _ _ _ _ _)
      | (with_reducible exact ih3 _ _ _ _ _ _ _)
      | (with_reducible exact slices_Contains_string_string.mono _ _ _)
      | (with_reducible exact LeO.refl _)
      | (with_reducible exact LeO.none _)
      | (with_reducible refine LeO.ite ?_ ?_)
      | (with_reducible refine LeO.bind ?_ (fun _ => ?_))
      | exact ih0 _ _ _ _ _ _
      | exact ih1 _ _ _ _ _ _ _
      | exact ih2 _ _ _ _ _ _ _
      | exact ih3 _ _ _ _ _ _ _
      | exact slices_Contains_string_string.mono _ _ _
      | exact LeO.none _
      | refine LeO.ite ?_ ?_
      | refine LeO.bind ?_ (fun _ => ?_)
    · intro y0 y1 y2 y3 y4 y5 y6
      unfold impl_SkyOk.j2
      repeat' first
      | (with_reducible exact ih0 _ _ _ _ _ _)
      | (with_reducible exact ih1 _ _ _ _ _ _ _)
      | (with_reducible exact ih2 _ _ _ _ _ _ _)
      | (with_reducible exact ih3 _ _ _ _ _ _ _)
      | (with_reducible exact slices_Contains_string_string.mono _ _ _)
      | (with_reducible exact LeO.refl _)
      | (with_reducible exact LeO.none _)
      | (with_reducible refine LeO.ite ?_ ?_)
      | (with_reducible refine LeO.bind ?_ (fun _ => ?_))
      | exact ih0 _ _ _ _ _ _
      | exact ih1 _ _ _ _ _ _ _
      | exact ih2 _ _ _ _ _ _ _
      | exact ih3 _ _ _ _ _ _ _
      | exact slices_Contains_string_string.mono _ _ _
      | exact LeO.none _
      | refine LeO.ite ?_ ?_
      | refine LeO.bind ?_ (fun _ => ?_)
    · intro y0 y1 y2 y3 y4 y5 y6
      unfold impl_SkyOk.j3
      repeat' first
      | (with_reducible exact ih0 _ _ _ _ _ _)
      | (with_reducible exact ih1 _ _ _ _ _ _ _)
      | (with_reducible exact ih2 _ _ _ _ _ _ _)
      | (with_reducible exact ih3 _ _ _ _ _ _ _)
      | (with_reducible exact slices_Contains_string_string.mono _ _ _)
      | (with_reducible exact LeO.refl _)
      | (with_reducible exact LeO.none _)
      | (with_reducible refine LeO.ite ?_ ?_)
      | (with_reducible refine LeO.bind ?_ (fun _ => ?_))
      | exact ih0 _ _ _ _ _ _
      | exact ih1 _ _ _ _ _ _ _
      | exact ih2 _ _ _ _ _ _ _
      | exact ih3 _ _ _ _ _ _ _
      | exact slices_Contains_string_string.mono _ _ _
      | exact LeO.none _
      | refine LeO.ite ?_ ?_
      | refine LeO.bind ?_ (fun _ => ?_)
    · intro y0 y1 y2 y3 y4 y5 y6
      unfold impl_SkyOk.j0
      repeat' first
      | (with_reducible exact ih0 _ _ _ _ _ _)
      | (with_reducible exact ih1 _ _ _ _ _ _ _)
      | (with_reducible exact ih2 _ _ _ _ _ _ _)
      | (with_reducible exact ih3 _ _ _ _ _ _ _)
      | (with_reducible exact slices_Contains_string_string.mono _ _ _)
      | (with_reducible exact LeO.refl _)
      | (with_reducible exact LeO.none _)
      | (with_reducible refine LeO.ite ?_ ?_)
      | (with_reducible refine LeO.bind ?_ (fun _ => ?_))
      | exact ih0 _ _ _ _ _ _
      | exact ih1 _ _ _ _ _ _ _
      | exact ih2 _ _ _ _ _ _ _
      | exact ih3 _ _ _ _ _ _ _
      | exact slices_Contains_string_string.mono _ _ _
      | exact LeO.none _
      | refine LeO.ite ?_ ?_
      | refine LeO.bind ?_ (fun _ => ?_)
theorem impl_SkyOk.mono : ∀ a0 a1 a2 a3 a4 a5 k, LeO (impl_SkyOk.f k a0 a1 a2 a3 a4 a5) (impl_SkyOk.f (k + 1) a0 a1 a2 a3 a4 a5) := by
  intro a0 a1 a2 a3 a4 a5 k
  obtain ⟨ih0, ih1, ih2, ih3⟩ := impl_SkyOk.mono_l k
  unfold impl_SkyOk.f
  repeat' first
      | (with_reducible exact ih0 _ _ _ _ _ _)
      | (with_reducible exact ih1 _ _ _ _ _ _ _)
      | (with_reducible exact ih2 _ _ _ _ _ _ _)
      | (with_reducible exact ih3 _ _ _ _ _ _ _)
      | (with_reducible exact slices_Contains_string_string.mono _ _ _)
      | (with_reducible exact LeO.refl _)
      | (with_reducible exact LeO.none _)
      | (with_reducible refine LeO.ite ?_ ?_)
      | (with_reducible refine LeO.bind ?_ (fun _ => ?_))
      | exact ih0 _ _ _ _ _ _
      | exact ih1 _ _ _ _ _ _ _
      | exact ih2 _ _ _ _ _ _ _
      | exact ih3 _ _ _ _ _ _ _
      | exact slices_Contains_string_string.mono _ _ _
      | exact LeO.none _
      | refine LeO.ite ?_ ?_
      | refine LeO.bind ?_ (fun _ => ?_)
set_option maxHeartbeats 8000000 in
set_option maxRecDepth 100000 in
theorem impl_SkyOk.calls (k : Nat) (a0_0 : Int) (a0_1 : Int) (a0_2 : Int) (a0_3 : ByteArray) (a0_4 : ByteArray) (a0_5 : Int) (r : Bool) (w : World) (hGcov : Gcov w) (hGwea : Gwea w) (h : impl_SkyOk.f k a0_0 a0_1 a0_2 a0_3 a0_4 a0_5 = some r) :
    Calls Tryd.prog 85 #[.agg #[.int .i64 a0_0, .int .i64 a0_1, .int .i64 a0_2, .string a0_3, .string a0_4, .int .i64 a0_5]] w fun e w' => e = .returned (.bool r) ∧ Below w.heap.size w w' := by
  have hu30 := Tryd.underlying30
  have HGcov := Aside0.mk hGcov
  clear hGcov
  have HGwea := Aside0.mk hGwea
  clear hGwea
  obtain ⟨Ag2, cg2, HKg2, HCg2, HRg2⟩ := HGwea.out
  replace HKg2 := Aside0.mk HKg2
  replace HCg2 := Aside0.mk HCg2
  replace HRg2 := Aside0.mk HRg2
  obtain ⟨Ag3, cg3, HKg3, HCg3, HRg3⟩ := HGcov.out
  replace HKg3 := Aside0.mk HKg3
  replace HCg3 := Aside0.mk HCg3
  replace HRg3 := Aside0.mk HRg3
  have HB := Aside0.mk (Below.refl w.heap.size w)
  have H : (if a0_0 = (-1) then (impl_SkyOk.j0 k true a0_0 a0_1 a0_2 a0_3 a0_4 a0_5) else (impl_SkyOk.j0 k (a0_0 == 0) a0_0 a0_1 a0_2 a0_3 a0_4 a0_5)) = some r := h
  clear h
  have HC2 := Aside0.mk H
  clear H
  go_enter Tryd.func85, Tryd.ntmps85
  go_upto_block 0 with (first | ((with_reducible refine gate_dst (N := 1) rfl ?_); refine box_event ?hg (N := 1) ?hd (cs := #[.int .i64 a0_0, .int .i64 a0_1, .int .i64 a0_2, .string a0_3, .string a0_4, .int .i64 a0_5]) (t := 30) ?hr ?_; (case hd => rfl); (case hg => rfl); (case hr => first | (go_simp; done) | (go_simp; rfl)); intro gb161 hg w3 hbox hb; have n0_ := Aside0.mk (below_step (by repeat (first | (with_reducible first | exact HB.out | apply below_alloc | apply pw_below_drewN | apply below_drew1) | exact HB.out)) hb); have n1_ := Aside0.mk (hbox); have n2_ := Aside0.mk ((by rw [hg]; exact (below_size (by repeat (first | (with_reducible first | exact HB.out | apply below_alloc | apply pw_below_drewN | apply below_drew1) | exact HB.out))) : w.heap.size ≤ gb161)); have n3_ := Aside0.mk ((by rw [hg]; exact (below_size (by repeat (first | (with_reducible first | exact HB.out | apply below_alloc | apply pw_below_drewN | apply below_drew1) | exact HB.out))) : w.heap.size ≤ gb161)); clear HB; have HB := n0_; have BK161 := n1_; have GW161 := n2_; have GE161 := n3_; clear n0_ n1_ n2_ n3_; clear hb hbox hg))
  (try simp only [Act.put, List.setIfInBounds_toArray, List.set_cons_zero, List.set_cons_succ])
  go_cut [] (fun wc => ∃ (kq : Nat), Aside0 (impl_SkyOk.j1 kq a0_0 a0_1 a0_2 a0_3 a0_4 a0_5 = some r) ∧ Aside0 (kq ≤ k) ∧ Aside0 (wc.heap[gb161]? = some (.cells #[.int .i64 a0_0, .int .i64 a0_1, .int .i64 a0_2, .string a0_3, .string a0_4, .int .i64 a0_5] 30 (0, 0))) ∧ Aside0 (Below w.heap.size w wc))
  case first =>
    have H := HC2.out
    clear HC2
    have HC4 := Aside0.mk H
    clear H
    go_upto_region 1 with (fail)
    go_cut [3] (fun v3 wc => ∃ (kq : Nat) (x3_3 : Bool), v3 = .bool x3_3 ∧ Aside0 (impl_SkyOk.j0 kq x3_3 a0_0 a0_1 a0_2 a0_3 a0_4 a0_5 = some r) ∧ Aside0 (kq ≤ k) ∧ Aside0 (wc.heap[gb161]? = some (.cells #[.int .i64 a0_0, .int .i64 a0_1, .int .i64 a0_2, .string a0_3, .string a0_4, .int .i64 a0_5] 30 (0, 0))) ∧ Aside0 (Below w.heap.size w wc))
    case first =>
      have H := HC4.out
      clear HC4
      by_cases c5 : a0_0 = (-1)
      · rw [if_pos c5] at H
        have c5b0 : (a0_0 == (-1)) = true := beq_iff_eq.mpr c5
        have c5b1 : (a0_0 != (-1)) = false := bne_eq_false_iff_eq.mpr c5
        clear c5
        (first | rw [c5b0] | (simp only [i64_w, i32_w]; rw [c5b0]) | skip)
        have H' := Aside0.mk H
        clear H
        have hcz6_0 : w3.cell? ⟨gb161, 0, none⟩ = some (.int .i64 a0_0) := (blk_cell BK161.out 0).trans rfl
        have hcz6_1 : w3.cell? ⟨gb161, 1, none⟩ = some (.int .i64 a0_1) := (blk_cell BK161.out 1).trans rfl
        have hcz6_2 : w3.cell? ⟨gb161, 2, none⟩ = some (.int .i64 a0_2) := (blk_cell BK161.out 2).trans rfl
        have hcz6_3 : w3.cell? ⟨gb161, 3, none⟩ = some (.string a0_3) := (blk_cell BK161.out 3).trans rfl
        have hcz6_4 : w3.cell? ⟨gb161, 4, none⟩ = some (.string a0_4) := (blk_cell BK161.out 4).trans rfl
        have hcz6_5 : w3.cell? ⟨gb161, 5, none⟩ = some (.int .i64 a0_5) := (blk_cell BK161.out 5).trans rfl
        have hfz6_0 := blk_frozen BK161.out 0
        have hfz6_1 := blk_frozen BK161.out 1
        have hfz6_2 := blk_frozen BK161.out 2
        have hfz6_3 := blk_frozen BK161.out 3
        have hfz6_4 := blk_frozen BK161.out 4
        have hfz6_5 := blk_frozen BK161.out 5
        go_wp2
        go_meet
        case rel => exact ⟨_, (true), (by first | rfl | (simp; done) | (simp [*]; done)), H', ⟨by first | omega | exact Nat.le_refl _⟩, ⟨by (with_reducible repeat (first | refine blk_drewN ?_ _ | refine blk_drew ?_ | refine blk_alloc ?_ _)); exact BK161.out⟩, ⟨by repeat (first | (with_reducible first | exact HB.out | apply below_alloc | apply pw_below_drewN | apply below_drew1 | refine below_set ?_ GE161.out) | exact HB.out)⟩⟩
      · rw [if_neg c5] at H
        have c5b0 : (a0_0 == (-1)) = false := beq_eq_false_iff_ne.mpr c5
        have c5b1 : (a0_0 != (-1)) = true := bne_iff_ne.mpr c5
        (first | rw [c5b0] | (simp only [i64_w, i32_w]; rw [c5b0]) | skip)
        have H' := Aside0.mk H
        clear H
        have hcz7_0 : w3.cell? ⟨gb161, 0, none⟩ = some (.int .i64 a0_0) := (blk_cell BK161.out 0).trans rfl
        have hcz7_1 : w3.cell? ⟨gb161, 1, none⟩ = some (.int .i64 a0_1) := (blk_cell BK161.out 1).trans rfl
        have hcz7_2 : w3.cell? ⟨gb161, 2, none⟩ = some (.int .i64 a0_2) := (blk_cell BK161.out 2).trans rfl
        have hcz7_3 : w3.cell? ⟨gb161, 3, none⟩ = some (.string a0_3) := (blk_cell BK161.out 3).trans rfl
        have hcz7_4 : w3.cell? ⟨gb161, 4, none⟩ = some (.string a0_4) := (blk_cell BK161.out 4).trans rfl
        have hcz7_5 : w3.cell? ⟨gb161, 5, none⟩ = some (.int .i64 a0_5) := (blk_cell BK161.out 5).trans rfl
        have hfz7_0 := blk_frozen BK161.out 0
        have hfz7_1 := blk_frozen BK161.out 1
        have hfz7_2 := blk_frozen BK161.out 2
        have hfz7_3 := blk_frozen BK161.out 3
        have hfz7_4 := blk_frozen BK161.out 4
        have hfz7_5 := blk_frozen BK161.out 5
        go_wp2
        go_meet
        case rel => exact ⟨_, ((a0_0 == 0)), (by first | rfl | (simp; done) | (simp [*]; done)), H', ⟨by first | omega | exact Nat.le_refl _⟩, ⟨by (with_reducible repeat (first | refine blk_drewN ?_ _ | refine blk_drew ?_ | refine blk_alloc ?_ _)); exact BK161.out⟩, ⟨by repeat (first | (with_reducible first | exact HB.out | apply below_alloc | apply pw_below_drewN | apply below_drew1 | refine below_set ?_ GE161.out) | exact HB.out)⟩⟩
    case rest =>
      clear HC4
      try clear p2
      try clear c5
      try clear c5b0
      try clear c5b1
      try clear hcz6_0
      try clear hcz6_1
      try clear hcz6_2
      try clear hcz6_3
      try clear hcz6_4
      try clear hcz6_5
      try clear hcz7_0
      try clear hcz7_1
      try clear hcz7_2
      try clear hcz7_3
      try clear hcz7_4
      try clear hcz7_5
      try clear hfz6_0
      try clear hfz6_1
      try clear hfz6_2
      try clear hfz6_3
      try clear hfz6_4
      try clear hfz6_5
      try clear hfz7_0
      try clear hfz7_1
      try clear hfz7_2
      try clear hfz7_3
      try clear hfz7_4
      try clear hfz7_5
      obtain ⟨kq, x3_3, rfl, HA, HJ3, BK161, HB⟩ := hcut
      cases kq with
      | zero => exact absurd HA.out (by simp [impl_SkyOk.j0])
      | succ kj3 =>
        have H := HA.out
        clear HA
        simp only [impl_SkyOk.j0] at H
        by_cases c8 : x3_3 = true
        · subst c8
          have H1 : (if a0_1 = 0 then (impl_SkyOk.j1 kj3 a0_0 a0_1 a0_2 a0_3 a0_4 a0_5) else (some false)) = some r := by rw [if_pos rfl] at H; exact H
          clear H
          have H := H1
          clear H1
          by_cases c9 : a0_1 = 0
          · rw [if_pos c9] at H
            have c9b0 : (a0_1 == 0) = true := beq_iff_eq.mpr c9
            have c9b1 : (a0_1 != 0) = false := bne_eq_false_iff_eq.mpr c9
            clear c9
            have H' := Aside0.mk H
            clear H
            have hcz10_0 : wc.cell? ⟨gb161, 0, none⟩ = some (.int .i64 a0_0) := (blk_cell BK161.out 0).trans rfl
            have hcz10_1 : wc.cell? ⟨gb161, 1, none⟩ = some (.int .i64 a0_1) := (blk_cell BK161.out 1).trans rfl
            have hcz10_2 : wc.cell? ⟨gb161, 2, none⟩ = some (.int .i64 a0_2) := (blk_cell BK161.out 2).trans rfl
            have hcz10_3 : wc.cell? ⟨gb161, 3, none⟩ = some (.string a0_3) := (blk_cell BK161.out 3).trans rfl
            have hcz10_4 : wc.cell? ⟨gb161, 4, none⟩ = some (.string a0_4) := (blk_cell BK161.out 4).trans rfl
            have hcz10_5 : wc.cell? ⟨gb161, 5, none⟩ = some (.int .i64 a0_5) := (blk_cell BK161.out 5).trans rfl
            have hfz10_0 := blk_frozen BK161.out 0
            have hfz10_1 := blk_frozen BK161.out 1
            have hfz10_2 := blk_frozen BK161.out 2
            have hfz10_3 := blk_frozen BK161.out 3
            have hfz10_4 := blk_frozen BK161.out 4
            have hfz10_5 := blk_frozen BK161.out 5
            go_wp2
            go_meet
            case rel => exact ⟨_, H', ⟨by have := HJ3.out; first | omega | exact Nat.le_refl _⟩, ⟨by (with_reducible repeat (first | refine blk_drewN ?_ _ | refine blk_drew ?_ | refine blk_alloc ?_ _)); exact BK161.out⟩, ⟨by repeat (first | (with_reducible first | exact HB.out | apply below_alloc | apply pw_below_drewN | apply below_drew1 | refine below_set ?_ GE161.out) | exact HB.out)⟩⟩
          · rw [if_neg c9] at H
            have c9b0 : (a0_1 == 0) = false := beq_eq_false_iff_ne.mpr c9
            have c9b1 : (a0_1 != 0) = true := bne_iff_ne.mpr c9
            obtain rfl := Option.some.inj H
            have hcz11_0 : wc.cell? ⟨gb161, 0, none⟩ = some (.int .i64 a0_0) := (blk_cell BK161.out 0).trans rfl
            have hcz11_1 : wc.cell? ⟨gb161, 1, none⟩ = some (.int .i64 a0_1) := (blk_cell BK161.out 1).trans rfl
            have hcz11_2 : wc.cell? ⟨gb161, 2, none⟩ = some (.int .i64 a0_2) := (blk_cell BK161.out 2).trans rfl
            have hcz11_3 : wc.cell? ⟨gb161, 3, none⟩ = some (.string a0_3) := (blk_cell BK161.out 3).trans rfl
            have hcz11_4 : wc.cell? ⟨gb161, 4, none⟩ = some (.string a0_4) := (blk_cell BK161.out 4).trans rfl
            have hcz11_5 : wc.cell? ⟨gb161, 5, none⟩ = some (.int .i64 a0_5) := (blk_cell BK161.out 5).trans rfl
            have hfz11_0 := blk_frozen BK161.out 0
            have hfz11_1 := blk_frozen BK161.out 1
            have hfz11_2 := blk_frozen BK161.out 2
            have hfz11_3 := blk_frozen BK161.out 3
            have hfz11_4 := blk_frozen BK161.out 4
            have hfz11_5 := blk_frozen BK161.out 5
            go_wp2
            go_ret
            exact ⟨by first | rfl | (simp [errW_none, errW_some] <;> rfl) | (simp [*, errW_none, errW_some] <;> rfl), by repeat (first | (with_reducible first | exact HB.out | apply below_alloc | apply pw_below_drewN | apply below_drew1 | refine below_set ?_ GE161.out) | exact HB.out)⟩
        · replace c8 := Bool.eq_false_iff.mpr c8
          subst c8
          have H1 : ((impl_in.f a0_0 1 36).bind fun t162 => (if t162 = true then ((impl_in.f a0_1 1 99).bind fun t163 => (if t163 = true then (impl_SkyOk.j1 kj3 a0_0 a0_1 a0_2 a0_3 a0_4 a0_5) else (some false))) else (if a0_0 = 99 then ((impl_in.f a0_1 1 99).bind fun t164 => (if t164 = true then (impl_SkyOk.j1 kj3 a0_0 a0_1 a0_2 a0_3 a0_4 a0_5) else (some false))) else (some false)))) = some r := by rw [if_neg (show ¬ (false = true) by decide)] at H; exact H
          clear H
          have H := H1
          clear H1
          replace H := Option.bind_eq_some_iff.mp H
          obtain ⟨t162, A120, H⟩ := H
          replace H : (if t162 = true then ((impl_in.f a0_1 1 99).bind fun t163 => (if t163 = true then (impl_SkyOk.j1 kj3 a0_0 a0_1 a0_2 a0_3 a0_4 a0_5) else (some false))) else (if a0_0 = 99 then ((impl_in.f a0_1 1 99).bind fun t164 => (if t164 = true then (impl_SkyOk.j1 kj3 a0_0 a0_1 a0_2 a0_3 a0_4 a0_5) else (some false))) else (some false))) = some r := H
          have A12 := Aside0.mk A120
          clear A120
          by_cases c13 : t162 = true
          · subst c13
            have H1 : ((impl_in.f a0_1 1 99).bind fun t163 => (if t163 = true then (impl_SkyOk.j1 kj3 a0_0 a0_1 a0_2 a0_3 a0_4 a0_5) else (some false))) = some r := by rw [if_pos rfl] at H; exact H
            clear H
            have H := H1
            clear H1
            replace H := Option.bind_eq_some_iff.mp H
            obtain ⟨t163, A140, H⟩ := H
            replace H : (if t163 = true then (impl_SkyOk.j1 kj3 a0_0 a0_1 a0_2 a0_3 a0_4 a0_5) else (some false)) = some r := H
            have A14 := Aside0.mk A140
            clear A140
            by_cases c15 : t163 = true
            · subst c15
              have H1 : (impl_SkyOk.j1 kj3 a0_0 a0_1 a0_2 a0_3 a0_4 a0_5) = some r := by rw [if_pos rfl] at H; exact H
              clear H
              have H := H1
              clear H1
              have H' := Aside0.mk H
              clear H
              have hcz16_0 : wc.cell? ⟨gb161, 0, none⟩ = some (.int .i64 a0_0) := (blk_cell BK161.out 0).trans rfl
              have hcz16_1 : wc.cell? ⟨gb161, 1, none⟩ = some (.int .i64 a0_1) := (blk_cell BK161.out 1).trans rfl
              have hcz16_2 : wc.cell? ⟨gb161, 2, none⟩ = some (.int .i64 a0_2) := (blk_cell BK161.out 2).trans rfl
              have hcz16_3 : wc.cell? ⟨gb161, 3, none⟩ = some (.string a0_3) := (blk_cell BK161.out 3).trans rfl
              have hcz16_4 : wc.cell? ⟨gb161, 4, none⟩ = some (.string a0_4) := (blk_cell BK161.out 4).trans rfl
              have hcz16_5 : wc.cell? ⟨gb161, 5, none⟩ = some (.int .i64 a0_5) := (blk_cell BK161.out 5).trans rfl
              have hfz16_0 := blk_frozen BK161.out 0
              have hfz16_1 := blk_frozen BK161.out 1
              have hfz16_2 := blk_frozen BK161.out 2
              have hfz16_3 := blk_frozen BK161.out 3
              have hfz16_4 := blk_frozen BK161.out 4
              have hfz16_5 := blk_frozen BK161.out 5
              go_wp2_with (first | ((with_reducible refine gate_callee (f := 73) rfl ?_); refine goesL_ (some 18) rfl rfl Tryd.func73 (by kernel_rfl) rfl #[.int .i64 a0_0, .int .i64 1, .int .i64 36] rfl (by (try simp only [List.map_toArray, List.map_cons, List.map_nil]); first | done | rfl | (simp only [List.length_drop, List.length_take]; rfl)) ?_; (with_reducible refine (impl_in.calls a0_0 1 36 true _ A12.out).mono ?_); rintro e w' ⟨rfl, ⟨nd, rfl⟩⟩; refine ⟨_, rfl, ?_⟩) | (go_at_call 73; (with_reducible refine (impl_in.calls a0_1 1 99 true _ A14.out).mono ?_); rintro e w' ⟨rfl, ⟨nd, rfl⟩⟩))
              go_meet
              case rel => exact ⟨_, H', ⟨by have := HJ3.out; first | omega | exact Nat.le_refl _⟩, ⟨by (with_reducible repeat (first | refine blk_drewN ?_ _ | refine blk_drew ?_ | refine blk_alloc ?_ _)); exact BK161.out⟩, ⟨by repeat (first | (with_reducible first | exact HB.out | apply below_alloc | apply pw_below_drewN | apply below_drew1 | refine below_set ?_ GE161.out) | exact HB.out)⟩⟩
            · replace c15 := Bool.eq_false_iff.mpr c15
              subst c15
              have H1 : (some false) = some r := by rw [if_neg (show ¬ (false = true) by decide)] at H; exact H
              clear H
              have H := H1
              clear H1
              obtain rfl := Option.some.inj H
              have hcz17_0 : wc.cell? ⟨gb161, 0, none⟩ = some (.int .i64 a0_0) := (blk_cell BK161.out 0).trans rfl
              have hcz17_1 : wc.cell? ⟨gb161, 1, none⟩ = some (.int .i64 a0_1) := (blk_cell BK161.out 1).trans rfl
              have hcz17_2 : wc.cell? ⟨gb161, 2, none⟩ = some (.int .i64 a0_2) := (blk_cell BK161.out 2).trans rfl
              have hcz17_3 : wc.cell? ⟨gb161, 3, none⟩ = some (.string a0_3) := (blk_cell BK161.out 3).trans rfl
              have hcz17_4 : wc.cell? ⟨gb161, 4, none⟩ = some (.string a0_4) := (blk_cell BK161.out 4).trans rfl
              have hcz17_5 : wc.cell? ⟨gb161, 5, none⟩ = some (.int .i64 a0_5) := (blk_cell BK161.out 5).trans rfl
              have hfz17_0 := blk_frozen BK161.out 0
              have hfz17_1 := blk_frozen BK161.out 1
              have hfz17_2 := blk_frozen BK161.out 2
              have hfz17_3 := blk_frozen BK161.out 3
              have hfz17_4 := blk_frozen BK161.out 4
              have hfz17_5 := blk_frozen BK161.out 5
              go_wp2_with (first | ((with_reducible refine gate_callee (f := 73) rfl ?_); refine goesL_ (some 18) rfl rfl Tryd.func73 (by kernel_rfl) rfl #[.int .i64 a0_0, .int .i64 1, .int .i64 36] rfl (by (try simp only [List.map_toArray, List.map_cons, List.map_nil]); first | done | rfl | (simp only [List.length_drop, List.length_take]; rfl)) ?_; (with_reducible refine (impl_in.calls a0_0 1 36 true _ A12.out).mono ?_); rintro e w' ⟨rfl, ⟨nd, rfl⟩⟩; refine ⟨_, rfl, ?_⟩) | (go_at_call 73; (with_reducible refine (impl_in.calls a0_1 1 99 false _ A14.out).mono ?_); rintro e w' ⟨rfl, ⟨nd, rfl⟩⟩))
              go_ret
              exact ⟨by first | rfl | (simp [errW_none, errW_some] <;> rfl) | (simp [*, errW_none, errW_some] <;> rfl), by repeat (first | (with_reducible first | exact HB.out | apply below_alloc | apply pw_below_drewN | apply below_drew1 | refine below_set ?_ GE161.out) | exact HB.out)⟩
          · replace c13 := Bool.eq_false_iff.mpr c13
            subst c13
            have H1 : (if a0_0 = 99 then ((impl_in.f a0_1 1 99).bind fun t164 => (if t164 = true then (impl_SkyOk.j1 kj3 a0_0 a0_1 a0_2 a0_3 a0_4 a0_5) else (some false))) else (some false)) = some r := by rw [if_neg (show ¬ (false = true) by decide)] at H; exact H
            clear H
            have H := H1
            clear H1
            by_cases c18 : a0_0 = 99
            · rw [if_pos c18] at H
              have c18b0 : (a0_0 == 99) = true := beq_iff_eq.mpr c18
              have c18b1 : (a0_0 != 99) = false := bne_eq_false_iff_eq.mpr c18
              clear c18
              replace H := Option.bind_eq_some_iff.mp H
              obtain ⟨t164, A190, H⟩ := H
              replace H : (if t164 = true then (impl_SkyOk.j1 kj3 a0_0 a0_1 a0_2 a0_3 a0_4 a0_5) else (some false)) = some r := H
              have A19 := Aside0.mk A190
              clear A190
              by_cases c20 : t164 = true
              · subst c20
                have H1 : (impl_SkyOk.j1 kj3 a0_0 a0_1 a0_2 a0_3 a0_4 a0_5) = some r := by rw [if_pos rfl] at H; exact H
                clear H
                have H := H1
                clear H1
                have H' := Aside0.mk H
                clear H
                have hcz21_0 : wc.cell? ⟨gb161, 0, none⟩ = some (.int .i64 a0_0) := (blk_cell BK161.out 0).trans rfl
                have hcz21_1 : wc.cell? ⟨gb161, 1, none⟩ = some (.int .i64 a0_1) := (blk_cell BK161.out 1).trans rfl
                have hcz21_2 : wc.cell? ⟨gb161, 2, none⟩ = some (.int .i64 a0_2) := (blk_cell BK161.out 2).trans rfl
                have hcz21_3 : wc.cell? ⟨gb161, 3, none⟩ = some (.string a0_3) := (blk_cell BK161.out 3).trans rfl
                have hcz21_4 : wc.cell? ⟨gb161, 4, none⟩ = some (.string a0_4) := (blk_cell BK161.out 4).trans rfl
                have hcz21_5 : wc.cell? ⟨gb161, 5, none⟩ = some (.int .i64 a0_5) := (blk_cell BK161.out 5).trans rfl
                have hfz21_0 := blk_frozen BK161.out 0
                have hfz21_1 := blk_frozen BK161.out 1
                have hfz21_2 := blk_frozen BK161.out 2
                have hfz21_3 := blk_frozen BK161.out 3
                have hfz21_4 := blk_frozen BK161.out 4
                have hfz21_5 := blk_frozen BK161.out 5
                go_wp2_with (first | ((with_reducible refine gate_callee (f := 73) rfl ?_); refine goesL_ (some 18) rfl rfl Tryd.func73 (by kernel_rfl) rfl #[.int .i64 a0_0, .int .i64 1, .int .i64 36] rfl (by (try simp only [List.map_toArray, List.map_cons, List.map_nil]); first | done | rfl | (simp only [List.length_drop, List.length_take]; rfl)) ?_; (with_reducible refine (impl_in.calls a0_0 1 36 false _ A12.out).mono ?_); rintro e w' ⟨rfl, ⟨nd, rfl⟩⟩; refine ⟨_, rfl, ?_⟩) | (go_at_call 73; (with_reducible refine (impl_in.calls a0_1 1 99 true _ A19.out).mono ?_); rintro e w' ⟨rfl, ⟨nd, rfl⟩⟩))
                go_meet
                case rel => exact ⟨_, H', ⟨by have := HJ3.out; first | omega | exact Nat.le_refl _⟩, ⟨by (with_reducible repeat (first | refine blk_drewN ?_ _ | refine blk_drew ?_ | refine blk_alloc ?_ _)); exact BK161.out⟩, ⟨by repeat (first | (with_reducible first | exact HB.out | apply below_alloc | apply pw_below_drewN | apply below_drew1 | refine below_set ?_ GE161.out) | exact HB.out)⟩⟩
              · replace c20 := Bool.eq_false_iff.mpr c20
                subst c20
                have H1 : (some false) = some r := by rw [if_neg (show ¬ (false = true) by decide)] at H; exact H
                clear H
                have H := H1
                clear H1
                obtain rfl := Option.some.inj H
                have hcz22_0 : wc.cell? ⟨gb161, 0, none⟩ = some (.int .i64 a0_0) := (blk_cell BK161.out 0).trans rfl
                have hcz22_1 : wc.cell? ⟨gb161, 1, none⟩ = some (.int .i64 a0_1) := (blk_cell BK161.out 1).trans rfl
                have hcz22_2 : wc.cell? ⟨gb161, 2, none⟩ = some (.int .i64 a0_2) := (blk_cell BK161.out 2).trans rfl
                have hcz22_3 : wc.cell? ⟨gb161, 3, none⟩ = some (.string a0_3) := (blk_cell BK161.out 3).trans rfl
                have hcz22_4 : wc.cell? ⟨gb161, 4, none⟩ = some (.string a0_4) := (blk_cell BK161.out 4).trans rfl
                have hcz22_5 : wc.cell? ⟨gb161, 5, none⟩ = some (.int .i64 a0_5) := (blk_cell BK161.out 5).trans rfl
                have hfz22_0 := blk_frozen BK161.out 0
                have hfz22_1 := blk_frozen BK161.out 1
                have hfz22_2 := blk_frozen BK161.out 2
                have hfz22_3 := blk_frozen BK161.out 3
                have hfz22_4 := blk_frozen BK161.out 4
                have hfz22_5 := blk_frozen BK161.out 5
                go_wp2_with (first | ((with_reducible refine gate_callee (f := 73) rfl ?_); refine goesL_ (some 18) rfl rfl Tryd.func73 (by kernel_rfl) rfl #[.int .i64 a0_0, .int .i64 1, .int .i64 36] rfl (by (try simp only [List.map_toArray, List.map_cons, List.map_nil]); first | done | rfl | (simp only [List.length_drop, List.length_take]; rfl)) ?_; (with_reducible refine (impl_in.calls a0_0 1 36 false _ A12.out).mono ?_); rintro e w' ⟨rfl, ⟨nd, rfl⟩⟩; refine ⟨_, rfl, ?_⟩) | (go_at_call 73; (with_reducible refine (impl_in.calls a0_1 1 99 false _ A19.out).mono ?_); rintro e w' ⟨rfl, ⟨nd, rfl⟩⟩))
                go_ret
                exact ⟨by first | rfl | (simp [errW_none, errW_some] <;> rfl) | (simp [*, errW_none, errW_some] <;> rfl), by repeat (first | (with_reducible first | exact HB.out | apply below_alloc | apply pw_below_drewN | apply below_drew1 | refine below_set ?_ GE161.out) | exact HB.out)⟩
            · rw [if_neg c18] at H
              have c18b0 : (a0_0 == 99) = false := beq_eq_false_iff_ne.mpr c18
              have c18b1 : (a0_0 != 99) = true := bne_iff_ne.mpr c18
              obtain rfl := Option.some.inj H
              have hcz23_0 : wc.cell? ⟨gb161, 0, none⟩ = some (.int .i64 a0_0) := (blk_cell BK161.out 0).trans rfl
              have hcz23_1 : wc.cell? ⟨gb161, 1, none⟩ = some (.int .i64 a0_1) := (blk_cell BK161.out 1).trans rfl
              have hcz23_2 : wc.cell? ⟨gb161, 2, none⟩ = some (.int .i64 a0_2) := (blk_cell BK161.out 2).trans rfl
              have hcz23_3 : wc.cell? ⟨gb161, 3, none⟩ = some (.string a0_3) := (blk_cell BK161.out 3).trans rfl
              have hcz23_4 : wc.cell? ⟨gb161, 4, none⟩ = some (.string a0_4) := (blk_cell BK161.out 4).trans rfl
              have hcz23_5 : wc.cell? ⟨gb161, 5, none⟩ = some (.int .i64 a0_5) := (blk_cell BK161.out 5).trans rfl
              have hfz23_0 := blk_frozen BK161.out 0
              have hfz23_1 := blk_frozen BK161.out 1
              have hfz23_2 := blk_frozen BK161.out 2
              have hfz23_3 := blk_frozen BK161.out 3
              have hfz23_4 := blk_frozen BK161.out 4
              have hfz23_5 := blk_frozen BK161.out 5
              go_wp2_with (first | ((with_reducible refine gate_callee (f := 73) rfl ?_); refine goesL_ (some 18) rfl rfl Tryd.func73 (by kernel_rfl) rfl #[.int .i64 a0_0, .int .i64 1, .int .i64 36] rfl (by (try simp only [List.map_toArray, List.map_cons, List.map_nil]); first | done | rfl | (simp only [List.length_drop, List.length_take]; rfl)) ?_; (with_reducible refine (impl_in.calls a0_0 1 36 false _ A12.out).mono ?_); rintro e w' ⟨rfl, ⟨nd, rfl⟩⟩; refine ⟨_, rfl, ?_⟩))
              go_ret
              exact ⟨by first | rfl | (simp [errW_none, errW_some] <;> rfl) | (simp [*, errW_none, errW_some] <;> rfl), by repeat (first | (with_reducible first | exact HB.out | apply below_alloc | apply pw_below_drewN | apply below_drew1 | refine below_set ?_ GE161.out) | exact HB.out)⟩
  case rest =>
    clear HC2
    try clear c1
    try clear c2
    try clear p2
    try clear c5
    try clear c5b0
    try clear c5b1
    try clear c7
    try clear c8
    try clear c9
    try clear c9b0
    try clear c9b1
    try clear c13
    try clear c15
    try clear c18
    try clear c18b0
    try clear c18b1
    try clear c20
    try clear hcz10_0
    try clear hcz10_1
    try clear hcz10_2
    try clear hcz10_3
    try clear hcz10_4
    try clear hcz10_5
    try clear hcz11_0
    try clear hcz11_1
    try clear hcz11_2
    try clear hcz11_3
    try clear hcz11_4
    try clear hcz11_5
    try clear hcz16_0
    try clear hcz16_1
    try clear hcz16_2
    try clear hcz16_3
    try clear hcz16_4
    try clear hcz16_5
    try clear hcz17_0
    try clear hcz17_1
    try clear hcz17_2
    try clear hcz17_3
    try clear hcz17_4
    try clear hcz17_5
    try clear hcz21_0
    try clear hcz21_1
    try clear hcz21_2
    try clear hcz21_3
    try clear hcz21_4
    try clear hcz21_5
    try clear hcz22_0
    try clear hcz22_1
    try clear hcz22_2
    try clear hcz22_3
    try clear hcz22_4
    try clear hcz22_5
    try clear hcz23_0
    try clear hcz23_1
    try clear hcz23_2
    try clear hcz23_3
    try clear hcz23_4
    try clear hcz23_5
    try clear hcz6_0
    try clear hcz6_1
    try clear hcz6_2
    try clear hcz6_3
    try clear hcz6_4
    try clear hcz6_5
    try clear hcz7_0
    try clear hcz7_1
    try clear hcz7_2
    try clear hcz7_3
    try clear hcz7_4
    try clear hcz7_5
    try clear hfz10_0
    try clear hfz10_1
    try clear hfz10_2
    try clear hfz10_3
    try clear hfz10_4
    try clear hfz10_5
    try clear hfz11_0
    try clear hfz11_1
    try clear hfz11_2
    try clear hfz11_3
    try clear hfz11_4
    try clear hfz11_5
    try clear hfz16_0
    try clear hfz16_1
    try clear hfz16_2
    try clear hfz16_3
    try clear hfz16_4
    try clear hfz16_5
    try clear hfz17_0
    try clear hfz17_1
    try clear hfz17_2
    try clear hfz17_3
    try clear hfz17_4
    try clear hfz17_5
    try clear hfz21_0
    try clear hfz21_1
    try clear hfz21_2
    try clear hfz21_3
    try clear hfz21_4
    try clear hfz21_5
    try clear hfz22_0
    try clear hfz22_1
    try clear hfz22_2
    try clear hfz22_3
    try clear hfz22_4
    try clear hfz22_5
    try clear hfz23_0
    try clear hfz23_1
    try clear hfz23_2
    try clear hfz23_3
    try clear hfz23_4
    try clear hfz23_5
    try clear hfz6_0
    try clear hfz6_1
    try clear hfz6_2
    try clear hfz6_3
    try clear hfz6_4
    try clear hfz6_5
    try clear hfz7_0
    try clear hfz7_1
    try clear hfz7_2
    try clear hfz7_3
    try clear hfz7_4
    try clear hfz7_5
    try clear p2
    obtain ⟨kq, HA, HJ1, BK161, HB⟩ := hcut
    cases kq with
    | zero => exact absurd HA.out (by simp [impl_SkyOk.j1])
    | succ kj1 =>
      have H := HA.out
      clear HA
      simp only [impl_SkyOk.j1] at H
      have HC24 := Aside0.mk H
      clear H
      go_upto_region 6 with (fail)
      go_cut [46] (fun v46 wc => ∃ (kq : Nat) (x46_23 : Bool), v46 = .bool x46_23 ∧ Aside0 (impl_SkyOk.j2 kq x46_23 a0_0 a0_1 a0_2 a0_3 a0_4 a0_5 = some r) ∧ Aside0 (kq ≤ kj1) ∧ Aside0 (wc.heap[gb161]? = some (.cells #[.int .i64 a0_0, .int .i64 a0_1, .int .i64 a0_2, .string a0_3, .string a0_4, .int .i64 a0_5] 30 (0, 0))) ∧ Aside0 (Below w.heap.size w wc))
      case first =>
        have H := HC24.out
        clear HC24
        replace H := Option.bind_eq_some_iff.mp H
        obtain ⟨t165, A250, H⟩ := H
        replace H : (if t165 = true then (if a0_3.toList = ([] : List UInt8) then (impl_SkyOk.j2 kj1 false a0_0 a0_1 a0_2 a0_3 a0_4 a0_5) else ((slices_Contains_string_string.f kj1 weatherL a0_3).bind fun t166 => (impl_SkyOk.j2 kj1 (!t166) a0_0 a0_1 a0_2 a0_3 a0_4 a0_5))) else (impl_SkyOk.j2 kj1 true a0_0 a0_1 a0_2 a0_3 a0_4 a0_5)) = some r := H
        have A25 := Aside0.mk A250
        clear A250
        by_cases c26 : t165 = true
        · subst c26
          have H1 : (if a0_3.toList = ([] : List UInt8) then (impl_SkyOk.j2 kj1 false a0_0 a0_1 a0_2 a0_3 a0_4 a0_5) else ((slices_Contains_string_string.f kj1 weatherL a0_3).bind fun t166 => (impl_SkyOk.j2 kj1 (!t166) a0_0 a0_1 a0_2 a0_3 a0_4 a0_5))) = some r := by rw [if_pos rfl] at H; exact H
          clear H
          have H := H1
          clear H1
          by_cases c27 : a0_3.toList = ([] : List UInt8)
          · rw [if_pos c27] at H
            have c27b0 : (a0_3.toList == ([] : List UInt8)) = true := beq_iff_eq.mpr c27
            have c27b1 : (a0_3.toList != ([] : List UInt8)) = false := bne_eq_false_iff_eq.mpr c27
            have c27b2 : a0_3.toList.isEmpty = true := List.beq_nil_eq.symm.trans c27b0
            clear c27
            (first | rw [c27b0] | (simp only [i64_w, i32_w]; rw [c27b0]) | rw [c27b2] | skip)
            have H' := Aside0.mk H
            clear H
            have hcz28_0 : wc.cell? ⟨gb161, 0, none⟩ = some (.int .i64 a0_0) := (blk_cell BK161.out 0).trans rfl
            have hcz28_1 : wc.cell? ⟨gb161, 1, none⟩ = some (.int .i64 a0_1) := (blk_cell BK161.out 1).trans rfl
            have hcz28_2 : wc.cell? ⟨gb161, 2, none⟩ = some (.int .i64 a0_2) := (blk_cell BK161.out 2).trans rfl
            have hcz28_3 : wc.cell? ⟨gb161, 3, none⟩ = some (.string a0_3) := (blk_cell BK161.out 3).trans rfl
            have hcz28_4 : wc.cell? ⟨gb161, 4, none⟩ = some (.string a0_4) := (blk_cell BK161.out 4).trans rfl
            have hcz28_5 : wc.cell? ⟨gb161, 5, none⟩ = some (.int .i64 a0_5) := (blk_cell BK161.out 5).trans rfl
            have hfz28_0 := blk_frozen BK161.out 0
            have hfz28_1 := blk_frozen BK161.out 1
            have hfz28_2 := blk_frozen BK161.out 2
            have hfz28_3 := blk_frozen BK161.out 3
            have hfz28_4 := blk_frozen BK161.out 4
            have hfz28_5 := blk_frozen BK161.out 5
            go_wp2_with (first | ((with_reducible refine gate_callee (f := 73) rfl ?_); refine goesL_ (some 33) rfl rfl Tryd.func73 (by kernel_rfl) rfl #[.int .i64 a0_2, .int .i64 (-1), .int .i64 9999] rfl (by (try simp only [List.map_toArray, List.map_cons, List.map_nil]); first | done | rfl | (simp only [List.length_drop, List.length_take]; rfl)) ?_; (with_reducible refine (impl_in.calls a0_2 (-1) 9999 true _ A25.out).mono ?_); rintro e w' ⟨rfl, ⟨nd, rfl⟩⟩; refine ⟨_, rfl, ?_⟩))
            go_meet
            case rel => exact ⟨_, (false), (by first | rfl | (simp; done) | (simp [*]; done)), H', ⟨by have := HJ1.out; first | omega | exact Nat.le_refl _⟩, ⟨by (with_reducible repeat (first | refine blk_drewN ?_ _ | refine blk_drew ?_ | refine blk_alloc ?_ _)); exact BK161.out⟩, ⟨by repeat (first | (with_reducible first | exact HB.out | apply below_alloc | apply pw_below_drewN | apply below_drew1 | refine below_set ?_ GE161.out) | exact HB.out)⟩⟩
          · rw [if_neg c27] at H
            have c27b0 : (a0_3.toList == ([] : List UInt8)) = false := beq_eq_false_iff_ne.mpr c27
            have c27b1 : (a0_3.toList != ([] : List UInt8)) = true := bne_iff_ne.mpr c27
            have c27b2 : a0_3.toList.isEmpty = false := List.beq_nil_eq.symm.trans c27b0
            (first | rw [c27b0] | (simp only [i64_w, i32_w]; rw [c27b0]) | rw [c27b2] | skip)
            replace H := Option.bind_eq_some_iff.mp H
            obtain ⟨t166, A290, H⟩ := H
            replace H : (impl_SkyOk.j2 kj1 (!t166) a0_0 a0_1 a0_2 a0_3 a0_4 a0_5) = some r := H
            have A29 := Aside0.mk A290
            clear A290
            have H' := Aside0.mk H
            clear H
            have hcz30_0 : wc.cell? ⟨gb161, 0, none⟩ = some (.int .i64 a0_0) := (blk_cell BK161.out 0).trans rfl
            have hcz30_1 : wc.cell? ⟨gb161, 1, none⟩ = some (.int .i64 a0_1) := (blk_cell BK161.out 1).trans rfl
            have hcz30_2 : wc.cell? ⟨gb161, 2, none⟩ = some (.int .i64 a0_2) := (blk_cell BK161.out 2).trans rfl
            have hcz30_3 : wc.cell? ⟨gb161, 3, none⟩ = some (.string a0_3) := (blk_cell BK161.out 3).trans rfl
            have hcz30_4 : wc.cell? ⟨gb161, 4, none⟩ = some (.string a0_4) := (blk_cell BK161.out 4).trans rfl
            have hcz30_5 : wc.cell? ⟨gb161, 5, none⟩ = some (.int .i64 a0_5) := (blk_cell BK161.out 5).trans rfl
            have hfz30_0 := blk_frozen BK161.out 0
            have hfz30_1 := blk_frozen BK161.out 1
            have hfz30_2 := blk_frozen BK161.out 2
            have hfz30_3 := blk_frozen BK161.out 3
            have hfz30_4 := blk_frozen BK161.out 4
            have hfz30_5 := blk_frozen BK161.out 5
            go_wp2_with (first | ((with_reducible refine gate_callee (f := 73) rfl ?_); refine goesL_ (some 33) rfl rfl Tryd.func73 (by kernel_rfl) rfl #[.int .i64 a0_2, .int .i64 (-1), .int .i64 9999] rfl (by (try simp only [List.map_toArray, List.map_cons, List.map_nil]); first | done | rfl | (simp only [List.length_drop, List.length_take]; rfl)) ?_; (with_reducible refine (impl_in.calls a0_2 (-1) 9999 true _ A25.out).mono ?_); rintro e w' ⟨rfl, ⟨nd, rfl⟩⟩; refine ⟨_, rfl, ?_⟩; have hg31 := HKg2.out; replace hg31 := (HB.out.cell (World.block_lt_of_cell? w _ hg31)).trans hg31) | (go_at_call 139; (with_reducible refine (slices_Contains_string_string.calls kj1 _ _ weatherL a0_3 t166 _ ?side1 ?side2 A29.out).mono ?_); (case side1 => repeat (first | exact (Kd.C_below HRg2.out (by repeat (first | (with_reducible first | exact HB.out | apply below_alloc | apply pw_below_drewN | apply below_drew1 | refine below_set ?_ GE161.out) | exact HB.out))) | (with_reducible refine Kd.C_alloc ?_ _) | (with_reducible refine Kd.C_drewN ?_ _) | (with_reducible refine Kd.C_drew ?_))); (case side2 => exact HCg2.out); rintro e w' ⟨rfl, ⟨nd, rfl⟩⟩))
            go_meet
            case rel => exact ⟨_, (!t166), (by first | rfl | (simp; done) | (simp [*]; done)), H', ⟨by have := HJ1.out; first | omega | exact Nat.le_refl _⟩, ⟨by (with_reducible repeat (first | refine blk_drewN ?_ _ | refine blk_drew ?_ | refine blk_alloc ?_ _)); exact BK161.out⟩, ⟨by repeat (first | (with_reducible first | exact HB.out | apply below_alloc | apply pw_below_drewN | apply below_drew1 | refine below_set ?_ GE161.out) | exact HB.out)⟩⟩
        · replace c26 := Bool.eq_false_iff.mpr c26
          subst c26
          have H1 : (impl_SkyOk.j2 kj1 true a0_0 a0_1 a0_2 a0_3 a0_4 a0_5) = some r := by rw [if_neg (show ¬ (false = true) by decide)] at H; exact H
          clear H
          have H := H1
          clear H1
          have H' := Aside0.mk H
          clear H
          have hcz32_0 : wc.cell? ⟨gb161, 0, none⟩ = some (.int .i64 a0_0) := (blk_cell BK161.out 0).trans rfl
          have hcz32_1 : wc.cell? ⟨gb161, 1, none⟩ = some (.int .i64 a0_1) := (blk_cell BK161.out 1).trans rfl
          have hcz32_2 : wc.cell? ⟨gb161, 2, none⟩ = some (.int .i64 a0_2) := (blk_cell BK161.out 2).trans rfl
          have hcz32_3 : wc.cell? ⟨gb161, 3, none⟩ = some (.string a0_3) := (blk_cell BK161.out 3).trans rfl
          have hcz32_4 : wc.cell? ⟨gb161, 4, none⟩ = some (.string a0_4) := (blk_cell BK161.out 4).trans rfl
          have hcz32_5 : wc.cell? ⟨gb161, 5, none⟩ = some (.int .i64 a0_5) := (blk_cell BK161.out 5).trans rfl
          have hfz32_0 := blk_frozen BK161.out 0
          have hfz32_1 := blk_frozen BK161.out 1
          have hfz32_2 := blk_frozen BK161.out 2
          have hfz32_3 := blk_frozen BK161.out 3
          have hfz32_4 := blk_frozen BK161.out 4
          have hfz32_5 := blk_frozen BK161.out 5
          go_wp2_with (first | ((with_reducible refine gate_callee (f := 73) rfl ?_); refine goesL_ (some 33) rfl rfl Tryd.func73 (by kernel_rfl) rfl #[.int .i64 a0_2, .int .i64 (-1), .int .i64 9999] rfl (by (try simp only [List.map_toArray, List.map_cons, List.map_nil]); first | done | rfl | (simp only [List.length_drop, List.length_take]; rfl)) ?_; (with_reducible refine (impl_in.calls a0_2 (-1) 9999 false _ A25.out).mono ?_); rintro e w' ⟨rfl, ⟨nd, rfl⟩⟩; refine ⟨_, rfl, ?_⟩))
          go_meet
          case rel => exact ⟨_, (true), (by first | rfl | (simp; done) | (simp [*]; done)), H', ⟨by have := HJ1.out; first | omega | exact Nat.le_refl _⟩, ⟨by (with_reducible repeat (first | refine blk_drewN ?_ _ | refine blk_drew ?_ | refine blk_alloc ?_ _)); exact BK161.out⟩, ⟨by repeat (first | (with_reducible first | exact HB.out | apply below_alloc | apply pw_below_drewN | apply below_drew1 | refine below_set ?_ GE161.out) | exact HB.out)⟩⟩
      case rest =>
        clear HC24
        try clear c1
        try clear c2
        try clear p2
        try clear c5
        try clear c5b0
        try clear c5b1
        try clear c7
        try clear c8
        try clear c9
        try clear c9b0
        try clear c9b1
        try clear c13
        try clear c15
        try clear c18
        try clear c18b0
        try clear c18b1
        try clear c20
        try clear c26
        try clear c27
        try clear c27b0
        try clear c27b1
        try clear c27b2
        try clear hcz10_0
        try clear hcz10_1
        try clear hcz10_2
        try clear hcz10_3
        try clear hcz10_4
        try clear hcz10_5
        try clear hcz11_0
        try clear hcz11_1
        try clear hcz11_2
        try clear hcz11_3
        try clear hcz11_4
        try clear hcz11_5
        try clear hcz16_0
        try clear hcz16_1
        try clear hcz16_2
        try clear hcz16_3
        try clear hcz16_4
        try clear hcz16_5
        try clear hcz17_0
        try clear hcz17_1
        try clear hcz17_2
        try clear hcz17_3
        try clear hcz17_4
        try clear hcz17_5
        try clear hcz21_0
        try clear hcz21_1
        try clear hcz21_2
        try clear hcz21_3
        try clear hcz21_4
        try clear hcz21_5
        try clear hcz22_0
        try clear hcz22_1
        try clear hcz22_2
        try clear hcz22_3
        try clear hcz22_4
        try clear hcz22_5
        try clear hcz23_0
        try clear hcz23_1
        try clear hcz23_2
        try clear hcz23_3
        try clear hcz23_4
        try clear hcz23_5
        try clear hcz28_0
        try clear hcz28_1
        try clear hcz28_2
        try clear hcz28_3
        try clear hcz28_4
        try clear hcz28_5
        try clear hcz30_0
        try clear hcz30_1
        try clear hcz30_2
        try clear hcz30_3
        try clear hcz30_4
        try clear hcz30_5
        try clear hcz32_0
        try clear hcz32_1
        try clear hcz32_2
        try clear hcz32_3
        try clear hcz32_4
        try clear hcz32_5
        try clear hcz6_0
        try clear hcz6_1
        try clear hcz6_2
        try clear hcz6_3
        try clear hcz6_4
        try clear hcz6_5
        try clear hcz7_0
        try clear hcz7_1
        try clear hcz7_2
        try clear hcz7_3
        try clear hcz7_4
        try clear hcz7_5
        try clear hfz10_0
        try clear hfz10_1
        try clear hfz10_2
        try clear hfz10_3
        try clear hfz10_4
        try clear hfz10_5
        try clear hfz11_0
        try clear hfz11_1
        try clear hfz11_2
        try clear hfz11_3
        try clear hfz11_4
        try clear hfz11_5
        try clear hfz16_0
        try clear hfz16_1
        try clear hfz16_2
        try clear hfz16_3
        try clear hfz16_4
        try clear hfz16_5
        try clear hfz17_0
        try clear hfz17_1
        try clear hfz17_2
        try clear hfz17_3
        try clear hfz17_4
        try clear hfz17_5
        try clear hfz21_0
        try clear hfz21_1
        try clear hfz21_2
        try clear hfz21_3
        try clear hfz21_4
        try clear hfz21_5
        try clear hfz22_0
        try clear hfz22_1
        try clear hfz22_2
        try clear hfz22_3
        try clear hfz22_4
        try clear hfz22_5
        try clear hfz23_0
        try clear hfz23_1
        try clear hfz23_2
        try clear hfz23_3
        try clear hfz23_4
        try clear hfz23_5
        try clear hfz28_0
        try clear hfz28_1
        try clear hfz28_2
        try clear hfz28_3
        try clear hfz28_4
        try clear hfz28_5
        try clear hfz30_0
        try clear hfz30_1
        try clear hfz30_2
        try clear hfz30_3
        try clear hfz30_4
        try clear hfz30_5
        try clear hfz32_0
        try clear hfz32_1
        try clear hfz32_2
        try clear hfz32_3
        try clear hfz32_4
        try clear hfz32_5
        try clear hfz6_0
        try clear hfz6_1
        try clear hfz6_2
        try clear hfz6_3
        try clear hfz6_4
        try clear hfz6_5
        try clear hfz7_0
        try clear hfz7_1
        try clear hfz7_2
        try clear hfz7_3
        try clear hfz7_4
        try clear hfz7_5
        try clear p2
        obtain ⟨kq, x46_23, rfl, HA, HJ23, BK161, HB⟩ := hcut
        cases kq with
        | zero => exact absurd HA.out (by simp [impl_SkyOk.j2])
        | succ kj23 =>
          have H := HA.out
          clear HA
          simp only [impl_SkyOk.j2] at H
          by_cases c33 : x46_23 = true
          · subst c33
            have H1 : (some false) = some r := by rw [if_pos rfl] at H; exact H
            clear H
            have H := H1
            clear H1
            obtain rfl := Option.some.inj H
            go_wp2
            go_ret
            exact ⟨by first | rfl | (simp [errW_none, errW_some] <;> rfl) | (simp [*, errW_none, errW_some] <;> rfl), by repeat (first | (with_reducible first | exact HB.out | apply below_alloc | apply pw_below_drewN | apply below_drew1 | refine below_set ?_ GE161.out) | exact HB.out)⟩
          · replace c33 := Bool.eq_false_iff.mpr c33
            subst c33
            have H1 : (if a0_4.toList = ([] : List UInt8) then (impl_SkyOk.j3 kj23 true a0_0 a0_1 a0_2 a0_3 a0_4 a0_5) else (impl_SkyOk.j3 kj23 (a0_4.toList == ([83, 75, 67] : List UInt8)) a0_0 a0_1 a0_2 a0_3 a0_4 a0_5)) = some r := by rw [if_neg (show ¬ (false = true) by decide)] at H; exact H
            clear H
            have H := H1
            clear H1
            have HC34 := Aside0.mk H
            clear H
            go_upto_region 8 with (fail)
            go_cut [54] (fun v54 wc => ∃ (kq : Nat) (x54_33 : Bool), v54 = .bool x54_33 ∧ Aside0 (impl_SkyOk.j3 kq x54_33 a0_0 a0_1 a0_2 a0_3 a0_4 a0_5 = some r) ∧ Aside0 (kq ≤ kj23) ∧ Aside0 (wc.heap[gb161]? = some (.cells #[.int .i64 a0_0, .int .i64 a0_1, .int .i64 a0_2, .string a0_3, .string a0_4, .int .i64 a0_5] 30 (0, 0))) ∧ Aside0 (Below w.heap.size w wc))
            case first =>
              have H := HC34.out
              clear HC34
              by_cases c35 : a0_4.toList = ([] : List UInt8)
              · rw [if_pos c35] at H
                have c35b0 : (a0_4.toList == ([] : List UInt8)) = true := beq_iff_eq.mpr c35
                have c35b1 : (a0_4.toList != ([] : List UInt8)) = false := bne_eq_false_iff_eq.mpr c35
                have c35b2 : a0_4.toList.isEmpty = true := List.beq_nil_eq.symm.trans c35b0
                clear c35
                (first | rw [c35b0] | (simp only [i64_w, i32_w]; rw [c35b0]) | rw [c35b2] | skip)
                have H' := Aside0.mk H
                clear H
                have hcz36_0 : wc.cell? ⟨gb161, 0, none⟩ = some (.int .i64 a0_0) := (blk_cell BK161.out 0).trans rfl
                have hcz36_1 : wc.cell? ⟨gb161, 1, none⟩ = some (.int .i64 a0_1) := (blk_cell BK161.out 1).trans rfl
                have hcz36_2 : wc.cell? ⟨gb161, 2, none⟩ = some (.int .i64 a0_2) := (blk_cell BK161.out 2).trans rfl
                have hcz36_3 : wc.cell? ⟨gb161, 3, none⟩ = some (.string a0_3) := (blk_cell BK161.out 3).trans rfl
                have hcz36_4 : wc.cell? ⟨gb161, 4, none⟩ = some (.string a0_4) := (blk_cell BK161.out 4).trans rfl
                have hcz36_5 : wc.cell? ⟨gb161, 5, none⟩ = some (.int .i64 a0_5) := (blk_cell BK161.out 5).trans rfl
                have hfz36_0 := blk_frozen BK161.out 0
                have hfz36_1 := blk_frozen BK161.out 1
                have hfz36_2 := blk_frozen BK161.out 2
                have hfz36_3 := blk_frozen BK161.out 3
                have hfz36_4 := blk_frozen BK161.out 4
                have hfz36_5 := blk_frozen BK161.out 5
                go_wp2
                go_meet
                case rel => exact ⟨_, (true), (by first | rfl | (simp; done) | (simp [*]; done)), H', ⟨by have := HJ1.out; have := HJ23.out; first | omega | exact Nat.le_refl _⟩, ⟨by (with_reducible repeat (first | refine blk_drewN ?_ _ | refine blk_drew ?_ | refine blk_alloc ?_ _)); exact BK161.out⟩, ⟨by repeat (first | (with_reducible first | exact HB.out | apply below_alloc | apply pw_below_drewN | apply below_drew1 | refine below_set ?_ GE161.out) | exact HB.out)⟩⟩
              · rw [if_neg c35] at H
                have c35b0 : (a0_4.toList == ([] : List UInt8)) = false := beq_eq_false_iff_ne.mpr c35
                have c35b1 : (a0_4.toList != ([] : List UInt8)) = true := bne_iff_ne.mpr c35
                have c35b2 : a0_4.toList.isEmpty = false := List.beq_nil_eq.symm.trans c35b0
                (first | rw [c35b0] | (simp only [i64_w, i32_w]; rw [c35b0]) | rw [c35b2] | skip)
                have H' := Aside0.mk H
                clear H
                have hcz37_0 : wc.cell? ⟨gb161, 0, none⟩ = some (.int .i64 a0_0) := (blk_cell BK161.out 0).trans rfl
                have hcz37_1 : wc.cell? ⟨gb161, 1, none⟩ = some (.int .i64 a0_1) := (blk_cell BK161.out 1).trans rfl
                have hcz37_2 : wc.cell? ⟨gb161, 2, none⟩ = some (.int .i64 a0_2) := (blk_cell BK161.out 2).trans rfl
                have hcz37_3 : wc.cell? ⟨gb161, 3, none⟩ = some (.string a0_3) := (blk_cell BK161.out 3).trans rfl
                have hcz37_4 : wc.cell? ⟨gb161, 4, none⟩ = some (.string a0_4) := (blk_cell BK161.out 4).trans rfl
                have hcz37_5 : wc.cell? ⟨gb161, 5, none⟩ = some (.int .i64 a0_5) := (blk_cell BK161.out 5).trans rfl
                have hfz37_0 := blk_frozen BK161.out 0
                have hfz37_1 := blk_frozen BK161.out 1
                have hfz37_2 := blk_frozen BK161.out 2
                have hfz37_3 := blk_frozen BK161.out 3
                have hfz37_4 := blk_frozen BK161.out 4
                have hfz37_5 := blk_frozen BK161.out 5
                go_wp2
                go_meet
                case rel => exact ⟨_, ((a0_4.toList == ([83, 75, 67] : List UInt8))), (by first | rfl | (simp; done) | (simp [*]; done)), H', ⟨by have := HJ1.out; have := HJ23.out; first | omega | exact Nat.le_refl _⟩, ⟨by (with_reducible repeat (first | refine blk_drewN ?_ _ | refine blk_drew ?_ | refine blk_alloc ?_ _)); exact BK161.out⟩, ⟨by repeat (first | (with_reducible first | exact HB.out | apply below_alloc | apply pw_below_drewN | apply below_drew1 | refine below_set ?_ GE161.out) | exact HB.out)⟩⟩
            case rest =>
              clear HC34
              try clear c1
              try clear c2
              try clear p2
              try clear c3
              try clear c5
              try clear c5b0
              try clear c5b1
              try clear c7
              try clear c8
              try clear c9
              try clear c9b0
              try clear c9b1
              try clear c13
              try clear c15
              try clear c18
              try clear c18b0
              try clear c18b1
              try clear c20
              try clear c26
              try clear c27
              try clear c27b0
              try clear c27b1
              try clear c27b2
              try clear c33
              try clear c35
              try clear c35b0
              try clear c35b1
              try clear c35b2
              try clear hcz10_0
              try clear hcz10_1
              try clear hcz10_2
              try clear hcz10_3
              try clear hcz10_4
              try clear hcz10_5
              try clear hcz11_0
              try clear hcz11_1
              try clear hcz11_2
              try clear hcz11_3
              try clear hcz11_4
              try clear hcz11_5
              try clear hcz16_0
              try clear hcz16_1
              try clear hcz16_2
              try clear hcz16_3
              try clear hcz16_4
              try clear hcz16_5
              try clear hcz17_0
              try clear hcz17_1
              try clear hcz17_2
              try clear hcz17_3
              try clear hcz17_4
              try clear hcz17_5
              try clear hcz21_0
              try clear hcz21_1
              try clear hcz21_2
              try clear hcz21_3
              try clear hcz21_4
              try clear hcz21_5
              try clear hcz22_0
              try clear hcz22_1
              try clear hcz22_2
              try clear hcz22_3
              try clear hcz22_4
              try clear hcz22_5
              try clear hcz23_0
              try clear hcz23_1
              try clear hcz23_2
              try clear hcz23_3
              try clear hcz23_4
              try clear hcz23_5
              try clear hcz28_0
              try clear hcz28_1
              try clear hcz28_2
              try clear hcz28_3
              try clear hcz28_4
              try clear hcz28_5
              try clear hcz30_0
              try clear hcz30_1
              try clear hcz30_2
              try clear hcz30_3
              try clear hcz30_4
              try clear hcz30_5
              try clear hcz32_0
              try clear hcz32_1
              try clear hcz32_2
              try clear hcz32_3
              try clear hcz32_4
              try clear hcz32_5
              try clear hcz36_0
              try clear hcz36_1
              try clear hcz36_2
              try clear hcz36_3
              try clear hcz36_4
              try clear hcz36_5
              try clear hcz37_0
              try clear hcz37_1
              try clear hcz37_2
              try clear hcz37_3
              try clear hcz37_4
              try clear hcz37_5
              try clear hcz6_0
              try clear hcz6_1
              try clear hcz6_2
              try clear hcz6_3
              try clear hcz6_4
              try clear hcz6_5
              try clear hcz7_0
              try clear hcz7_1
              try clear hcz7_2
              try clear hcz7_3
              try clear hcz7_4
              try clear hcz7_5
              try clear hfz10_0
              try clear hfz10_1
              try clear hfz10_2
              try clear hfz10_3
              try clear hfz10_4
              try clear hfz10_5
              try clear hfz11_0
              try clear hfz11_1
              try clear hfz11_2
              try clear hfz11_3
              try clear hfz11_4
              try clear hfz11_5
              try clear hfz16_0
              try clear hfz16_1
              try clear hfz16_2
              try clear hfz16_3
              try clear hfz16_4
              try clear hfz16_5
              try clear hfz17_0
              try clear hfz17_1
              try clear hfz17_2
              try clear hfz17_3
              try clear hfz17_4
              try clear hfz17_5
              try clear hfz21_0
              try clear hfz21_1
              try clear hfz21_2
              try clear hfz21_3
              try clear hfz21_4
              try clear hfz21_5
              try clear hfz22_0
              try clear hfz22_1
              try clear hfz22_2
              try clear hfz22_3
              try clear hfz22_4
              try clear hfz22_5
              try clear hfz23_0
              try clear hfz23_1
              try clear hfz23_2
              try clear hfz23_3
              try clear hfz23_4
              try clear hfz23_5
              try clear hfz28_0
              try clear hfz28_1
              try clear hfz28_2
              try clear hfz28_3
              try clear hfz28_4
              try clear hfz28_5
              try clear hfz30_0
              try clear hfz30_1
              try clear hfz30_2
              try clear hfz30_3
              try clear hfz30_4
              try clear hfz30_5
              try clear hfz32_0
              try clear hfz32_1
              try clear hfz32_2
              try clear hfz32_3
              try clear hfz32_4
              try clear hfz32_5
              try clear hfz36_0
              try clear hfz36_1
              try clear hfz36_2
              try clear hfz36_3
              try clear hfz36_4
              try clear hfz36_5
              try clear hfz37_0
              try clear hfz37_1
              try clear hfz37_2
              try clear hfz37_3
              try clear hfz37_4
              try clear hfz37_5
              try clear hfz6_0
              try clear hfz6_1
              try clear hfz6_2
              try clear hfz6_3
              try clear hfz6_4
              try clear hfz6_5
              try clear hfz7_0
              try clear hfz7_1
              try clear hfz7_2
              try clear hfz7_3
              try clear hfz7_4
              try clear hfz7_5
              try clear p2
              obtain ⟨kq, x54_33, rfl, HA, HJ33, BK161, HB⟩ := hcut
              cases kq with
              | zero => exact absurd HA.out (by simp [impl_SkyOk.j3])
              | succ kj33 =>
                have H := HA.out
                clear HA
                simp only [impl_SkyOk.j3] at H
                by_cases c38 : x54_33 = true
                · subst c38
                  have H1 : (some (a0_5 == 0)) = some r := by rw [if_pos rfl] at H; exact H
                  clear H
                  have H := H1
                  clear H1
                  obtain rfl := Option.some.inj H
                  have hcz39_0 : wc.cell? ⟨gb161, 0, none⟩ = some (.int .i64 a0_0) := (blk_cell BK161.out 0).trans rfl
                  have hcz39_1 : wc.cell? ⟨gb161, 1, none⟩ = some (.int .i64 a0_1) := (blk_cell BK161.out 1).trans rfl
                  have hcz39_2 : wc.cell? ⟨gb161, 2, none⟩ = some (.int .i64 a0_2) := (blk_cell BK161.out 2).trans rfl
                  have hcz39_3 : wc.cell? ⟨gb161, 3, none⟩ = some (.string a0_3) := (blk_cell BK161.out 3).trans rfl
                  have hcz39_4 : wc.cell? ⟨gb161, 4, none⟩ = some (.string a0_4) := (blk_cell BK161.out 4).trans rfl
                  have hcz39_5 : wc.cell? ⟨gb161, 5, none⟩ = some (.int .i64 a0_5) := (blk_cell BK161.out 5).trans rfl
                  have hfz39_0 := blk_frozen BK161.out 0
                  have hfz39_1 := blk_frozen BK161.out 1
                  have hfz39_2 := blk_frozen BK161.out 2
                  have hfz39_3 := blk_frozen BK161.out 3
                  have hfz39_4 := blk_frozen BK161.out 4
                  have hfz39_5 := blk_frozen BK161.out 5
                  go_wp2
                  go_ret
                  exact ⟨by first | rfl | (simp [errW_none, errW_some] <;> rfl) | (simp [*, errW_none, errW_some] <;> rfl), by repeat (first | (with_reducible first | exact HB.out | apply below_alloc | apply pw_below_drewN | apply below_drew1 | refine below_set ?_ GE161.out) | exact HB.out)⟩
                · replace c38 := Bool.eq_false_iff.mpr c38
                  subst c38
                  have H1 : ((slices_Contains_string_string.f kj33 coverL a0_4).bind fun t167 => (if t167 = true then ((impl_in.f a0_5 1 200).bind fun t168 => (some t168)) else (some false))) = some r := by rw [if_neg (show ¬ (false = true) by decide)] at H; exact H
                  clear H
                  have H := H1
                  clear H1
                  replace H := Option.bind_eq_some_iff.mp H
                  obtain ⟨t167, A400, H⟩ := H
                  replace H : (if t167 = true then ((impl_in.f a0_5 1 200).bind fun t168 => (some t168)) else (some false)) = some r := H
                  have A40 := Aside0.mk A400
                  clear A400
                  by_cases c41 : t167 = true
                  · subst c41
                    have H1 : ((impl_in.f a0_5 1 200).bind fun t168 => (some t168)) = some r := by rw [if_pos rfl] at H; exact H
                    clear H
                    have H := H1
                    clear H1
                    replace H := Option.bind_eq_some_iff.mp H
                    obtain ⟨t168, A420, H⟩ := H
                    replace H : (some t168) = some r := H
                    have A42 := Aside0.mk A420
                    clear A420
                    obtain rfl := Option.some.inj H
                    have hg43 := HKg3.out
                    replace hg43 := (HB.out.cell (World.block_lt_of_cell? w _ hg43)).trans hg43
                    have hcz44_0 : wc.cell? ⟨gb161, 0, none⟩ = some (.int .i64 a0_0) := (blk_cell BK161.out 0).trans rfl
                    have hcz44_1 : wc.cell? ⟨gb161, 1, none⟩ = some (.int .i64 a0_1) := (blk_cell BK161.out 1).trans rfl
                    have hcz44_2 : wc.cell? ⟨gb161, 2, none⟩ = some (.int .i64 a0_2) := (blk_cell BK161.out 2).trans rfl
                    have hcz44_3 : wc.cell? ⟨gb161, 3, none⟩ = some (.string a0_3) := (blk_cell BK161.out 3).trans rfl
                    have hcz44_4 : wc.cell? ⟨gb161, 4, none⟩ = some (.string a0_4) := (blk_cell BK161.out 4).trans rfl
                    have hcz44_5 : wc.cell? ⟨gb161, 5, none⟩ = some (.int .i64 a0_5) := (blk_cell BK161.out 5).trans rfl
                    have hfz44_0 := blk_frozen BK161.out 0
                    have hfz44_1 := blk_frozen BK161.out 1
                    have hfz44_2 := blk_frozen BK161.out 2
                    have hfz44_3 := blk_frozen BK161.out 3
                    have hfz44_4 := blk_frozen BK161.out 4
                    have hfz44_5 := blk_frozen BK161.out 5
                    go_wp2_with (first | ((with_reducible refine gate_callee (f := 139) rfl ?_); refine goesL_ (some 61) rfl rfl Tryd.func139 (by kernel_rfl) rfl #[.slice Ag3 coverL.length cg3, .string a0_4] rfl (by (try simp only [List.map_toArray, List.map_cons, List.map_nil]); first | done | rfl | (simp only [List.length_drop, List.length_take]; rfl)) ?_; (with_reducible refine (slices_Contains_string_string.calls kj33 _ _ coverL a0_4 true _ ?side1 ?side2 A40.out).mono ?_); (case side1 => repeat (first | exact (Kd.C_below HRg3.out HB.out) | (with_reducible refine Kd.C_alloc ?_ _) | (with_reducible refine Kd.C_drewN ?_ _) | (with_reducible refine Kd.C_drew ?_))); (case side2 => exact HCg3.out); rintro e w' ⟨rfl, ⟨nd, rfl⟩⟩; refine ⟨_, rfl, ?_⟩) | (go_at_call 73; (with_reducible refine (impl_in.calls a0_5 1 200 t168 _ A42.out).mono ?_); rintro e w' ⟨rfl, ⟨nd, rfl⟩⟩))
                    go_ret
                    exact ⟨by first | rfl | (simp [errW_none, errW_some] <;> rfl) | (simp [*, errW_none, errW_some] <;> rfl), by repeat (first | (with_reducible first | exact HB.out | apply below_alloc | apply pw_below_drewN | apply below_drew1 | refine below_set ?_ GE161.out) | exact HB.out)⟩
                  · replace c41 := Bool.eq_false_iff.mpr c41
                    subst c41
                    have H1 : (some false) = some r := by rw [if_neg (show ¬ (false = true) by decide)] at H; exact H
                    clear H
                    have H := H1
                    clear H1
                    obtain rfl := Option.some.inj H
                    have hg45 := HKg3.out
                    replace hg45 := (HB.out.cell (World.block_lt_of_cell? w _ hg45)).trans hg45
                    have hcz46_0 : wc.cell? ⟨gb161, 0, none⟩ = some (.int .i64 a0_0) := (blk_cell BK161.out 0).trans rfl
                    have hcz46_1 : wc.cell? ⟨gb161, 1, none⟩ = some (.int .i64 a0_1) := (blk_cell BK161.out 1).trans rfl
                    have hcz46_2 : wc.cell? ⟨gb161, 2, none⟩ = some (.int .i64 a0_2) := (blk_cell BK161.out 2).trans rfl
                    have hcz46_3 : wc.cell? ⟨gb161, 3, none⟩ = some (.string a0_3) := (blk_cell BK161.out 3).trans rfl
                    have hcz46_4 : wc.cell? ⟨gb161, 4, none⟩ = some (.string a0_4) := (blk_cell BK161.out 4).trans rfl
                    have hcz46_5 : wc.cell? ⟨gb161, 5, none⟩ = some (.int .i64 a0_5) := (blk_cell BK161.out 5).trans rfl
                    have hfz46_0 := blk_frozen BK161.out 0
                    have hfz46_1 := blk_frozen BK161.out 1
                    have hfz46_2 := blk_frozen BK161.out 2
                    have hfz46_3 := blk_frozen BK161.out 3
                    have hfz46_4 := blk_frozen BK161.out 4
                    have hfz46_5 := blk_frozen BK161.out 5
                    go_wp2_with (first | ((with_reducible refine gate_callee (f := 139) rfl ?_); refine goesL_ (some 61) rfl rfl Tryd.func139 (by kernel_rfl) rfl #[.slice Ag3 coverL.length cg3, .string a0_4] rfl (by (try simp only [List.map_toArray, List.map_cons, List.map_nil]); first | done | rfl | (simp only [List.length_drop, List.length_take]; rfl)) ?_; (with_reducible refine (slices_Contains_string_string.calls kj33 _ _ coverL a0_4 false _ ?side1 ?side2 A40.out).mono ?_); (case side1 => repeat (first | exact (Kd.C_below HRg3.out HB.out) | (with_reducible refine Kd.C_alloc ?_ _) | (with_reducible refine Kd.C_drewN ?_ _) | (with_reducible refine Kd.C_drew ?_))); (case side2 => exact HCg3.out); rintro e w' ⟨rfl, ⟨nd, rfl⟩⟩; refine ⟨_, rfl, ?_⟩))
                    go_ret
                    exact ⟨by first | rfl | (simp [errW_none, errW_some] <;> rfl) | (simp [*, errW_none, errW_some] <;> rfl), by repeat (first | (with_reducible first | exact HB.out | apply below_alloc | apply pw_below_drewN | apply below_drew1 | refine below_set ?_ GE161.out) | exact HB.out)⟩

end Go.Proofs.YtmcmkdiefpepnaaDoor.XSK
