-- By xprint.py, a driver of ours round the kit's printer, out of the translation; Lean checks it.
import Derived.Test.YtmcmkdiefpepnaaDoorXRS0
import Derived.Test.YtmcmkdiefpepnaaDoorXRS5
namespace Go.Proofs.YtmcmkdiefpepnaaDoor.XRS
open Go.Proofs.YtmcmkdiefpepnaaDoor.Ext Go.Proofs.YtmcmkdiefpepnaaDoor.Sq
open Go.RowKit Go.Proofs.YtmcmkdiefpepnaaDoorW.PrintWords Go.Proofs.YtmcmkdiefpepnaaDoorW.PrintLast Go.Proofs.YtmcmkdiefpepnaaDoorW.PrintMore
attribute [local go_sem] max2_int min2_int max_two min_two max_three min_three max_four min_four   -- for this text's walks alone
set_option linter.unusedVariables false
set_option linter.unusedSimpArgs false

/-! ### spec_TimeOf: function 99 -/
mutual
def spec_TimeOf.l0 : Nat → Int → Int → Int → Int → Int → Int → Int → Option (Int × Bool)
 | 0, _, _, _, _, _, _, _ => none
 | k + 1, x4, x5, x151000, x151001, x151002, x151003, x151004 => if x5 < x151000 then (spec_TimeOf.l1 k x4 x5 1 x151000 x151001 x151002 x151003 x151004) else (spec_TimeOf.l2 k x4 1 x151000 x151001 x151002 x151003 x151004)
def spec_TimeOf.l1 : Nat → Int → Int → Int → Int → Int → Int → Int → Int → Option (Int × Bool)
 | 0, _, _, _, _, _, _, _, _ => none
 | k + 1, x4, x5, x6, x151000, x151001, x151002, x151003, x151004 => if x6 ≤ 12 then ((spec_l2Days.f x5 x6).bind fun t152 => (spec_TimeOf.l1 k (wrap64 (x4 + t152)) x5 (wrap64 (x6 + 1)) x151000 x151001 x151002 x151003 x151004)) else (spec_TimeOf.l0 k x4 (wrap64 (x5 + 1)) x151000 x151001 x151002 x151003 x151004)
def spec_TimeOf.l2 : Nat → Int → Int → Int → Int → Int → Int → Int → Option (Int × Bool)
 | 0, _, _, _, _, _, _, _ => none
 | k + 1, x4, x7, x151000, x151001, x151002, x151003, x151004 => if x7 < x151001 then ((spec_l2Days.f x151000 x7).bind fun t153 => (spec_TimeOf.l2 k (wrap64 (x4 + t153)) (wrap64 (x7 + 1)) x151000 x151001 x151002 x151003 x151004)) else (some (wrap64 ((wrap64 ((wrap64 ((wrap64 ((wrap64 ((wrap64 (x4 + x151002)) - 1)) * 24)) + x151003)) * 60)) + x151004), true))
end
def spec_TimeOf.f (k : Nat) (a0_0 : Int) (a0_1 : Int) (a0_2 : Int) (a0_3 : Int) (a0_4 : Int) : Option (Int × Bool) := (spec_l2Right.f a0_0 a0_1 a0_2 a0_3 a0_4).bind fun t151 => (if t151 = true then (spec_TimeOf.l0 k 0 2000 a0_0 a0_1 a0_2 a0_3 a0_4) else (some (0, false)))
theorem spec_TimeOf.mono_l : ∀ k, (∀ y0 y1 y2 y3 y4 y5 y6, LeO (spec_TimeOf.l0 k y0 y1 y2 y3 y4 y5 y6) (spec_TimeOf.l0 (k + 1) y0 y1 y2 y3 y4 y5 y6)) ∧ (∀ y0 y1 y2 y3 y4 y5 y6 y7, LeO (spec_TimeOf.l1 k y0 y1 y2 y3 y4 y5 y6 y7) (spec_TimeOf.l1 (k + 1) y0 y1 y2 y3 y4 y5 y6 y7)) ∧ (∀ y0 y1 y2 y3 y4 y5 y6, LeO (spec_TimeOf.l2 k y0 y1 y2 y3 y4 y5 y6) (spec_TimeOf.l2 (k + 1) y0 y1 y2 y3 y4 y5 y6))
 | 0 => ⟨fun _ _ _ _ _ _ _ r h => by simp [spec_TimeOf.l0] at h, fun _ _ _ _ _ _ _ _ r h => by simp [spec_TimeOf.l1] at h, fun _ _ _ _ _ _ _ r h => by simp [spec_TimeOf.l2] at h⟩
 | k + 1 => by
  obtain ⟨ih0, ih1, ih2⟩ := spec_TimeOf.mono_l k
  refine ⟨?_, ?_, ?_⟩
  ·intro y0 y1 y2 y3 y4 y5 y6
   unfold spec_TimeOf.l0
   repeat' first
   | (with_reducible exact ih0 _ _ _ _ _ _ _)
   | (with_reducible exact ih1 _ _ _ _ _ _ _ _)
   | (with_reducible exact ih2 _ _ _ _ _ _ _)
   | (with_reducible exact LeO.refl _)
   | (with_reducible exact LeO.none _)
   | (with_reducible refine LeO.ite ?_ ?_)
   | (with_reducible refine LeO.bind ?_ (fun _ => ?_))
   | exact ih0 _ _ _ _ _ _ _
   | exact ih1 _ _ _ _ _ _ _ _
   | exact ih2 _ _ _ _ _ _ _
   | exact LeO.none _
   | refine LeO.ite ?_ ?_
   | refine LeO.bind ?_ (fun _ => ?_)
  ·intro y0 y1 y2 y3 y4 y5 y6 y7
   unfold spec_TimeOf.l1
   repeat' first
   | (with_reducible exact ih0 _ _ _ _ _ _ _)
   | (with_reducible exact ih1 _ _ _ _ _ _ _ _)
   | (with_reducible exact ih2 _ _ _ _ _ _ _)
   | (with_reducible exact LeO.refl _)
   | (with_reducible exact LeO.none _)
   | (with_reducible refine LeO.ite ?_ ?_)
   | (with_reducible refine LeO.bind ?_ (fun _ => ?_))
   | exact ih0 _ _ _ _ _ _ _
   | exact ih1 _ _ _ _ _ _ _ _
   | exact ih2 _ _ _ _ _ _ _
   | exact LeO.none _
   | refine LeO.ite ?_ ?_
   | refine LeO.bind ?_ (fun _ => ?_)
  ·intro y0 y1 y2 y3 y4 y5 y6
   unfold spec_TimeOf.l2
   repeat' first
   | (with_reducible exact ih0 _ _ _ _ _ _ _)
   | (with_reducible exact ih1 _ _ _ _ _ _ _ _)
   | (with_reducible exact ih2 _ _ _ _ _ _ _)
   | (with_reducible exact LeO.refl _)
   | (with_reducible exact LeO.none _)
   | (with_reducible refine LeO.ite ?_ ?_)
   | (with_reducible refine LeO.bind ?_ (fun _ => ?_))
   | exact ih0 _ _ _ _ _ _ _
   | exact ih1 _ _ _ _ _ _ _ _
   | exact ih2 _ _ _ _ _ _ _
   | exact LeO.none _
   | refine LeO.ite ?_ ?_
   | refine LeO.bind ?_ (fun _ => ?_)
theorem spec_TimeOf.mono : ∀ a0 a1 a2 a3 a4 k, LeO (spec_TimeOf.f k a0 a1 a2 a3 a4) (spec_TimeOf.f (k + 1) a0 a1 a2 a3 a4) := by
 intro a0 a1 a2 a3 a4 k
 obtain ⟨ih0, ih1, ih2⟩ := spec_TimeOf.mono_l k
 unfold spec_TimeOf.f
 repeat' first
   | (with_reducible exact ih0 _ _ _ _ _ _ _)
   | (with_reducible exact ih1 _ _ _ _ _ _ _ _)
   | (with_reducible exact ih2 _ _ _ _ _ _ _)
   | (with_reducible exact LeO.refl _)
   | (with_reducible exact LeO.none _)
   | (with_reducible refine LeO.ite ?_ ?_)
   | (with_reducible refine LeO.bind ?_ (fun _ => ?_))
   | exact ih0 _ _ _ _ _ _ _
   | exact ih1 _ _ _ _ _ _ _ _
   | exact ih2 _ _ _ _ _ _ _
   | exact LeO.none _
   | refine LeO.ite ?_ ?_
   | refine LeO.bind ?_ (fun _ => ?_)
set_option maxHeartbeats 8000000 in
set_option maxRecDepth 100000 in
theorem spec_TimeOf.calls (k : Nat) (a0_0 : Int) (a0_1 : Int) (a0_2 : Int) (a0_3 : Int) (a0_4 : Int) (r1 : Int) (r2 : Bool) (w : World) (h : spec_TimeOf.f k a0_0 a0_1 a0_2 a0_3 a0_4 = some (r1, r2)) :
  Calls Tryd.prog 99 #[.agg #[.int .i64 a0_0, .int .i64 a0_1, .int .i64 a0_2, .int .i64 a0_3, .int .i64 a0_4]] w fun e w' => e = .returned (.tuple #[.int .i64 r1, .bool r2]) ∧ Below w.heap.size w w' := by
 have hu64 := Tryd.underlying64
 have HB := am (Below.refl w.heap.size w)
 have H : ((spec_l2Right.f a0_0 a0_1 a0_2 a0_3 a0_4).bind fun t151 => (if t151 = true then (spec_TimeOf.l0 k 0 2000 a0_0 a0_1 a0_2 a0_3 a0_4) else (some (0, false)))) = some (r1, r2) := h
 clear h
 replace H := Option.bind_eq_some_iff.mp H
 obtain ⟨t151, A20, H⟩ := H
 replace H : (if t151 = true then (spec_TimeOf.l0 k 0 2000 a0_0 a0_1 a0_2 a0_3 a0_4) else (some (0, false))) = some (r1, r2) := H
 have A2 := am A20
 clear A20
 by_cases c3 : t151 = true
 ·subst c3
  have H1 : (spec_TimeOf.l0 k 0 2000 a0_0 a0_1 a0_2 a0_3 a0_4) = some (r1, r2) := by rw [if_pos rfl] at H; exact H
  clear H
  have H := H1
  clear H1
  have H' := am H
  clear H
  go_enter Tryd.func99, Tryd.ntmps99
  go_wp2_with (first | ((with_reducible refine gate_dst (N := 1) rfl ?_); refine box_event ?hg (N := 1) ?hd (cs := #[.int .i64 a0_0, .int .i64 a0_1, .int .i64 a0_2, .int .i64 a0_3, .int .i64 a0_4]) (t := 64) ?hr ?_; (case hd => rfl); (case hg => rfl); (case hr => first | (go_simp; done) | (go_simp; rfl)); intro gb150 hg w4 hbox hb; have n0_ := am (below_step (bl HB) hb); have n1_ := am (hbox); have n2_ := am ((by rw [hg]; exact (below_size (bl HB)) : w.heap.size ≤ gb150)); have n3_ := am ((by rw [hg]; exact (below_size (bl HB)) : w.heap.size ≤ gb150)); clear HB; have HB := n0_; have BK150 := n1_; have GW150 := n2_; have GE150 := n3_; clear n0_ n1_ n2_ n3_; clear hb hbox hg; have hz5 := cells5 BK150) | ((with_reducible refine gate_callee (f := 148) rfl ?_); refine goesL_ (some 9) rfl rfl Tryd.func148 (by kernel_rfl) rfl #[.agg #[.int .i64 a0_0, .int .i64 a0_1, .int .i64 a0_2, .int .i64 a0_3, .int .i64 a0_4]] rfl (by (try simp only [List.map_toArray, List.map_cons, List.map_nil]); first | done | rfl | (simp only [List.length_drop, List.length_take]; rfl)) ?_; (with_reducible refine (spec_l2Right.calls a0_0 a0_1 a0_2 a0_3 a0_4 true _ A2.out).mono ?_); rintro e w6 ⟨rfl, hb⟩; refine ⟨_, rfl, ?_⟩; have n0_ := am (blk_below (pk BK150) hb); have n1_ := am (below_step (bl HB) hb); clear BK150; clear HB; have BK150 := n0_; have HB := n1_; clear n0_ n1_; (try clear hb); (try clear hb2); (try clear hk); (try clear hi)))
  go_loopg [4, 5] k (fun kq v4 v5 w' => ∃ (x4_1 : Int) (x5_1 : Int), v4 = .int .i64 x4_1 ∧ v5 = .int .i64 x5_1 ∧ Aside0 (spec_TimeOf.l0 kq x4_1 x5_1 a0_0 a0_1 a0_2 a0_3 a0_4 = some (r1, r2)) ∧ Aside0 (kq ≤ k) ∧ Aside0 (w'.heap[gb150]? = some (.cells #[.int .i64 a0_0, .int .i64 a0_1, .int .i64 a0_2, .int .i64 a0_3, .int .i64 a0_4] 64 (0, 0))) ∧ Aside0 (Below w.heap.size w w'))
  case atStart => exact ⟨(0), (2000), (by first | rfl | (simp; done) | (simp [*]; done)), (by first | rfl | (simp; done) | (simp [*]; done)), H', ⟨Nat.le_refl _⟩, ⟨pk BK150⟩, ⟨bl HB⟩⟩
  case round =>
   clear H'
   try clear c1
   try clear p2
   try clear c3
   try clear hz5
   obtain ⟨x4_1, x5_1, rfl, rfl, HA, HK1, BK150, HB⟩ := hrel
   cases gk with
   | zero => exact absurd HA.out (by simp [spec_TimeOf.l0])
   | succ k1 =>
    have H := HA.out
    clear HA
    simp only [spec_TimeOf.l0] at H
    by_cases c7 : x5_1 < a0_0
    ·rw [if_pos c7] at H
     have c7b0 : decide (x5_1 < a0_0) = true := decide_eq_true c7
     clear c7
     have H' := am H
     clear H
     have hz8 := cells5 BK150
     go_wp2
     go_loopg [4, 6] k1 (fun kq v4 v6 w' => ∃ (x4_2 : Int) (x6_2 : Int), v4 = .int .i64 x4_2 ∧ v6 = .int .i64 x6_2 ∧ Aside0 (spec_TimeOf.l1 kq x4_2 x5_1 x6_2 a0_0 a0_1 a0_2 a0_3 a0_4 = some (r1, r2)) ∧ Aside0 (kq ≤ k1) ∧ Aside0 (w'.heap[gb150]? = some (.cells #[.int .i64 a0_0, .int .i64 a0_1, .int .i64 a0_2, .int .i64 a0_3, .int .i64 a0_4] 64 (0, 0))) ∧ Aside0 (Below w.heap.size w w'))
     case atStart => exact ⟨(x4_1), (1), (by first | rfl | (simp; done) | (simp [*]; done)), (by first | rfl | (simp; done) | (simp [*]; done)), H', ⟨Nat.le_refl _⟩, ⟨pk BK150⟩, ⟨bl HB⟩⟩
     case round =>
      clear H'
      try clear c1
      try clear p2
      try clear c3
      try clear c7
      try clear c7b0
      try clear hz5
      try clear hz8
      try clear p2
      obtain ⟨x4_2, x6_2, rfl, rfl, HA, HK2, BK150, HB⟩ := hrel
      cases gk with
      | zero => exact absurd HA.out (by simp [spec_TimeOf.l1])
      | succ k2 =>
       have H := HA.out
       clear HA
       simp only [spec_TimeOf.l1] at H
       by_cases c9 : x6_2 ≤ 12
       ·rw [if_pos c9] at H
        have c9b0 : decide (x6_2 ≤ 12) = true := decide_eq_true c9
        clear c9
        replace H := Option.bind_eq_some_iff.mp H
        obtain ⟨t152, A100, H⟩ := H
        replace H : (spec_TimeOf.l1 k2 (wrap64 (x4_2 + t152)) x5_1 (wrap64 (x6_2 + 1)) a0_0 a0_1 a0_2 a0_3 a0_4) = some (r1, r2) := H
        have A10 := am A100
        clear A100
        have H' := am H
        clear H
        go_wp2_with (first | ((with_reducible refine gate_callee (f := 91) rfl ?_); refine goesL_ (some 24) rfl rfl Tryd.func91 (by kernel_rfl) rfl #[.int .i64 x5_1, .int .i64 x6_2] rfl (by (try simp only [List.map_toArray, List.map_cons, List.map_nil]); first | done | rfl | (simp only [List.length_drop, List.length_take]; rfl)) ?_; (with_reducible refine (spec_l2Days.calls x5_1 x6_2 t152 _ A10.out).mono ?_); rintro e w' ⟨rfl, ⟨nd, rfl⟩⟩; refine ⟨_, rfl, ?_⟩))
        go_roundg k2
        case measure => have := HK1.out; have := HK2.out; omega
        case rel => exact ⟨(wrap64 (x4_2 + t152)), (wrap64 (x6_2 + 1)), (by first | rfl | (simp; done) | (simp [*]; done)), (by first | rfl | (simp; done) | (simp [*]; done)), H', ⟨by have := HK1.out; have := HK2.out; omega⟩, ⟨pk BK150⟩, ⟨bl HB⟩⟩
       ·rw [if_neg c9] at H
        have c9b0 : decide (x6_2 ≤ 12) = false := decide_eq_false c9
        clear c9
        have H' := am H
        clear H
        go_wp2
        go_roundg k2
        case measure => have := HK1.out; have := HK2.out; omega
        case rel => exact ⟨(x4_2), (wrap64 (x5_1 + 1)), (by first | rfl | (simp; done) | (simp [*]; done)), (by first | rfl | (simp; done) | (simp [*]; done)), H', ⟨by have := HK1.out; have := HK2.out; omega⟩, ⟨pk BK150⟩, ⟨bl HB⟩⟩
    ·rw [if_neg c7] at H
     have c7b0 : decide (x5_1 < a0_0) = false := decide_eq_false c7
     clear c7
     have H' := am H
     clear H
     have hz11 := cells5 BK150
     go_wp2
     go_loopg [4, 7] k1 (fun kq v4 v7 w' => ∃ (x4_2 : Int) (x7_2 : Int), v4 = .int .i64 x4_2 ∧ v7 = .int .i64 x7_2 ∧ Aside0 (spec_TimeOf.l2 kq x4_2 x7_2 a0_0 a0_1 a0_2 a0_3 a0_4 = some (r1, r2)) ∧ Aside0 (kq ≤ k1) ∧ Aside0 (w'.heap[gb150]? = some (.cells #[.int .i64 a0_0, .int .i64 a0_1, .int .i64 a0_2, .int .i64 a0_3, .int .i64 a0_4] 64 (0, 0))) ∧ Aside0 (Below w.heap.size w w'))
     case atStart => exact ⟨(x4_1), (1), (by first | rfl | (simp; done) | (simp [*]; done)), (by first | rfl | (simp; done) | (simp [*]; done)), H', ⟨Nat.le_refl _⟩, ⟨pk BK150⟩, ⟨bl HB⟩⟩
     case round =>
      clear H'
      try clear c1
      try clear p2
      try clear c3
      try clear p6
      try clear c7
      try clear c7b0
      try clear c9
      try clear c9b0
      try clear hz11
      try clear hz5
      try clear hz8
      try clear p2
      obtain ⟨x4_2, x7_2, rfl, rfl, HA, HK2, BK150, HB⟩ := hrel
      cases gk with
      | zero => exact absurd HA.out (by simp [spec_TimeOf.l2])
      | succ k2 =>
       have H := HA.out
       clear HA
       simp only [spec_TimeOf.l2] at H
       by_cases c12 : x7_2 < a0_1
       ·rw [if_pos c12] at H
        have c12b0 : decide (x7_2 < a0_1) = true := decide_eq_true c12
        clear c12
        replace H := Option.bind_eq_some_iff.mp H
        obtain ⟨t153, A130, H⟩ := H
        replace H : (spec_TimeOf.l2 k2 (wrap64 (x4_2 + t153)) (wrap64 (x7_2 + 1)) a0_0 a0_1 a0_2 a0_3 a0_4) = some (r1, r2) := H
        have A13 := am A130
        clear A130
        have H' := am H
        clear H
        have hz14 := cells5 BK150
        go_wp2_with (first | ((with_reducible refine gate_callee (f := 91) rfl ?_); refine goesL_ (some 36) rfl rfl Tryd.func91 (by kernel_rfl) rfl #[.int .i64 a0_0, .int .i64 x7_2] rfl (by (try simp only [List.map_toArray, List.map_cons, List.map_nil]); first | done | rfl | (simp only [List.length_drop, List.length_take]; rfl)) ?_; (with_reducible refine (spec_l2Days.calls a0_0 x7_2 t153 _ A13.out).mono ?_); rintro e w' ⟨rfl, ⟨nd, rfl⟩⟩; refine ⟨_, rfl, ?_⟩))
        go_roundg k2
        case measure => have := HK1.out; have := HK2.out; omega
        case rel => exact ⟨(wrap64 (x4_2 + t153)), (wrap64 (x7_2 + 1)), (by first | rfl | (simp; done) | (simp [*]; done)), (by first | rfl | (simp; done) | (simp [*]; done)), H', ⟨by have := HK1.out; have := HK2.out; omega⟩, ⟨pk BK150⟩, ⟨bl HB⟩⟩
       ·rw [if_neg c12] at H
        have c12b0 : decide (x7_2 < a0_1) = false := decide_eq_false c12
        clear c12
        simp only [Option.some.injEq, Prod.mk.injEq] at H
        obtain ⟨rfl, rfl⟩ := H
        have hz15 := cells5 BK150
        go_wp2
        go_ret2
        exact ⟨by first | rfl | (simp [errW_none, errW_some] <;> rfl) | (simp [*, errW_none, errW_some] <;> rfl), bl HB⟩
 ·replace c3 := Bool.eq_false_iff.mpr c3
  subst c3
  have H1 : (some (0, false)) = some (r1, r2) := by rw [if_neg (show ¬ (false = true) by decide)] at H; exact H
  clear H
  have H := H1
  clear H1
  simp only [Option.some.injEq, Prod.mk.injEq] at H
  obtain ⟨rfl, rfl⟩ := H
  go_enter Tryd.func99, Tryd.ntmps99
  go_wp2_with (first | ((with_reducible refine gate_dst (N := 1) rfl ?_); refine box_event ?hg (N := 1) ?hd (cs := #[.int .i64 a0_0, .int .i64 a0_1, .int .i64 a0_2, .int .i64 a0_3, .int .i64 a0_4]) (t := 64) ?hr ?_; (case hd => rfl); (case hg => rfl); (case hr => first | (go_simp; done) | (go_simp; rfl)); intro gb150 hg w16 hbox hb; have n0_ := am (below_step (bl HB) hb); have n1_ := am (hbox); have n2_ := am ((by rw [hg]; exact (below_size (bl HB)) : w.heap.size ≤ gb150)); have n3_ := am ((by rw [hg]; exact (below_size (bl HB)) : w.heap.size ≤ gb150)); clear HB; have HB := n0_; have BK150 := n1_; have GW150 := n2_; have GE150 := n3_; clear n0_ n1_ n2_ n3_; clear hb hbox hg; have hz17 := cells5 BK150) | ((with_reducible refine gate_callee (f := 148) rfl ?_); refine goesL_ (some 9) rfl rfl Tryd.func148 (by kernel_rfl) rfl #[.agg #[.int .i64 a0_0, .int .i64 a0_1, .int .i64 a0_2, .int .i64 a0_3, .int .i64 a0_4]] rfl (by (try simp only [List.map_toArray, List.map_cons, List.map_nil]); first | done | rfl | (simp only [List.length_drop, List.length_take]; rfl)) ?_; (with_reducible refine (spec_l2Right.calls a0_0 a0_1 a0_2 a0_3 a0_4 false _ A2.out).mono ?_); rintro e w18 ⟨rfl, hb⟩; refine ⟨_, rfl, ?_⟩; have n0_ := am (blk_below (pk BK150) hb); have n1_ := am (below_step (bl HB) hb); clear BK150; clear HB; have BK150 := n0_; have HB := n1_; clear n0_ n1_; (try clear hb); (try clear hb2); (try clear hk); (try clear hi)))
  go_ret2
  exact ⟨by first | rfl | (simp [errW_none, errW_some] <;> rfl) | (simp [*, errW_none, errW_some] <;> rfl), bl HB⟩

/-! ### spec_l2Time: function 90 -/
def spec_l2Time.f (a0 : Int) : Option (Bool) := if a0 ≥ 0 then (some (decide (a0 ≤ 52596000))) else (some false)
set_option maxHeartbeats 8000000 in
set_option maxRecDepth 100000 in
theorem spec_l2Time.calls (a0 : Int) (r : Bool) (w : World) (h : spec_l2Time.f a0 = some r) :
  Calls Tryd.prog 90 #[.int .i64 a0] w fun e w' => e = .returned (.bool r) ∧ Drawn0 w w' := by
 have H : (if a0 ≥ 0 then (some (decide (a0 ≤ 52596000))) else (some false)) = some r := h
 clear h
 by_cases c2 : a0 ≥ 0
 ·rw [if_pos c2] at H
  have c2b0 : decide (0 ≤ a0) = true := decide_eq_true c2
  clear c2
  obtain rfl := Option.some.inj H
  go_enter Tryd.func90, Tryd.ntmps90
  go_wp2
  go_ret
  exact ⟨by first | rfl | (simp; done) | (simp [*]; done), by repeat (first | exact Drawn0.refl _ | apply Drawn0.step)⟩
 ·rw [if_neg c2] at H
  have c2b0 : decide (0 ≤ a0) = false := decide_eq_false c2
  clear c2
  obtain rfl := Option.some.inj H
  go_enter Tryd.func90, Tryd.ntmps90
  go_wp2
  go_ret
  exact ⟨by first | rfl | (simp; done) | (simp [*]; done), by repeat (first | exact Drawn0.refl _ | apply Drawn0.step)⟩

/-! ### spec_DateOf: function 36 -/
def spec_DateOf.l0 : Nat → Int → Int → Int → Int → Int → Int → Option (Int × Int × Int × Int × Int × Bool)
 | 0, _, _, _, _, _, _ => none
 | k + 1, x4, x157000, x157001, x157002, x157003, x157004 => (spec_l2Days.f x157000 x157001).bind fun t157 => (if x4 ≥ t157 then ((spec_l2Days.f x157000 x157001).bind fun t158 => (if (wrap64 (x157001 + 1)) = 13 then (spec_DateOf.l0 k (wrap64 (x4 - t158)) (wrap64 (x157000 + 1)) 1 x157002 x157003 x157004) else (spec_DateOf.l0 k (wrap64 (x4 - t158)) x157000 (wrap64 (x157001 + 1)) x157002 x157003 x157004))) else (some (x157000, x157001, wrap64 (x4 + 1), x157003, x157004, true)))
def spec_DateOf.f (k : Nat) (a0 : Int) : Option (Int × Int × Int × Int × Int × Bool) := (spec_l2Time.f a0).bind fun t155 => (if t155 = true then (spec_DateOf.l0 k (wrap64 (Int.tdiv a0 1440)) 2000 1 1 (Int.tmod (wrap64 (Int.tdiv a0 60)) 24) (Int.tmod a0 60)) else (some (0, 0, 0, 0, 0, false)))
theorem spec_DateOf.mono_l : ∀ k, (∀ y0 y1 y2 y3 y4 y5, LeO (spec_DateOf.l0 k y0 y1 y2 y3 y4 y5) (spec_DateOf.l0 (k + 1) y0 y1 y2 y3 y4 y5))
 | 0 => fun _ _ _ _ _ _ r h => by simp [spec_DateOf.l0] at h
 | k + 1 => by
  have ih0 := spec_DateOf.mono_l k
  ·intro y0 y1 y2 y3 y4 y5
   unfold spec_DateOf.l0
   repeat' first
   | (with_reducible exact ih0 _ _ _ _ _ _)
   | (with_reducible exact LeO.refl _)
   | (with_reducible exact LeO.none _)
   | (with_reducible refine LeO.ite ?_ ?_)
   | (with_reducible refine LeO.bind ?_ (fun _ => ?_))
   | exact ih0 _ _ _ _ _ _
   | exact LeO.none _
   | refine LeO.ite ?_ ?_
   | refine LeO.bind ?_ (fun _ => ?_)
theorem spec_DateOf.mono : ∀ a0 k, LeO (spec_DateOf.f k a0) (spec_DateOf.f (k + 1) a0) := by
 intro a0 k
 have ih0 := spec_DateOf.mono_l k
 unfold spec_DateOf.f
 repeat' first
   | (with_reducible exact ih0 _ _ _ _ _ _)
   | (with_reducible exact LeO.refl _)
   | (with_reducible exact LeO.none _)
   | (with_reducible refine LeO.ite ?_ ?_)
   | (with_reducible refine LeO.bind ?_ (fun _ => ?_))
   | exact ih0 _ _ _ _ _ _
   | exact LeO.none _
   | refine LeO.ite ?_ ?_
   | refine LeO.bind ?_ (fun _ => ?_)
set_option maxHeartbeats 8000000 in
set_option maxRecDepth 100000 in
theorem spec_DateOf.calls (k : Nat) (a0 : Int) (r1 : Int) (r2 : Int) (r3 : Int) (r4 : Int) (r5 : Int) (r6 : Bool) (w : World) (h : spec_DateOf.f k a0 = some (r1, r2, r3, r4, r5, r6)) :
  Calls Tryd.prog 36 #[.int .i64 a0] w fun e w' => e = .returned (.tuple #[.agg #[.int .i64 r1, .int .i64 r2, .int .i64 r3, .int .i64 r4, .int .i64 r5], .bool r6]) ∧ Below w.heap.size w w' := by
 have hu64 := Tryd.underlying64
 have HB := am (Below.refl w.heap.size w)
 have H : ((spec_l2Time.f a0).bind fun t155 => (if t155 = true then (spec_DateOf.l0 k (wrap64 (Int.tdiv a0 1440)) 2000 1 1 (Int.tmod (wrap64 (Int.tdiv a0 60)) 24) (Int.tmod a0 60)) else (some (0, 0, 0, 0, 0, false)))) = some (r1, r2, r3, r4, r5, r6) := h
 clear h
 replace H := Option.bind_eq_some_iff.mp H
 obtain ⟨t155, A20, H⟩ := H
 replace H : (if t155 = true then (spec_DateOf.l0 k (wrap64 (Int.tdiv a0 1440)) 2000 1 1 (Int.tmod (wrap64 (Int.tdiv a0 60)) 24) (Int.tmod a0 60)) else (some (0, 0, 0, 0, 0, false))) = some (r1, r2, r3, r4, r5, r6) := H
 have A2 := am A20
 clear A20
 by_cases c3 : t155 = true
 ·subst c3
  have H1 : (spec_DateOf.l0 k (wrap64 (Int.tdiv a0 1440)) 2000 1 1 (Int.tmod (wrap64 (Int.tdiv a0 60)) 24) (Int.tmod a0 60)) = some (r1, r2, r3, r4, r5, r6) := by rw [if_pos rfl] at H; exact H
  clear H
  have H := H1
  clear H1
  have H' := am H
  clear H
  go_enter Tryd.func36, Tryd.ntmps36
  go_wp2_with (first | ((with_reducible refine gate_dst (N := 2) rfl ?_); refine box_event ?hg (N := 2) ?hd (cs := #[.int .i64 0, .int .i64 0, .int .i64 0, .int .i64 0, .int .i64 0]) (t := 64) ?hr ?_; (case hd => rfl); (case hg => rfl); (case hr => first | (go_simp; done) | (go_simp; rfl)); intro gb154 hg w4 hbox hb; have n0_ := am (below_step (bl HB) hb); have n1_ := am (hbox); have n2_ := am ((by rw [hg]; exact (below_size (bl HB)) : w.heap.size ≤ gb154)); have n3_ := am ((by rw [hg]; exact (below_size (bl HB)) : w.heap.size ≤ gb154)); clear HB; have HB := n0_; have BK154 := n1_; have GW154 := n2_; have GE154 := n3_; clear n0_ n1_ n2_ n3_; clear hb hbox hg) | ((with_reducible refine gate_callee (f := 90) rfl ?_); refine goesL_ (some 7) rfl rfl Tryd.func90 (by kernel_rfl) rfl #[.int .i64 a0] rfl (by (try simp only [List.map_toArray, List.map_cons, List.map_nil]); first | done | rfl | (simp only [List.length_drop, List.length_take]; rfl)) ?_; (with_reducible refine (spec_l2Time.calls a0 true _ A2.out).mono ?_); rintro e w' ⟨rfl, ⟨nd, rfl⟩⟩; refine ⟨_, rfl, ?_⟩; (repeat (rw [drewN_self w4]; generalize hq_ : World.drewN w4 _ = w4; have n0_ : Aside0 (w4.heap[gb154]? = some (.cells #[.int .i64 0, .int .i64 0, .int .i64 0, .int .i64 0, .int .i64 0] 64 (0, 0))) := ⟨by rw [← hq_]; exact (pk BK154)⟩; have n1_ : Aside0 (Below w.heap.size w w4) := ⟨by rw [← hq_]; exact (bl HB)⟩; clear BK154 HB hq_; have BK154 := n0_; have HB := n1_; clear n0_ n1_; have hy154 := cells5 BK154))) | ((with_reducible refine gate_dst (N := 5) rfl ?_); refine box_event ?hg (N := 5) ?hd (cs := #[.int .i64 0, .int .i64 0, .int .i64 0, .int .i64 0, .int .i64 0]) (t := 64) ?hr ?_; (case hd => rfl); (case hg => rfl); (case hr => first | (go_simp; done) | (go_simp; rfl)); intro gb156 hg w5 hbox hb; have n0_ := am (blk_below (pk BK154) hb); have n1_ := am (below_step (bl HB) hb); have n2_ := am (hbox); have n3_ := am ((by rw [hg]; exact (below_size (bl HB)) : w.heap.size ≤ gb156)); have n4_ := am ((by rw [hg]; exact (below_size (bl HB)) : w.heap.size ≤ gb156)); have n5_ := am ((by rw [hg]; exact Nat.ne_of_lt (blk_lt (pk BK154)) : gb154 ≠ gb156)); have n6_ := am ((by rw [hg]; exact Nat.ne_of_gt (blk_lt (pk BK154)) : gb156 ≠ gb154)); clear BK154; clear HB; have BK154 := n0_; have HB := n1_; have BK156 := n2_; have GW156 := n3_; have GE156 := n4_; have NB154_156 := n5_; have NB156_154 := n6_; clear n0_ n1_ n2_ n3_ n4_ n5_ n6_; clear hb hbox hg; have hnb6 := NB156_154.out; have hnc6 := NB154_156.out; have hz7 := cells5 BK156))
  go_loopg [4] k (fun kq v4 w' => ∃ (x4_1 : Int) (x157000_1 : Int) (x157001_1 : Int), v4 = .int .i64 x4_1 ∧ Aside0 (spec_DateOf.l0 kq x4_1 x157000_1 x157001_1 1 (Int.tmod (wrap64 (Int.tdiv a0 60)) 24) (Int.tmod a0 60) = some (r1, r2, r3, r4, r5, r6)) ∧ Aside0 (kq ≤ k) ∧ Aside0 (w'.heap[gb154]? = some (.cells #[.int .i64 0, .int .i64 0, .int .i64 0, .int .i64 0, .int .i64 0] 64 (0, 0))) ∧ Aside0 (w'.heap[gb156]? = some (.cells #[.int .i64 x157000_1, .int .i64 x157001_1, .int .i64 1, .int .i64 (Int.tmod (wrap64 (Int.tdiv a0 60)) 24), .int .i64 (Int.tmod a0 60)] 64 (0, 0))) ∧ Aside0 (Below w.heap.size w w'))
  case atStart => exact ⟨(wrap64 (Int.tdiv a0 1440)), (2000), (1), (by first | rfl | (simp; done) | (simp [*]; done)), H', ⟨Nat.le_refl _⟩, ⟨by (with_reducible repeat (first | refine blk_drewN ?_ _ | refine blk_drew ?_ | refine blk_alloc ?_ _)); refine blk_far ?_ NB154_156.out _; (with_reducible repeat (first | refine blk_drewN ?_ _ | refine blk_drew ?_ | refine blk_alloc ?_ _)); refine blk_far ?_ NB154_156.out _; (with_reducible repeat (first | refine blk_drewN ?_ _ | refine blk_drew ?_ | refine blk_alloc ?_ _)); refine blk_far ?_ NB154_156.out _; (with_reducible repeat (first | refine blk_drewN ?_ _ | refine blk_drew ?_ | refine blk_alloc ?_ _)); refine blk_far ?_ NB154_156.out _; (with_reducible repeat (first | refine blk_drewN ?_ _ | refine blk_drew ?_ | refine blk_alloc ?_ _)); refine blk_far ?_ NB154_156.out _; (with_reducible repeat (first | refine blk_drewN ?_ _ | refine blk_drew ?_ | refine blk_alloc ?_ _)); exact BK154.out⟩, ⟨by (with_reducible repeat (first | refine blk_drewN ?_ _ | refine blk_drew ?_ | refine blk_alloc ?_ _)); refine blk_put (cs := #[.int .i64 2000, .int .i64 1, .int .i64 1, .int .i64 (Int.tmod (wrap64 (Int.tdiv a0 60)) 24), .int .i64 0]) ?_ 4 _ (by first | rfl | simp [bne]); (with_reducible repeat (first | refine blk_drewN ?_ _ | refine blk_drew ?_ | refine blk_alloc ?_ _)); refine blk_put (cs := #[.int .i64 2000, .int .i64 1, .int .i64 1, .int .i64 0, .int .i64 0]) ?_ 3 _ (by first | rfl | simp [bne]); (with_reducible repeat (first | refine blk_drewN ?_ _ | refine blk_drew ?_ | refine blk_alloc ?_ _)); refine blk_put (cs := #[.int .i64 2000, .int .i64 1, .int .i64 0, .int .i64 0, .int .i64 0]) ?_ 2 _ (by first | rfl | simp [bne]); (with_reducible repeat (first | refine blk_drewN ?_ _ | refine blk_drew ?_ | refine blk_alloc ?_ _)); refine blk_put (cs := #[.int .i64 2000, .int .i64 0, .int .i64 0, .int .i64 0, .int .i64 0]) ?_ 1 _ (by first | rfl | simp [bne]); (with_reducible repeat (first | refine blk_drewN ?_ _ | refine blk_drew ?_ | refine blk_alloc ?_ _)); refine blk_put (cs := #[.int .i64 0, .int .i64 0, .int .i64 0, .int .i64 0, .int .i64 0]) ?_ 0 _ (by first | rfl | simp [bne]); (with_reducible repeat (first | refine blk_drewN ?_ _ | refine blk_drew ?_ | refine blk_alloc ?_ _)); exact BK156.out⟩, ⟨bl HB⟩⟩
  case round =>
   clear H'
   try clear p2
   try clear c3
   try clear c6
   try clear p6
   try clear hz7
   obtain ⟨x4_1, x157000_1, x157001_1, rfl, HA, HK1, BK154, BK156, HB⟩ := hrel
   cases gk with
   | zero => exact absurd HA.out (by simp [spec_DateOf.l0])
   | succ k1 =>
    have H := HA.out
    clear HA
    simp only [spec_DateOf.l0] at H
    replace H := Option.bind_eq_some_iff.mp H
    obtain ⟨t157, A80, H⟩ := H
    replace H : (if x4_1 ≥ t157 then ((spec_l2Days.f x157000_1 x157001_1).bind fun t158 => (if (wrap64 (x157001_1 + 1)) = 13 then (spec_DateOf.l0 k1 (wrap64 (x4_1 - t158)) (wrap64 (x157000_1 + 1)) 1 1 (Int.tmod (wrap64 (Int.tdiv a0 60)) 24) (Int.tmod a0 60)) else (spec_DateOf.l0 k1 (wrap64 (x4_1 - t158)) x157000_1 (wrap64 (x157001_1 + 1)) 1 (Int.tmod (wrap64 (Int.tdiv a0 60)) 24) (Int.tmod a0 60)))) else (some (x157000_1, x157001_1, wrap64 (x4_1 + 1), (Int.tmod (wrap64 (Int.tdiv a0 60)) 24), (Int.tmod a0 60), true))) = some (r1, r2, r3, r4, r5, r6) := H
    have A8 := am A80
    clear A80
    by_cases c9 : x4_1 ≥ t157
    ·rw [if_pos c9] at H
     have c9b0 : decide (t157 ≤ x4_1) = true := decide_eq_true c9
     clear c9
     replace H := Option.bind_eq_some_iff.mp H
     obtain ⟨t158, A100, H⟩ := H
     replace H : (if (wrap64 (x157001_1 + 1)) = 13 then (spec_DateOf.l0 k1 (wrap64 (x4_1 - t158)) (wrap64 (x157000_1 + 1)) 1 1 (Int.tmod (wrap64 (Int.tdiv a0 60)) 24) (Int.tmod a0 60)) else (spec_DateOf.l0 k1 (wrap64 (x4_1 - t158)) x157000_1 (wrap64 (x157001_1 + 1)) 1 (Int.tmod (wrap64 (Int.tdiv a0 60)) 24) (Int.tmod a0 60))) = some (r1, r2, r3, r4, r5, r6) := H
     have A10 := am A100
     clear A100
     by_cases c11 : (wrap64 (x157001_1 + 1)) = 13
     ·rw [if_pos c11] at H
      have c11b0 : ((wrap64 (x157001_1 + 1)) == 13) = true := beq_iff_eq.mpr c11
      have c11b1 : ((wrap64 (x157001_1 + 1)) != 13) = false := bne_eq_false_iff_eq.mpr c11
      clear c11
      have H' := am H
      clear H
      have hnb12 := NB156_154.out
      have hnc12 := NB154_156.out
      have hz13 := cells5 BK156
      go_wp2_with (first | ((with_reducible refine gate_callee (f := 91) rfl ?_); refine goesL_ (some 23) rfl rfl Tryd.func91 (by kernel_rfl) rfl #[.int .i64 x157000_1, .int .i64 x157001_1] rfl (by (try simp only [List.map_toArray, List.map_cons, List.map_nil]); first | done | rfl | (simp only [List.length_drop, List.length_take]; rfl)) ?_; (with_reducible refine (spec_l2Days.calls x157000_1 x157001_1 t157 _ A8.out).mono ?_); rintro e w' ⟨rfl, ⟨nd, rfl⟩⟩; refine ⟨_, rfl, ?_⟩; (repeat (rw [drewN_self wr]; generalize hq_ : World.drewN wr _ = wr; have n0_ : Aside0 (wr.heap[gb154]? = some (.cells #[.int .i64 0, .int .i64 0, .int .i64 0, .int .i64 0, .int .i64 0] 64 (0, 0))) := ⟨by rw [← hq_]; exact (pk BK154)⟩; have n1_ : Aside0 (wr.heap[gb156]? = some (.cells #[.int .i64 x157000_1, .int .i64 x157001_1, .int .i64 1, .int .i64 (Int.tmod (wrap64 (Int.tdiv a0 60)) 24), .int .i64 (Int.tmod a0 60)] 64 (0, 0))) := ⟨by rw [← hq_]; exact (pk BK156)⟩; have n2_ : Aside0 (Below w.heap.size w wr) := ⟨by rw [← hq_]; exact (bl HB)⟩; clear BK154 BK156 HB hq_; have BK154 := n0_; have BK156 := n1_; have HB := n2_; clear n0_ n1_ n2_; have hy154 := cells5 BK154; have hy156 := cells5 BK156))) | ((with_reducible refine gate_callee (f := 91) rfl ?_); refine goesL_ (some 30) rfl rfl Tryd.func91 (by kernel_rfl) rfl #[.int .i64 x157000_1, .int .i64 x157001_1] rfl (by (try simp only [List.map_toArray, List.map_cons, List.map_nil]); first | done | rfl | (simp only [List.length_drop, List.length_take]; rfl)) ?_; (with_reducible refine (spec_l2Days.calls x157000_1 x157001_1 t158 _ A10.out).mono ?_); rintro e w' ⟨rfl, ⟨nd, rfl⟩⟩; refine ⟨_, rfl, ?_⟩; (repeat (rw [drewN_self wr]; generalize hq_ : World.drewN wr _ = wr; have n0_ : Aside0 (wr.heap[gb154]? = some (.cells #[.int .i64 0, .int .i64 0, .int .i64 0, .int .i64 0, .int .i64 0] 64 (0, 0))) := ⟨by rw [← hq_]; exact (pk BK154)⟩; have n1_ : Aside0 (wr.heap[gb156]? = some (.cells #[.int .i64 x157000_1, .int .i64 x157001_1, .int .i64 1, .int .i64 (Int.tmod (wrap64 (Int.tdiv a0 60)) 24), .int .i64 (Int.tmod a0 60)] 64 (0, 0))) := ⟨by rw [← hq_]; exact (pk BK156)⟩; have n2_ : Aside0 (Below w.heap.size w wr) := ⟨by rw [← hq_]; exact (bl HB)⟩; clear BK154 BK156 HB hq_; have BK154 := n0_; have BK156 := n1_; have HB := n2_; clear n0_ n1_ n2_; have hy154 := cells5 BK154; have hy156 := cells5 BK156))))
      go_roundg k1
      case measure => have := HK1.out; omega
      case rel => exact ⟨(wrap64 (x4_1 - t158)), (wrap64 (x157000_1 + 1)), (1), (by first | rfl | (simp; done) | (simp [*]; done)), H', ⟨by have := HK1.out; omega⟩, ⟨by (with_reducible repeat (first | refine blk_drewN ?_ _ | refine blk_drew ?_ | refine blk_alloc ?_ _)); refine blk_far ?_ NB154_156.out _; (with_reducible repeat (first | refine blk_drewN ?_ _ | refine blk_drew ?_ | refine blk_alloc ?_ _)); refine blk_far ?_ NB154_156.out _; (with_reducible repeat (first | refine blk_drewN ?_ _ | refine blk_drew ?_ | refine blk_alloc ?_ _)); refine blk_far ?_ NB154_156.out _; (with_reducible repeat (first | refine blk_drewN ?_ _ | refine blk_drew ?_ | refine blk_alloc ?_ _)); exact BK154.out⟩, ⟨by (with_reducible repeat (first | refine blk_drewN ?_ _ | refine blk_drew ?_ | refine blk_alloc ?_ _)); refine blk_put (cs := #[.int .i64 x157000_1, .int .i64 1, .int .i64 1, .int .i64 (Int.tmod (wrap64 (Int.tdiv a0 60)) 24), .int .i64 (Int.tmod a0 60)]) ?_ 0 _ (by first | rfl | simp [bne]); (with_reducible repeat (first | refine blk_drewN ?_ _ | refine blk_drew ?_ | refine blk_alloc ?_ _)); refine blk_put (cs := #[.int .i64 x157000_1, .int .i64 (wrap64 (x157001_1 + 1)), .int .i64 1, .int .i64 (Int.tmod (wrap64 (Int.tdiv a0 60)) 24), .int .i64 (Int.tmod a0 60)]) ?_ 1 _ (by first | rfl | simp [bne]); (with_reducible repeat (first | refine blk_drewN ?_ _ | refine blk_drew ?_ | refine blk_alloc ?_ _)); refine blk_put (cs := #[.int .i64 x157000_1, .int .i64 x157001_1, .int .i64 1, .int .i64 (Int.tmod (wrap64 (Int.tdiv a0 60)) 24), .int .i64 (Int.tmod a0 60)]) ?_ 1 _ (by first | rfl | simp [bne]); (with_reducible repeat (first | refine blk_drewN ?_ _ | refine blk_drew ?_ | refine blk_alloc ?_ _)); exact BK156.out⟩, ⟨bl HB⟩⟩
     ·rw [if_neg c11] at H
      have c11b0 : ((wrap64 (x157001_1 + 1)) == 13) = false := beq_eq_false_iff_ne.mpr c11
      have c11b1 : ((wrap64 (x157001_1 + 1)) != 13) = true := bne_iff_ne.mpr c11
      have H' := am H
      clear H
      have hnb14 := NB156_154.out
      have hnc14 := NB154_156.out
      have hz15 := cells5 BK156
      go_wp2_with (first | ((with_reducible refine gate_callee (f := 91) rfl ?_); refine goesL_ (some 23) rfl rfl Tryd.func91 (by kernel_rfl) rfl #[.int .i64 x157000_1, .int .i64 x157001_1] rfl (by (try simp only [List.map_toArray, List.map_cons, List.map_nil]); first | done | rfl | (simp only [List.length_drop, List.length_take]; rfl)) ?_; (with_reducible refine (spec_l2Days.calls x157000_1 x157001_1 t157 _ A8.out).mono ?_); rintro e w' ⟨rfl, ⟨nd, rfl⟩⟩; refine ⟨_, rfl, ?_⟩; (repeat (rw [drewN_self wr]; generalize hq_ : World.drewN wr _ = wr; have n0_ : Aside0 (wr.heap[gb154]? = some (.cells #[.int .i64 0, .int .i64 0, .int .i64 0, .int .i64 0, .int .i64 0] 64 (0, 0))) := ⟨by rw [← hq_]; exact (pk BK154)⟩; have n1_ : Aside0 (wr.heap[gb156]? = some (.cells #[.int .i64 x157000_1, .int .i64 x157001_1, .int .i64 1, .int .i64 (Int.tmod (wrap64 (Int.tdiv a0 60)) 24), .int .i64 (Int.tmod a0 60)] 64 (0, 0))) := ⟨by rw [← hq_]; exact (pk BK156)⟩; have n2_ : Aside0 (Below w.heap.size w wr) := ⟨by rw [← hq_]; exact (bl HB)⟩; clear BK154 BK156 HB hq_; have BK154 := n0_; have BK156 := n1_; have HB := n2_; clear n0_ n1_ n2_; have hy154 := cells5 BK154; have hy156 := cells5 BK156))) | ((with_reducible refine gate_callee (f := 91) rfl ?_); refine goesL_ (some 30) rfl rfl Tryd.func91 (by kernel_rfl) rfl #[.int .i64 x157000_1, .int .i64 x157001_1] rfl (by (try simp only [List.map_toArray, List.map_cons, List.map_nil]); first | done | rfl | (simp only [List.length_drop, List.length_take]; rfl)) ?_; (with_reducible refine (spec_l2Days.calls x157000_1 x157001_1 t158 _ A10.out).mono ?_); rintro e w' ⟨rfl, ⟨nd, rfl⟩⟩; refine ⟨_, rfl, ?_⟩; (repeat (rw [drewN_self wr]; generalize hq_ : World.drewN wr _ = wr; have n0_ : Aside0 (wr.heap[gb154]? = some (.cells #[.int .i64 0, .int .i64 0, .int .i64 0, .int .i64 0, .int .i64 0] 64 (0, 0))) := ⟨by rw [← hq_]; exact (pk BK154)⟩; have n1_ : Aside0 (wr.heap[gb156]? = some (.cells #[.int .i64 x157000_1, .int .i64 x157001_1, .int .i64 1, .int .i64 (Int.tmod (wrap64 (Int.tdiv a0 60)) 24), .int .i64 (Int.tmod a0 60)] 64 (0, 0))) := ⟨by rw [← hq_]; exact (pk BK156)⟩; have n2_ : Aside0 (Below w.heap.size w wr) := ⟨by rw [← hq_]; exact (bl HB)⟩; clear BK154 BK156 HB hq_; have BK154 := n0_; have BK156 := n1_; have HB := n2_; clear n0_ n1_ n2_; have hy154 := cells5 BK154; have hy156 := cells5 BK156))))
      go_roundg k1
      case measure => have := HK1.out; omega
      case rel => exact ⟨(wrap64 (x4_1 - t158)), (x157000_1), (wrap64 (x157001_1 + 1)), (by first | rfl | (simp; done) | (simp [*]; done)), H', ⟨by have := HK1.out; omega⟩, ⟨by (with_reducible repeat (first | refine blk_drewN ?_ _ | refine blk_drew ?_ | refine blk_alloc ?_ _)); refine blk_far ?_ NB154_156.out _; (with_reducible repeat (first | refine blk_drewN ?_ _ | refine blk_drew ?_ | refine blk_alloc ?_ _)); exact BK154.out⟩, ⟨by (with_reducible repeat (first | refine blk_drewN ?_ _ | refine blk_drew ?_ | refine blk_alloc ?_ _)); refine blk_put (cs := #[.int .i64 x157000_1, .int .i64 x157001_1, .int .i64 1, .int .i64 (Int.tmod (wrap64 (Int.tdiv a0 60)) 24), .int .i64 (Int.tmod a0 60)]) ?_ 1 _ (by first | rfl | simp [bne]); (with_reducible repeat (first | refine blk_drewN ?_ _ | refine blk_drew ?_ | refine blk_alloc ?_ _)); exact BK156.out⟩, ⟨bl HB⟩⟩
    ·rw [if_neg c9] at H
     have c9b0 : decide (t157 ≤ x4_1) = false := decide_eq_false c9
     clear c9
     simp only [Option.some.injEq, Prod.mk.injEq] at H
     obtain ⟨rfl, rfl, rfl, rfl, rfl, rfl⟩ := H
     have hnb16 := NB156_154.out
     have hnc16 := NB154_156.out
     have hz17 := cells5 BK156
     go_wp2_with (first | ((with_reducible refine gate_callee (f := 91) rfl ?_); refine goesL_ (some 23) rfl rfl Tryd.func91 (by kernel_rfl) rfl #[.int .i64 x157000_1, .int .i64 x157001_1] rfl (by (try simp only [List.map_toArray, List.map_cons, List.map_nil]); first | done | rfl | (simp only [List.length_drop, List.length_take]; rfl)) ?_; (with_reducible refine (spec_l2Days.calls x157000_1 x157001_1 t157 _ A8.out).mono ?_); rintro e w' ⟨rfl, ⟨nd, rfl⟩⟩; refine ⟨_, rfl, ?_⟩; (repeat (rw [drewN_self wr]; generalize hq_ : World.drewN wr _ = wr; have n0_ : Aside0 (wr.heap[gb154]? = some (.cells #[.int .i64 0, .int .i64 0, .int .i64 0, .int .i64 0, .int .i64 0] 64 (0, 0))) := ⟨by rw [← hq_]; exact (pk BK154)⟩; have n1_ : Aside0 (wr.heap[gb156]? = some (.cells #[.int .i64 x157000_1, .int .i64 x157001_1, .int .i64 1, .int .i64 (Int.tmod (wrap64 (Int.tdiv a0 60)) 24), .int .i64 (Int.tmod a0 60)] 64 (0, 0))) := ⟨by rw [← hq_]; exact (pk BK156)⟩; have n2_ : Aside0 (Below w.heap.size w wr) := ⟨by rw [← hq_]; exact (bl HB)⟩; clear BK154 BK156 HB hq_; have BK154 := n0_; have BK156 := n1_; have HB := n2_; clear n0_ n1_ n2_; have hy154 := cells5 BK154; have hy156 := cells5 BK156)); have hz18 := cells5 BK154))
     refine bodyPost_ret (results_ct rfl _ _ gb154 64 #[.int .i64 x157000_1, .int .i64 x157001_1, .int .i64 (wrap64 (x4_1 + 1)), .int .i64 (Int.tmod (wrap64 (Int.tdiv a0 60)) 24), .int .i64 (Int.tmod a0 60)] (0, 0) _ rfl (by (with_reducible repeat (first | refine blk_drewN ?_ _ | refine blk_drew ?_ | refine blk_alloc ?_ _)); refine blk_put (cs := #[.int .i64 x157000_1, .int .i64 x157001_1, .int .i64 (wrap64 (x4_1 + 1)), .int .i64 (Int.tmod (wrap64 (Int.tdiv a0 60)) 24), .int .i64 0]) ?_ 4 _ (by first | rfl | simp [bne]); (with_reducible repeat (first | refine blk_drewN ?_ _ | refine blk_drew ?_ | refine blk_alloc ?_ _)); refine blk_put (cs := #[.int .i64 x157000_1, .int .i64 x157001_1, .int .i64 (wrap64 (x4_1 + 1)), .int .i64 0, .int .i64 0]) ?_ 3 _ (by first | rfl | simp [bne]); (with_reducible repeat (first | refine blk_drewN ?_ _ | refine blk_drew ?_ | refine blk_alloc ?_ _)); refine blk_put (cs := #[.int .i64 x157000_1, .int .i64 x157001_1, .int .i64 0, .int .i64 0, .int .i64 0]) ?_ 2 _ (by first | rfl | simp [bne]); (with_reducible repeat (first | refine blk_drewN ?_ _ | refine blk_drew ?_ | refine blk_alloc ?_ _)); refine blk_put (cs := #[.int .i64 x157000_1, .int .i64 0, .int .i64 0, .int .i64 0, .int .i64 0]) ?_ 1 _ (by first | rfl | simp [bne]); (with_reducible repeat (first | refine blk_drewN ?_ _ | refine blk_drew ?_ | refine blk_alloc ?_ _)); refine blk_put (cs := #[.int .i64 0, .int .i64 0, .int .i64 0, .int .i64 0, .int .i64 0]) ?_ 0 _ (by first | rfl | simp [bne]); (with_reducible repeat (first | refine blk_drewN ?_ _ | refine blk_drew ?_ | refine blk_alloc ?_ _)); refine blk_far ?_ NB154_156.out _; (with_reducible repeat (first | refine blk_drewN ?_ _ | refine blk_drew ?_ | refine blk_alloc ?_ _)); exact BK154.out) Tryd.underlying64 rfl (by kernel_rfl)) rfl ?_
     exact ⟨by first | rfl | (simp [errW_none, errW_some] <;> rfl) | (simp [*, errW_none, errW_some] <;> rfl), bl HB⟩
 ·replace c3 := Bool.eq_false_iff.mpr c3
  subst c3
  have H1 : (some (0, 0, 0, 0, 0, false)) = some (r1, r2, r3, r4, r5, r6) := by rw [if_neg (show ¬ (false = true) by decide)] at H; exact H
  clear H
  have H := H1
  clear H1
  simp only [Option.some.injEq, Prod.mk.injEq] at H
  obtain ⟨rfl, rfl, rfl, rfl, rfl, rfl⟩ := H
  go_enter Tryd.func36, Tryd.ntmps36
  go_wp2_with (first | ((with_reducible refine gate_dst (N := 2) rfl ?_); refine box_event ?hg (N := 2) ?hd (cs := #[.int .i64 0, .int .i64 0, .int .i64 0, .int .i64 0, .int .i64 0]) (t := 64) ?hr ?_; (case hd => rfl); (case hg => rfl); (case hr => first | (go_simp; done) | (go_simp; rfl)); intro gb154 hg w19 hbox hb; have n0_ := am (below_step (bl HB) hb); have n1_ := am (hbox); have n2_ := am ((by rw [hg]; exact (below_size (bl HB)) : w.heap.size ≤ gb154)); have n3_ := am ((by rw [hg]; exact (below_size (bl HB)) : w.heap.size ≤ gb154)); clear HB; have HB := n0_; have BK154 := n1_; have GW154 := n2_; have GE154 := n3_; clear n0_ n1_ n2_ n3_; clear hb hbox hg) | ((with_reducible refine gate_callee (f := 90) rfl ?_); refine goesL_ (some 7) rfl rfl Tryd.func90 (by kernel_rfl) rfl #[.int .i64 a0] rfl (by (try simp only [List.map_toArray, List.map_cons, List.map_nil]); first | done | rfl | (simp only [List.length_drop, List.length_take]; rfl)) ?_; (with_reducible refine (spec_l2Time.calls a0 false _ A2.out).mono ?_); rintro e w' ⟨rfl, ⟨nd, rfl⟩⟩; refine ⟨_, rfl, ?_⟩; (repeat (rw [drewN_self w19]; generalize hq_ : World.drewN w19 _ = w19; have n0_ : Aside0 (w19.heap[gb154]? = some (.cells #[.int .i64 0, .int .i64 0, .int .i64 0, .int .i64 0, .int .i64 0] 64 (0, 0))) := ⟨by rw [← hq_]; exact (pk BK154)⟩; have n1_ : Aside0 (Below w.heap.size w w19) := ⟨by rw [← hq_]; exact (bl HB)⟩; clear BK154 HB hq_; have BK154 := n0_; have HB := n1_; clear n0_ n1_; have hy154 := cells5 BK154)); have hz20 := cells5 BK154))
  refine bodyPost_ret (results_ct rfl _ _ gb154 64 #[.int .i64 0, .int .i64 0, .int .i64 0, .int .i64 0, .int .i64 0] (0, 0) _ rfl (by (with_reducible repeat (first | refine blk_drewN ?_ _ | refine blk_drew ?_ | refine blk_alloc ?_ _)); refine blk_put (cs := #[.int .i64 0, .int .i64 0, .int .i64 0, .int .i64 0, .int .i64 0]) ?_ 4 _ (by first | rfl | simp [bne]); (with_reducible repeat (first | refine blk_drewN ?_ _ | refine blk_drew ?_ | refine blk_alloc ?_ _)); refine blk_put (cs := #[.int .i64 0, .int .i64 0, .int .i64 0, .int .i64 0, .int .i64 0]) ?_ 3 _ (by first | rfl | simp [bne]); (with_reducible repeat (first | refine blk_drewN ?_ _ | refine blk_drew ?_ | refine blk_alloc ?_ _)); refine blk_put (cs := #[.int .i64 0, .int .i64 0, .int .i64 0, .int .i64 0, .int .i64 0]) ?_ 2 _ (by first | rfl | simp [bne]); (with_reducible repeat (first | refine blk_drewN ?_ _ | refine blk_drew ?_ | refine blk_alloc ?_ _)); refine blk_put (cs := #[.int .i64 0, .int .i64 0, .int .i64 0, .int .i64 0, .int .i64 0]) ?_ 1 _ (by first | rfl | simp [bne]); (with_reducible repeat (first | refine blk_drewN ?_ _ | refine blk_drew ?_ | refine blk_alloc ?_ _)); refine blk_put (cs := #[.int .i64 0, .int .i64 0, .int .i64 0, .int .i64 0, .int .i64 0]) ?_ 0 _ (by first | rfl | simp [bne]); (with_reducible repeat (first | refine blk_drewN ?_ _ | refine blk_drew ?_ | refine blk_alloc ?_ _)); exact BK154.out) Tryd.underlying64 rfl (by kernel_rfl)) rfl ?_
  exact ⟨by first | rfl | (simp [errW_none, errW_some] <;> rfl) | (simp [*, errW_none, errW_some] <;> rfl), bl HB⟩

/-! ### spec_l1Dec: function 129 -/
mutual
def spec_l1Dec.j0 : Nat → Int → ByteArray → Int → Option (ByteArray)
 | 0, _, _, _ => none
 | k + 1, x0, x3, x4 => spec_l1Dec.l0 k x0 x3 x4
def spec_l1Dec.l0 : Nat → Int → ByteArray → Int → Option (ByteArray)
 | 0, _, _, _ => none
 | k + 1, x0, x3, x4 => if x4 > 0 then ((some (([(IntKind.u64.wrap (48 + (Int.tmod x4 10))) % 256] : List Int) : List Int)).bind fun y159 => (if (strOfNums y159).size + x3.size ≤ 9223372036854775807 then (spec_l1Dec.l0 k x0 ((strOfNums y159) ++ x3) (IntKind.u64.wrap (Int.tdiv x4 10))) else (none))) else (if x0 < 0 then (if 1 + x3.size ≤ 9223372036854775807 then (some ((⟨#[45]⟩ : ByteArray) ++ x3)) else (none)) else (some x3))
end
def spec_l1Dec.f (k : Nat) (a0 : Int) : Option (ByteArray) := if a0 = 0 then (some (⟨#[48]⟩ : ByteArray)) else (if a0 < 0 then (spec_l1Dec.j0 k a0 (⟨#[]⟩ : ByteArray) (IntKind.u64.wrap (-(IntKind.u64.wrap (a0))))) else (spec_l1Dec.j0 k a0 (⟨#[]⟩ : ByteArray) (IntKind.u64.wrap (a0))))
theorem spec_l1Dec.mono_l : ∀ k, (∀ y0 y1 y2, LeO (spec_l1Dec.j0 k y0 y1 y2) (spec_l1Dec.j0 (k + 1) y0 y1 y2)) ∧ (∀ y0 y1 y2, LeO (spec_l1Dec.l0 k y0 y1 y2) (spec_l1Dec.l0 (k + 1) y0 y1 y2))
 | 0 => ⟨fun _ _ _ r h => by simp [spec_l1Dec.j0] at h, fun _ _ _ r h => by simp [spec_l1Dec.l0] at h⟩
 | k + 1 => by
  obtain ⟨ih0, ih1⟩ := spec_l1Dec.mono_l k
  refine ⟨?_, ?_⟩
  ·intro y0 y1 y2
   unfold spec_l1Dec.j0
   repeat' first
   | (with_reducible exact ih0 _ _ _)
   | (with_reducible exact ih1 _ _ _)
   | (with_reducible exact LeO.refl _)
   | (with_reducible exact LeO.none _)
   | (with_reducible refine LeO.ite ?_ ?_)
   | (with_reducible refine LeO.bind ?_ (fun _ => ?_))
   | exact ih0 _ _ _
   | exact ih1 _ _ _
   | exact LeO.none _
   | refine LeO.ite ?_ ?_
   | refine LeO.bind ?_ (fun _ => ?_)
  ·intro y0 y1 y2
   unfold spec_l1Dec.l0
   repeat' first
   | (with_reducible exact ih0 _ _ _)
   | (with_reducible exact ih1 _ _ _)
   | (with_reducible exact LeO.refl _)
   | (with_reducible exact LeO.none _)
   | (with_reducible refine LeO.ite ?_ ?_)
   | (with_reducible refine LeO.bind ?_ (fun _ => ?_))
   | exact ih0 _ _ _
   | exact ih1 _ _ _
   | exact LeO.none _
   | refine LeO.ite ?_ ?_
   | refine LeO.bind ?_ (fun _ => ?_)
theorem spec_l1Dec.mono : ∀ a0 k, LeO (spec_l1Dec.f k a0) (spec_l1Dec.f (k + 1) a0) := by
 intro a0 k
 obtain ⟨ih0, ih1⟩ := spec_l1Dec.mono_l k
 unfold spec_l1Dec.f
 repeat' first
   | (with_reducible exact ih0 _ _ _)
   | (with_reducible exact ih1 _ _ _)
   | (with_reducible exact LeO.refl _)
   | (with_reducible exact LeO.none _)
   | (with_reducible refine LeO.ite ?_ ?_)
   | (with_reducible refine LeO.bind ?_ (fun _ => ?_))
   | exact ih0 _ _ _
   | exact ih1 _ _ _
   | exact LeO.none _
   | refine LeO.ite ?_ ?_
   | refine LeO.bind ?_ (fun _ => ?_)
set_option maxHeartbeats 8000000 in
set_option maxRecDepth 100000 in
theorem spec_l1Dec.calls (k : Nat) (a0 : Int) (r : ByteArray) (w : World) (h : spec_l1Dec.f k a0 = some r) :
  Calls Tryd.prog 129 #[.int .i64 a0] w fun e w' => e = .returned (.string r) ∧ Below w.heap.size w w' := by
 have HB := am (Below.refl w.heap.size w)
 have H : (if a0 = 0 then (some (⟨#[48]⟩ : ByteArray)) else (if a0 < 0 then (spec_l1Dec.j0 k a0 (⟨#[]⟩ : ByteArray) (IntKind.u64.wrap (-(IntKind.u64.wrap (a0))))) else (spec_l1Dec.j0 k a0 (⟨#[]⟩ : ByteArray) (IntKind.u64.wrap (a0))))) = some r := h
 clear h
 by_cases c2 : a0 = 0
 ·rw [if_pos c2] at H
  have c2b0 : (a0 == 0) = true := beq_iff_eq.mpr c2
  have c2b1 : (a0 != 0) = false := bne_eq_false_iff_eq.mpr c2
  clear c2
  obtain rfl := Option.some.inj H
  go_enter Tryd.func129, Tryd.ntmps129
  go_wp2
  go_ret
  exact ⟨by first | rfl | (simp [errW_none, errW_some] <;> rfl) | (simp [*, errW_none, errW_some] <;> rfl), bl HB⟩
 ·rw [if_neg c2] at H
  have c2b0 : (a0 == 0) = false := beq_eq_false_iff_ne.mpr c2
  have c2b1 : (a0 != 0) = true := bne_iff_ne.mpr c2
  have HC3 := am H
  clear H
  go_enter Tryd.func129, Tryd.ntmps129
  go_upto_if 10 with (fail)
  go_cut [4] (fun v4 wc => ∃ (kq : Nat) (x4_2 : Int), v4 = .int .u64 x4_2 ∧ Aside0 (spec_l1Dec.j0 kq a0 (⟨#[]⟩ : ByteArray) x4_2 = some r) ∧ Aside0 (kq ≤ k) ∧ Aside0 (Below w.heap.size w wc))
  case first =>
   have H := HC3.out
   clear HC3
   by_cases c4 : a0 < 0
   ·rw [if_pos c4] at H
    have c4b0 : decide (a0 < 0) = true := decide_eq_true c4
    clear c4
    (first | rw [c4b0] | (simp only [i64_w, i32_w]; rw [c4b0]) | skip)
    have H' := am H
    clear H
    go_wp2
    go_meet
    case rel => exact ⟨_, (IntKind.u64.wrap (-(IntKind.u64.wrap (a0)))), (by first | rfl | (simp; done) | (simp [*]; done)), H', ⟨by first | omega | exact Nat.le_refl _⟩, ⟨bl HB⟩⟩
   ·rw [if_neg c4] at H
    have c4b0 : decide (a0 < 0) = false := decide_eq_false c4
    clear c4
    (first | rw [c4b0] | (simp only [i64_w, i32_w]; rw [c4b0]) | skip)
    have H' := am H
    clear H
    go_wp2
    go_meet
    case rel => exact ⟨_, (IntKind.u64.wrap (a0)), (by first | rfl | (simp; done) | (simp [*]; done)), H', ⟨by first | omega | exact Nat.le_refl _⟩, ⟨bl HB⟩⟩
  case rest =>
   clear HC3
   try clear c1
   try clear c2
   try clear c2b0
   try clear c2b1
   try clear p2
   try clear c4
   try clear c4b0
   obtain ⟨kq, x4_2, rfl, HA, HJ2, HB⟩ := hcut
   cases kq with
   | zero => exact absurd HA.out (by simp [spec_l1Dec.j0])
   | succ kj2 =>
    have H := HA.out
    clear HA
    simp only [spec_l1Dec.j0] at H
    have H' := am H
    clear H
    go_wp2
    go_loopg [3, 4] kj2 (fun kq v3 v4 w' => ∃ (x3_2 : ByteArray) (x4_2 : Int), v3 = .string x3_2 ∧ v4 = .int .u64 x4_2 ∧ Aside0 (spec_l1Dec.l0 kq a0 x3_2 x4_2 = some r) ∧ Aside0 (kq ≤ kj2) ∧ Aside0 (Below w.heap.size w w'))
    case atStart => exact ⟨((⟨#[]⟩ : ByteArray)), (x4_2), (by first | rfl | (simp; done) | (simp [*]; done)), (by first | rfl | (simp; done) | (simp [*]; done)), H', ⟨Nat.le_refl _⟩, ⟨bl HB⟩⟩
    case round =>
     clear H'
     try clear c1
     try clear c2
     try clear c2b0
     try clear c2b1
     try clear p2
     try clear c4
     try clear c4b0
     try clear p2
     obtain ⟨x3_2, x4_2, rfl, rfl, HA, HK2, HB⟩ := hrel
     cases gk with
     | zero => exact absurd HA.out (by simp [spec_l1Dec.l0])
     | succ k2 =>
      have H := HA.out
      clear HA
      simp only [spec_l1Dec.l0] at H
      by_cases c5 : x4_2 > 0
      ·rw [if_pos c5] at H
       have c5b0 : decide (0 < x4_2) = true := decide_eq_true c5
       clear c5
       obtain ⟨y159, hy159⟩ : ∃ y_ : List Int, y_ = (([(IntKind.u64.wrap (48 + (Int.tmod x4_2 10))) % 256] : List Int)) := ⟨_, rfl⟩
       replace H : (if (strOfNums y159).size + x3_2.size ≤ 9223372036854775807 then (spec_l1Dec.l0 k2 a0 ((strOfNums y159) ++ x3_2) (IntKind.u64.wrap (Int.tdiv x4_2 10))) else (none)) = some r := by first | (rw [hy159]; with_reducible exact H) | (have H2_ := (Option.bind_some _ _).symm.trans H; rw [hy159]; with_reducible exact H2_) | (have H2_ := (Option.bind_some _ _).symm.trans H; with_reducible exact H2_) | with_reducible exact H | (rw [hy159]; exact H) | exact H
       have Ny159 := am hy159
       clear hy159
       by_cases c6 : (strOfNums y159).size + x3_2.size ≤ 9223372036854775807
       ·rw [if_pos c6] at H
        have c6b0 := eq_true c6
        have c6b1 : decide ((strOfNums y159).size + x3_2.size ≤ 9223372036854775807) = true := decide_eq_true c6
        try have c6b2 : (9223372036854775807 < (strOfNums y159).size + x3_2.size) = False := eq_false (Nat.not_lt.2 c6)
        have H' := am H
        clear H
        go_wp2_with (first | ((with_reducible refine gate_dst (N := 19) rfl ?_); refine Kd.R_lit (Kd.int .u8) _ 5 ?hg (N := 19) ?hd (xs := ([(IntKind.u64.wrap (48 + (Int.tmod x4_2 10))) % 256] : List Int)) (inner := [.int .u8 ((IntKind.u64.wrap (48 + (Int.tmod x4_2 10))) % 256)]) (ok := fun _ => True) (okp := fun _ => True) ?hr ?hp (fun _ hk => hk) trivial (Below.refl _ _) (Nat.le_refl _) (by simp) ?_; (case hd => rfl); (case hg => rfl); (case hr => first | (go_simp; done) | (go_simp; rfl)); (case hp => exact (Reps.one (show Kd.M (Kd.int .u8) _ _ _ ((IntKind.u64.wrap (48 + (Int.tmod x4_2 10))) % 256) [.int .u8 ((IntKind.u64.wrap (48 + (Int.tmod x4_2 10))) % 256)] from rfl) (Reps.none _ _))); intro v160 w7 ho8 hb hg_ hnew_; clear hg_ hnew_; (first | rw [← Ny159.out] at ho8 | (simp only [Int.reduceToNat] at ho8; rw [← Ny159.out] at ho8)); have n0_ := am (Kd.R_lower ho8 (below_size (bl HB))); have n1_ := am (below_step (bl HB) hb); clear HB; have HO161 := n0_; have HB := n1_; clear n0_ n1_; clear hb ho8; have hcv9 := own_string (P := Tryd.prog) Tryd.underlying60 Tryd.underlying5 Tryd.underlying9 (Kd.own_of_R HO161.out)))
        go_roundg k2
        case measure => have := HJ2.out; have := HK2.out; omega
        case rel => exact ⟨((strOfNums y159) ++ x3_2), (IntKind.u64.wrap (Int.tdiv x4_2 10)), (by first | rfl | (simp; done) | (simp [*]; done)), (by first | rfl | (simp; done) | (simp [*]; done)), H', ⟨by have := HJ2.out; have := HK2.out; omega⟩, ⟨bl HB⟩⟩
       ·rw [if_neg c6] at H
        exact absurd H (by simp)
      ·rw [if_neg c5] at H
       have c5b0 : decide (0 < x4_2) = false := decide_eq_false c5
       clear c5
       by_cases c10 : a0 < 0
       ·rw [if_pos c10] at H
        have c10b0 : decide (a0 < 0) = true := decide_eq_true c10
        clear c10
        by_cases c11 : 1 + x3_2.size ≤ 9223372036854775807
        ·rw [if_pos c11] at H
         have c11b0 := eq_true c11
         have c11b1 : decide (1 + x3_2.size ≤ 9223372036854775807) = true := decide_eq_true c11
         try have c11b2 : (9223372036854775807 < 1 + x3_2.size) = False := eq_false (Nat.not_lt.2 c11)
         obtain rfl := Option.some.inj H
         go_wp2
         go_ret
         exact ⟨by first | rfl | (simp [errW_none, errW_some] <;> rfl) | (simp [*, errW_none, errW_some] <;> rfl), bl HB⟩
        ·rw [if_neg c11] at H
         exact absurd H (by simp)
       ·rw [if_neg c10] at H
        have c10b0 : decide (a0 < 0) = false := decide_eq_false c10
        clear c10
        obtain rfl := Option.some.inj H
        go_wp2
        go_ret
        exact ⟨by first | rfl | (simp [errW_none, errW_some] <;> rfl) | (simp [*, errW_none, errW_some] <;> rfl), bl HB⟩

/-! ### spec_l2Pad: function 81 -/
def spec_l2Pad.l0 : Nat → Int → ByteArray → Option (ByteArray)
 | 0, _, _ => none
 | k + 1, x1, x5 => if (x5.size : Int) < x1 then (if 1 + x5.size ≤ 9223372036854775807 then (spec_l2Pad.l0 k x1 ((⟨#[48]⟩ : ByteArray) ++ x5)) else (none)) else (some x5)
def spec_l2Pad.f (k : Nat) (a0 : Int) (a1 : Int) : Option (ByteArray) := (spec_l1Dec.f k a0).bind fun t162 => (spec_l2Pad.l0 k a1 t162)
theorem spec_l2Pad.mono_l : ∀ k, (∀ y0 y1, LeO (spec_l2Pad.l0 k y0 y1) (spec_l2Pad.l0 (k + 1) y0 y1))
 | 0 => fun _ _ r h => by simp [spec_l2Pad.l0] at h
 | k + 1 => by
  have ih0 := spec_l2Pad.mono_l k
  ·intro y0 y1
   unfold spec_l2Pad.l0
   repeat' first
   | (with_reducible exact ih0 _ _)
   | (with_reducible exact spec_l1Dec.mono _ _)
   | (with_reducible exact LeO.refl _)
   | (with_reducible exact LeO.none _)
   | (with_reducible refine LeO.ite ?_ ?_)
   | (with_reducible refine LeO.bind ?_ (fun _ => ?_))
   | exact ih0 _ _
   | exact spec_l1Dec.mono _ _
   | exact LeO.none _
   | refine LeO.ite ?_ ?_
   | refine LeO.bind ?_ (fun _ => ?_)
theorem spec_l2Pad.mono : ∀ a0 a1 k, LeO (spec_l2Pad.f k a0 a1) (spec_l2Pad.f (k + 1) a0 a1) := by
 intro a0 a1 k
 have ih0 := spec_l2Pad.mono_l k
 unfold spec_l2Pad.f
 repeat' first
   | (with_reducible exact ih0 _ _)
   | (with_reducible exact spec_l1Dec.mono _ _)
   | (with_reducible exact LeO.refl _)
   | (with_reducible exact LeO.none _)
   | (with_reducible refine LeO.ite ?_ ?_)
   | (with_reducible refine LeO.bind ?_ (fun _ => ?_))
   | exact ih0 _ _
   | exact spec_l1Dec.mono _ _
   | exact LeO.none _
   | refine LeO.ite ?_ ?_
   | refine LeO.bind ?_ (fun _ => ?_)
set_option maxHeartbeats 8000000 in
set_option maxRecDepth 100000 in
theorem spec_l2Pad.calls (k : Nat) (a0 : Int) (a1 : Int) (r : ByteArray) (w : World) (h : spec_l2Pad.f k a0 a1 = some r) :
  Calls Tryd.prog 81 #[.int .i64 a0, .int .i64 a1] w fun e w' => e = .returned (.string r) ∧ Below w.heap.size w w' := by
 have HB := am (Below.refl w.heap.size w)
 have H : ((spec_l1Dec.f k a0).bind fun t162 => (spec_l2Pad.l0 k a1 t162)) = some r := h
 clear h
 replace H := Option.bind_eq_some_iff.mp H
 obtain ⟨t162, A30, H⟩ := H
 replace H : (spec_l2Pad.l0 k a1 t162) = some r := H
 have A3 := am A30
 clear A30
 have H' := am H
 clear H
 go_enter Tryd.func81, Tryd.ntmps81
 go_wp2_with (first | ((with_reducible refine gate_callee (f := 129) rfl ?_); refine goesL_ (some 7) rfl rfl Tryd.func129 (by kernel_rfl) rfl #[.int .i64 a0] rfl (by (try simp only [List.map_toArray, List.map_cons, List.map_nil]); first | done | rfl | (simp only [List.length_drop, List.length_take]; rfl)) ?_; (with_reducible refine (spec_l1Dec.calls k a0 t162 _ A3.out).mono ?_); rintro e w4 ⟨rfl, hb⟩; refine ⟨_, rfl, ?_⟩; have n0_ := am (below_step (bl HB) hb); clear HB; have HB := n0_; clear n0_; (try clear hb); (try clear hb2); (try clear hk); (try clear hi)))
 go_loopg [5] k (fun kq v5 w' => ∃ (x5_1 : ByteArray), v5 = .string x5_1 ∧ Aside0 (spec_l2Pad.l0 kq a1 x5_1 = some r) ∧ Aside0 (kq ≤ k) ∧ Aside0 (Below w.heap.size w w'))
 case atStart => exact ⟨(t162), (by first | rfl | (simp; done) | (simp [*]; done)), H', ⟨Nat.le_refl _⟩, ⟨bl HB⟩⟩
 case round =>
  clear H'
  try clear c1
  try clear p2
  obtain ⟨x5_1, rfl, HA, HK1, HB⟩ := hrel
  cases gk with
  | zero => exact absurd HA.out (by simp [spec_l2Pad.l0])
  | succ k1 =>
   have H := HA.out
   clear HA
   simp only [spec_l2Pad.l0] at H
   by_cases c5 : (x5_1.size : Int) < a1
   ·rw [if_pos c5] at H
    have c5b0 : decide ((x5_1.size : Int) < a1) = true := decide_eq_true c5
    clear c5
    by_cases c6 : 1 + x5_1.size ≤ 9223372036854775807
    ·rw [if_pos c6] at H
     have c6b0 := eq_true c6
     have c6b1 : decide (1 + x5_1.size ≤ 9223372036854775807) = true := decide_eq_true c6
     try have c6b2 : (9223372036854775807 < 1 + x5_1.size) = False := eq_false (Nat.not_lt.2 c6)
     have H' := am H
     clear H
     go_wp2
     go_roundg k1
     case measure => have := HK1.out; omega
     case rel => exact ⟨((⟨#[48]⟩ : ByteArray) ++ x5_1), (by first | rfl | (simp; done) | (simp [*]; done)), H', ⟨by have := HK1.out; omega⟩, ⟨bl HB⟩⟩
    ·rw [if_neg c6] at H
     exact absurd H (by simp)
   ·rw [if_neg c5] at H
    have c5b0 : decide ((x5_1.size : Int) < a1) = false := decide_eq_false c5
    clear c5
    obtain rfl := Option.some.inj H
    go_wp2
    go_ret
    exact ⟨by first | rfl | (simp [errW_none, errW_some] <;> rfl) | (simp [*, errW_none, errW_some] <;> rfl), bl HB⟩

end Go.Proofs.YtmcmkdiefpepnaaDoor.XRS
