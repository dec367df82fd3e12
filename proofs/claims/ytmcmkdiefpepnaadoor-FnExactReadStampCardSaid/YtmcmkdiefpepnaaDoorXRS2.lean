-- By xprint.py, a driver of ours round the kit's printer, out of the translation; Lean checks it.
import Derived.Test.YtmcmkdiefpepnaaDoorXRS0
namespace Go.Proofs.YtmcmkdiefpepnaaDoor.XRS
open Go.Proofs.YtmcmkdiefpepnaaDoor.Ext Go.Proofs.YtmcmkdiefpepnaaDoor.Sq
open Go.RowKit Go.Proofs.YtmcmkdiefpepnaaDoorW.PrintWords Go.Proofs.YtmcmkdiefpepnaaDoorW.PrintLast Go.Proofs.YtmcmkdiefpepnaaDoorW.PrintMore
attribute [local go_sem] max2_int min2_int max_two min_two max_three min_three max_four min_four   -- for this text's walks alone
set_option linter.unusedVariables false
set_option linter.unusedSimpArgs false

/-! ### impl_in: function 73 -/
def impl_in.f (a0 : Int) (a1 : Int) (a2 : Int) : Option (Bool) := if a0 ≥ a1 then (some (decide (a0 ≤ a2))) else (some false)
set_option maxHeartbeats 8000000 in
set_option maxRecDepth 100000 in
theorem impl_in.calls (a0 : Int) (a1 : Int) (a2 : Int) (r : Bool) (w : World) (h : impl_in.f a0 a1 a2 = some r) :
  Calls Tryd.prog 73 #[.int .i64 a0, .int .i64 a1, .int .i64 a2] w fun e w' => e = .returned (.bool r) ∧ Drawn0 w w' := by
 have H : (if a0 ≥ a1 then (some (decide (a0 ≤ a2))) else (some false)) = some r := h
 clear h
 by_cases c4 : a0 ≥ a1
 ·rw [if_pos c4] at H
  have c4b0 : decide (a1 ≤ a0) = true := decide_eq_true c4
  clear c4
  obtain rfl := Option.some.inj H
  go_enter Tryd.func73, Tryd.ntmps73
  go_wp2
  go_ret
  exact ⟨by first | rfl | (simp; done) | (simp [*]; done), by repeat (first | exact Drawn0.refl _ | apply Drawn0.step)⟩
 ·rw [if_neg c4] at H
  have c4b0 : decide (a1 ≤ a0) = false := decide_eq_false c4
  clear c4
  obtain rfl := Option.some.inj H
  go_enter Tryd.func73, Tryd.ntmps73
  go_wp2
  go_ret
  exact ⟨by first | rfl | (simp; done) | (simp [*]; done), by repeat (first | exact Drawn0.refl _ | apply Drawn0.step)⟩

/-! ### impl_isTime: function 92 -/
def impl_isTime.f (a0 : Int) : Option (Bool) := (impl_in.f a0 0 52596000).bind fun t101 => (some t101)
set_option maxHeartbeats 8000000 in
set_option maxRecDepth 100000 in
theorem impl_isTime.calls (a0 : Int) (r : Bool) (w : World) (h : impl_isTime.f a0 = some r) :
  Calls Tryd.prog 92 #[.int .i64 a0] w fun e w' => e = .returned (.bool r) ∧ Drawn0 w w' := by
 have H : ((impl_in.f a0 0 52596000).bind fun t101 => (some t101)) = some r := h
 clear h
 replace H := Option.bind_eq_some_iff.mp H
 obtain ⟨t101, A20, H⟩ := H
 replace H : (some t101) = some r := H
 have A2 := am A20
 clear A20
 obtain rfl := Option.some.inj H
 go_enter Tryd.func92, Tryd.ntmps92
 go_wp2_with (first | ((with_reducible refine gate_callee (f := 73) rfl ?_); refine goesL_ (some 4) rfl rfl Tryd.func73 (by kernel_rfl) rfl #[.int .i64 a0, .int .i64 0, .int .i64 52596000] rfl (by (try simp only [List.map_toArray, List.map_cons, List.map_nil]); first | done | rfl | (simp only [List.length_drop, List.length_take]; rfl)) ?_; (with_reducible refine (impl_in.calls a0 0 52596000 t101 _ A2.out).mono ?_); rintro e w' ⟨rfl, ⟨nd, rfl⟩⟩; refine ⟨_, rfl, ?_⟩))
 go_ret
 exact ⟨by first | rfl | (simp; done) | (simp [*]; done), by repeat (first | exact Drawn0.refl _ | apply Drawn0.step)⟩

/-! ### impl_leap: function 144 -/
def impl_leap.f (a0 : Int) : Option (Bool) := some ((Int.tmod a0 4) == 0)
set_option maxHeartbeats 8000000 in
set_option maxRecDepth 100000 in
theorem impl_leap.calls (a0 : Int) (r : Bool) (w : World) (h : impl_leap.f a0 = some r) :
  Calls Tryd.prog 144 #[.int .i64 a0] w fun e w' => e = .returned (.bool r) ∧ Drawn0 w w' := by
 have H : (some ((Int.tmod a0 4) == 0)) = some r := h
 clear h
 obtain rfl := Option.some.inj H
 go_enter Tryd.func144, Tryd.ntmps144
 go_wp2
 go_ret
 exact ⟨by first | rfl | (simp; done) | (simp [*]; done), by repeat (first | exact Drawn0.refl _ | apply Drawn0.step)⟩

/-! ### impl_monthDays: function 94 -/
def impl_monthDays.f (a0 : Int) (a1 : Int) : Option (Int) := if a1 = 2 then ((impl_leap.f a0).bind fun t102 => (if t102 = true then (some 29) else (some 28))) else (if a1 = 4 then (some 30) else (if a1 = 6 then (some 30) else (if a1 = 9 then (some 30) else (if a1 = 11 then (some 30) else (some 31)))))
set_option maxHeartbeats 8000000 in
set_option maxRecDepth 100000 in
theorem impl_monthDays.calls (a0 : Int) (a1 : Int) (r : Int) (w : World) (h : impl_monthDays.f a0 a1 = some r) :
  Calls Tryd.prog 94 #[.int .i64 a0, .int .i64 a1] w fun e w' => e = .returned (.int .i64 r) ∧ Drawn0 w w' := by
 have H : (if a1 = 2 then ((impl_leap.f a0).bind fun t102 => (if t102 = true then (some 29) else (some 28))) else (if a1 = 4 then (some 30) else (if a1 = 6 then (some 30) else (if a1 = 9 then (some 30) else (if a1 = 11 then (some 30) else (some 31)))))) = some r := h
 clear h
 by_cases c3 : a1 = 2
 ·rw [if_pos c3] at H
  have c3b0 : (a1 == 2) = true := beq_iff_eq.mpr c3
  have c3b1 : (a1 != 2) = false := bne_eq_false_iff_eq.mpr c3
  clear c3
  replace H := Option.bind_eq_some_iff.mp H
  obtain ⟨t102, A40, H⟩ := H
  replace H : (if t102 = true then (some 29) else (some 28)) = some r := H
  have A4 := am A40
  clear A40
  by_cases c5 : t102 = true
  ·subst c5
   have H1 : (some 29) = some r := by rw [if_pos rfl] at H; exact H
   clear H
   have H := H1
   clear H1
   obtain rfl := Option.some.inj H
   go_enter Tryd.func94, Tryd.ntmps94
   go_wp2_with (first | ((with_reducible refine gate_callee (f := 144) rfl ?_); refine goesL_ (some 9) rfl rfl Tryd.func144 (by kernel_rfl) rfl #[.int .i64 a0] rfl (by (try simp only [List.map_toArray, List.map_cons, List.map_nil]); first | done | rfl | (simp only [List.length_drop, List.length_take]; rfl)) ?_; (with_reducible refine (impl_leap.calls a0 true _ A4.out).mono ?_); rintro e w' ⟨rfl, ⟨nd, rfl⟩⟩; refine ⟨_, rfl, ?_⟩))
   go_ret
   exact ⟨by first | rfl | (simp; done) | (simp [*]; done), by repeat (first | exact Drawn0.refl _ | apply Drawn0.step)⟩
  ·replace c5 := Bool.eq_false_iff.mpr c5
   subst c5
   have H1 : (some 28) = some r := by rw [if_neg (show ¬ (false = true) by decide)] at H; exact H
   clear H
   have H := H1
   clear H1
   obtain rfl := Option.some.inj H
   go_enter Tryd.func94, Tryd.ntmps94
   go_wp2_with (first | ((with_reducible refine gate_callee (f := 144) rfl ?_); refine goesL_ (some 9) rfl rfl Tryd.func144 (by kernel_rfl) rfl #[.int .i64 a0] rfl (by (try simp only [List.map_toArray, List.map_cons, List.map_nil]); first | done | rfl | (simp only [List.length_drop, List.length_take]; rfl)) ?_; (with_reducible refine (impl_leap.calls a0 false _ A4.out).mono ?_); rintro e w' ⟨rfl, ⟨nd, rfl⟩⟩; refine ⟨_, rfl, ?_⟩))
   go_ret
   exact ⟨by first | rfl | (simp; done) | (simp [*]; done), by repeat (first | exact Drawn0.refl _ | apply Drawn0.step)⟩
 ·rw [if_neg c3] at H
  have c3b0 : (a1 == 2) = false := beq_eq_false_iff_ne.mpr c3
  have c3b1 : (a1 != 2) = true := bne_iff_ne.mpr c3
  by_cases c6 : a1 = 4
  ·rw [if_pos c6] at H
   have c6b0 : (a1 == 4) = true := beq_iff_eq.mpr c6
   have c6b1 : (a1 != 4) = false := bne_eq_false_iff_eq.mpr c6
   clear c6
   obtain rfl := Option.some.inj H
   go_enter Tryd.func94, Tryd.ntmps94
   go_wp2
   go_ret
   exact ⟨by first | rfl | (simp; done) | (simp [*]; done), by repeat (first | exact Drawn0.refl _ | apply Drawn0.step)⟩
  ·rw [if_neg c6] at H
   have c6b0 : (a1 == 4) = false := beq_eq_false_iff_ne.mpr c6
   have c6b1 : (a1 != 4) = true := bne_iff_ne.mpr c6
   by_cases c7 : a1 = 6
   ·rw [if_pos c7] at H
    have c7b0 : (a1 == 6) = true := beq_iff_eq.mpr c7
    have c7b1 : (a1 != 6) = false := bne_eq_false_iff_eq.mpr c7
    clear c7
    obtain rfl := Option.some.inj H
    go_enter Tryd.func94, Tryd.ntmps94
    go_wp2
    go_ret
    exact ⟨by first | rfl | (simp; done) | (simp [*]; done), by repeat (first | exact Drawn0.refl _ | apply Drawn0.step)⟩
   ·rw [if_neg c7] at H
    have c7b0 : (a1 == 6) = false := beq_eq_false_iff_ne.mpr c7
    have c7b1 : (a1 != 6) = true := bne_iff_ne.mpr c7
    by_cases c8 : a1 = 9
    ·rw [if_pos c8] at H
     have c8b0 : (a1 == 9) = true := beq_iff_eq.mpr c8
     have c8b1 : (a1 != 9) = false := bne_eq_false_iff_eq.mpr c8
     clear c8
     obtain rfl := Option.some.inj H
     go_enter Tryd.func94, Tryd.ntmps94
     go_wp2
     go_ret
     exact ⟨by first | rfl | (simp; done) | (simp [*]; done), by repeat (first | exact Drawn0.refl _ | apply Drawn0.step)⟩
    ·rw [if_neg c8] at H
     have c8b0 : (a1 == 9) = false := beq_eq_false_iff_ne.mpr c8
     have c8b1 : (a1 != 9) = true := bne_iff_ne.mpr c8
     by_cases c9 : a1 = 11
     ·rw [if_pos c9] at H
      have c9b0 : (a1 == 11) = true := beq_iff_eq.mpr c9
      have c9b1 : (a1 != 11) = false := bne_eq_false_iff_eq.mpr c9
      clear c9
      obtain rfl := Option.some.inj H
      go_enter Tryd.func94, Tryd.ntmps94
      go_wp2
      go_ret
      exact ⟨by first | rfl | (simp; done) | (simp [*]; done), by repeat (first | exact Drawn0.refl _ | apply Drawn0.step)⟩
     ·rw [if_neg c9] at H
      have c9b0 : (a1 == 11) = false := beq_eq_false_iff_ne.mpr c9
      have c9b1 : (a1 != 11) = true := bne_iff_ne.mpr c9
      obtain rfl := Option.some.inj H
      go_enter Tryd.func94, Tryd.ntmps94
      go_wp2
      go_ret
      exact ⟨by first | rfl | (simp; done) | (simp [*]; done), by repeat (first | exact Drawn0.refl _ | apply Drawn0.step)⟩

/-! ### impl_daysTo: function 93 -/
def impl_daysTo.l0 : Nat → Int → Int → Int → Int → Int → Option (Int)
 | 0, _, _, _, _, _ => none
 | k + 1, x0, x1, x2, x7, x8 => if x8 < x1 then ((impl_monthDays.f x0 x8).bind fun t103 => (impl_daysTo.l0 k x0 x1 x2 (wrap64 (x7 + t103)) (wrap64 (x8 + 1)))) else (some (wrap64 ((wrap64 (x7 + x2)) - 1)))
def impl_daysTo.f (k : Nat) (a0 : Int) (a1 : Int) (a2 : Int) : Option (Int) := impl_daysTo.l0 k a0 a1 a2 (wrap64 ((wrap64 ((wrap64 (a0 - 2000)) * 365)) + (wrap64 (Int.tdiv (wrap64 ((wrap64 (a0 - 2000)) + 3)) 4)))) 1
theorem impl_daysTo.mono_l : ∀ k, (∀ y0 y1 y2 y3 y4, LeO (impl_daysTo.l0 k y0 y1 y2 y3 y4) (impl_daysTo.l0 (k + 1) y0 y1 y2 y3 y4))
 | 0 => fun _ _ _ _ _ r h => by simp [impl_daysTo.l0] at h
 | k + 1 => by
  have ih0 := impl_daysTo.mono_l k
  ·intro y0 y1 y2 y3 y4
   unfold impl_daysTo.l0
   repeat' first
   | (with_reducible exact ih0 _ _ _ _ _)
   | (with_reducible exact LeO.refl _)
   | (with_reducible exact LeO.none _)
   | (with_reducible refine LeO.ite ?_ ?_)
   | (with_reducible refine LeO.bind ?_ (fun _ => ?_))
   | exact ih0 _ _ _ _ _
   | exact LeO.none _
   | refine LeO.ite ?_ ?_
   | refine LeO.bind ?_ (fun _ => ?_)
theorem impl_daysTo.mono : ∀ a0 a1 a2 k, LeO (impl_daysTo.f k a0 a1 a2) (impl_daysTo.f (k + 1) a0 a1 a2) := by
 intro a0 a1 a2 k
 have ih0 := impl_daysTo.mono_l k
 unfold impl_daysTo.f
 repeat' first
   | (with_reducible exact ih0 _ _ _ _ _)
   | (with_reducible exact LeO.refl _)
   | (with_reducible exact LeO.none _)
   | (with_reducible refine LeO.ite ?_ ?_)
   | (with_reducible refine LeO.bind ?_ (fun _ => ?_))
   | exact ih0 _ _ _ _ _
   | exact LeO.none _
   | refine LeO.ite ?_ ?_
   | refine LeO.bind ?_ (fun _ => ?_)
set_option maxHeartbeats 8000000 in
set_option maxRecDepth 100000 in
theorem impl_daysTo.calls (k : Nat) (a0 : Int) (a1 : Int) (a2 : Int) (r : Int) (w : World) (h : impl_daysTo.f k a0 a1 a2 = some r) :
  Calls Tryd.prog 93 #[.int .i64 a0, .int .i64 a1, .int .i64 a2] w fun e w' => e = .returned (.int .i64 r) ∧ Drawn0 w w' := by
 have H : (impl_daysTo.l0 k a0 a1 a2 (wrap64 ((wrap64 ((wrap64 (a0 - 2000)) * 365)) + (wrap64 (Int.tdiv (wrap64 ((wrap64 (a0 - 2000)) + 3)) 4)))) 1) = some r := h
 clear h
 have H' := am H
 clear H
 go_enter Tryd.func93, Tryd.ntmps93
 go_wp2
 go_loopg [7, 8] k (fun kq v7 v8 w' => ∃ (x7_1 : Int) (x8_1 : Int), v7 = .int .i64 x7_1 ∧ v8 = .int .i64 x8_1 ∧ Aside0 (impl_daysTo.l0 kq a0 a1 a2 x7_1 x8_1 = some r) ∧ Aside0 (kq ≤ k) ∧ Drawn0 w w')
 case atStart => exact ⟨(wrap64 ((wrap64 ((wrap64 (a0 - 2000)) * 365)) + (wrap64 (Int.tdiv (wrap64 ((wrap64 (a0 - 2000)) + 3)) 4)))), (1), (by first | rfl | (simp; done) | (simp [*]; done)), (by first | rfl | (simp; done) | (simp [*]; done)), H', ⟨Nat.le_refl _⟩, by repeat (first | exact Drawn0.refl _ | apply Drawn0.step)⟩
 case round =>
  clear H'
  try clear p2
  obtain ⟨x7_1, x8_1, rfl, rfl, HA, HK1, ⟨m1, rfl⟩⟩ := hrel
  cases gk with
  | zero => exact absurd HA.out (by simp [impl_daysTo.l0])
  | succ k1 =>
   have H := HA.out
   clear HA
   simp only [impl_daysTo.l0] at H
   by_cases c4 : x8_1 < a1
   ·rw [if_pos c4] at H
    have c4b0 : decide (x8_1 < a1) = true := decide_eq_true c4
    clear c4
    replace H := Option.bind_eq_some_iff.mp H
    obtain ⟨t103, A50, H⟩ := H
    replace H : (impl_daysTo.l0 k1 a0 a1 a2 (wrap64 (x7_1 + t103)) (wrap64 (x8_1 + 1))) = some r := H
    have A5 := am A50
    clear A50
    have H' := am H
    clear H
    go_wp2_with (first | ((with_reducible refine gate_callee (f := 94) rfl ?_); refine goesL_ (some 25) rfl rfl Tryd.func94 (by kernel_rfl) rfl #[.int .i64 a0, .int .i64 x8_1] rfl (by (try simp only [List.map_toArray, List.map_cons, List.map_nil]); first | done | rfl | (simp only [List.length_drop, List.length_take]; rfl)) ?_; (with_reducible refine (impl_monthDays.calls a0 x8_1 t103 _ A5.out).mono ?_); rintro e w' ⟨rfl, ⟨nd, rfl⟩⟩; refine ⟨_, rfl, ?_⟩))
    go_roundg k1
    case measure => have := HK1.out; omega
    case rel => exact ⟨(wrap64 (x7_1 + t103)), (wrap64 (x8_1 + 1)), (by first | rfl | (simp; done) | (simp [*]; done)), (by first | rfl | (simp; done) | (simp [*]; done)), H', ⟨by have := HK1.out; omega⟩, by repeat (first | exact Drawn0.refl _ | apply Drawn0.step)⟩
   ·rw [if_neg c4] at H
    have c4b0 : decide (x8_1 < a1) = false := decide_eq_false c4
    clear c4
    obtain rfl := Option.some.inj H
    go_wp2
    go_ret
    exact ⟨by first | rfl | (simp; done) | (simp [*]; done), by repeat (first | exact Drawn0.refl _ | apply Drawn0.step)⟩

/-! ### impl_DateOf: function 37 -/
mutual
def impl_DateOf.l0 : Nat → Int → Int → Int → Option (Int × Int × Int × Int × Int × Bool)
 | 0, _, _, _ => none
 | k + 1, x0, x4, x5 => (impl_daysTo.f k (wrap64 (x5 + 1)) 1 1).bind fun t106 => (if t106 ≤ x4 then (impl_DateOf.l0 k x0 x4 (wrap64 (x5 + 1))) else (impl_DateOf.l1 k x0 x4 x5 1))
def impl_DateOf.l1 : Nat → Int → Int → Int → Int → Option (Int × Int × Int × Int × Int × Bool)
 | 0, _, _, _, _ => none
 | k + 1, x0, x4, x5, x6 => if x6 < 12 then ((impl_daysTo.f k x5 (wrap64 (x6 + 1)) 1).bind fun t107 => (if t107 ≤ x4 then (impl_DateOf.l1 k x0 x4 x5 (wrap64 (x6 + 1))) else ((impl_daysTo.f k x5 x6 1).bind fun t108 => (some (x5, x6, wrap64 ((wrap64 (x4 - t108)) + 1), Int.tmod (wrap64 (Int.tdiv x0 60)) 24, Int.tmod x0 60, true))))) else ((impl_daysTo.f k x5 x6 1).bind fun t109 => (some (x5, x6, wrap64 ((wrap64 (x4 - t109)) + 1), Int.tmod (wrap64 (Int.tdiv x0 60)) 24, Int.tmod x0 60, true)))
end
def impl_DateOf.f (k : Nat) (a0 : Int) : Option (Int × Int × Int × Int × Int × Bool) := (impl_isTime.f a0).bind fun t105 => (if t105 = true then (impl_DateOf.l0 k a0 (wrap64 (Int.tdiv a0 1440)) (wrap64 (2000 + (wrap64 (Int.tdiv (wrap64 (Int.tdiv a0 1440)) 366))))) else (some (0, 0, 0, 0, 0, false)))
theorem impl_DateOf.mono_l : ∀ k, (∀ y0 y1 y2, LeO (impl_DateOf.l0 k y0 y1 y2) (impl_DateOf.l0 (k + 1) y0 y1 y2)) ∧ (∀ y0 y1 y2 y3, LeO (impl_DateOf.l1 k y0 y1 y2 y3) (impl_DateOf.l1 (k + 1) y0 y1 y2 y3))
 | 0 => ⟨fun _ _ _ r h => by simp [impl_DateOf.l0] at h, fun _ _ _ _ r h => by simp [impl_DateOf.l1] at h⟩
 | k + 1 => by
  obtain ⟨ih0, ih1⟩ := impl_DateOf.mono_l k
  refine ⟨?_, ?_⟩
  ·intro y0 y1 y2
   unfold impl_DateOf.l0
   repeat' first
   | (with_reducible exact ih0 _ _ _)
   | (with_reducible exact ih1 _ _ _ _)
   | (with_reducible exact impl_daysTo.mono _ _ _ _)
   | (with_reducible exact LeO.refl _)
   | (with_reducible exact LeO.none _)
   | (with_reducible refine LeO.ite ?_ ?_)
   | (with_reducible refine LeO.bind ?_ (fun _ => ?_))
   | exact ih0 _ _ _
   | exact ih1 _ _ _ _
   | exact impl_daysTo.mono _ _ _ _
   | exact LeO.none _
   | refine LeO.ite ?_ ?_
   | refine LeO.bind ?_ (fun _ => ?_)
  ·intro y0 y1 y2 y3
   unfold impl_DateOf.l1
   repeat' first
   | (with_reducible exact ih0 _ _ _)
   | (with_reducible exact ih1 _ _ _ _)
   | (with_reducible exact impl_daysTo.mono _ _ _ _)
   | (with_reducible exact LeO.refl _)
   | (with_reducible exact LeO.none _)
   | (with_reducible refine LeO.ite ?_ ?_)
   | (with_reducible refine LeO.bind ?_ (fun _ => ?_))
   | exact ih0 _ _ _
   | exact ih1 _ _ _ _
   | exact impl_daysTo.mono _ _ _ _
   | exact LeO.none _
   | refine LeO.ite ?_ ?_
   | refine LeO.bind ?_ (fun _ => ?_)
theorem impl_DateOf.mono : ∀ a0 k, LeO (impl_DateOf.f k a0) (impl_DateOf.f (k + 1) a0) := by
 intro a0 k
 obtain ⟨ih0, ih1⟩ := impl_DateOf.mono_l k
 unfold impl_DateOf.f
 repeat' first
   | (with_reducible exact ih0 _ _ _)
   | (with_reducible exact ih1 _ _ _ _)
   | (with_reducible exact impl_daysTo.mono _ _ _ _)
   | (with_reducible exact LeO.refl _)
   | (with_reducible exact LeO.none _)
   | (with_reducible refine LeO.ite ?_ ?_)
   | (with_reducible refine LeO.bind ?_ (fun _ => ?_))
   | exact ih0 _ _ _
   | exact ih1 _ _ _ _
   | exact impl_daysTo.mono _ _ _ _
   | exact LeO.none _
   | refine LeO.ite ?_ ?_
   | refine LeO.bind ?_ (fun _ => ?_)
set_option maxHeartbeats 8000000 in
set_option maxRecDepth 100000 in
theorem impl_DateOf.calls (k : Nat) (a0 : Int) (r1 : Int) (r2 : Int) (r3 : Int) (r4 : Int) (r5 : Int) (r6 : Bool) (w : World) (h : impl_DateOf.f k a0 = some (r1, r2, r3, r4, r5, r6)) :
  Calls Tryd.prog 37 #[.int .i64 a0] w fun e w' => e = .returned (.tuple #[.agg #[.int .i64 r1, .int .i64 r2, .int .i64 r3, .int .i64 r4, .int .i64 r5], .bool r6]) ∧ Below w.heap.size w w' := by
 have hu64 := Tryd.underlying64
 have HB := am (Below.refl w.heap.size w)
 have H : ((impl_isTime.f a0).bind fun t105 => (if t105 = true then (impl_DateOf.l0 k a0 (wrap64 (Int.tdiv a0 1440)) (wrap64 (2000 + (wrap64 (Int.tdiv (wrap64 (Int.tdiv a0 1440)) 366))))) else (some (0, 0, 0, 0, 0, false)))) = some (r1, r2, r3, r4, r5, r6) := h
 clear h
 replace H := Option.bind_eq_some_iff.mp H
 obtain ⟨t105, A20, H⟩ := H
 replace H : (if t105 = true then (impl_DateOf.l0 k a0 (wrap64 (Int.tdiv a0 1440)) (wrap64 (2000 + (wrap64 (Int.tdiv (wrap64 (Int.tdiv a0 1440)) 366))))) else (some (0, 0, 0, 0, 0, false))) = some (r1, r2, r3, r4, r5, r6) := H
 have A2 := am A20
 clear A20
 by_cases c3 : t105 = true
 ·subst c3
  have H1 : (impl_DateOf.l0 k a0 (wrap64 (Int.tdiv a0 1440)) (wrap64 (2000 + (wrap64 (Int.tdiv (wrap64 (Int.tdiv a0 1440)) 366))))) = some (r1, r2, r3, r4, r5, r6) := by rw [if_pos rfl] at H; exact H
  clear H
  have H := H1
  clear H1
  have H' := am H
  clear H
  go_enter Tryd.func37, Tryd.ntmps37
  go_wp2_with (first | ((with_reducible refine gate_dst (N := 2) rfl ?_); refine box_event ?hg (N := 2) ?hd (cs := #[.int .i64 0, .int .i64 0, .int .i64 0, .int .i64 0, .int .i64 0]) (t := 64) ?hr ?_; (case hd => rfl); (case hg => rfl); (case hr => first | (go_simp; done) | (go_simp; rfl)); intro gb104 hg w4 hbox hb; have n0_ := am (below_step (bl HB) hb); have n1_ := am (hbox); have n2_ := am ((by rw [hg]; exact (below_size (bl HB)) : w.heap.size ≤ gb104)); have n3_ := am ((by rw [hg]; exact (below_size (bl HB)) : w.heap.size ≤ gb104)); clear HB; have HB := n0_; have BK104 := n1_; have GW104 := n2_; have GE104 := n3_; clear n0_ n1_ n2_ n3_; clear hb hbox hg) | ((with_reducible refine gate_callee (f := 92) rfl ?_); refine goesL_ (some 8) rfl rfl Tryd.func92 (by kernel_rfl) rfl #[.int .i64 a0] rfl (by (try simp only [List.map_toArray, List.map_cons, List.map_nil]); first | done | rfl | (simp only [List.length_drop, List.length_take]; rfl)) ?_; (with_reducible refine (impl_isTime.calls a0 true _ A2.out).mono ?_); rintro e w' ⟨rfl, ⟨nd, rfl⟩⟩; refine ⟨_, rfl, ?_⟩))
  go_loopg [5] k (fun kq v5 w' => ∃ (x5_1 : Int), v5 = .int .i64 x5_1 ∧ Aside0 (impl_DateOf.l0 kq a0 (wrap64 (Int.tdiv a0 1440)) x5_1 = some (r1, r2, r3, r4, r5, r6)) ∧ Aside0 (kq ≤ k) ∧ Aside0 (w'.heap[gb104]? = some (.cells #[.int .i64 0, .int .i64 0, .int .i64 0, .int .i64 0, .int .i64 0] 64 (0, 0))) ∧ Aside0 (Below w.heap.size w w'))
  case atStart => exact ⟨(wrap64 (2000 + (wrap64 (Int.tdiv (wrap64 (Int.tdiv a0 1440)) 366)))), (by first | rfl | (simp; done) | (simp [*]; done)), H', ⟨Nat.le_refl _⟩, ⟨pk BK104⟩, ⟨bl HB⟩⟩
  case round =>
   clear H'
   try clear p2
   try clear c3
   obtain ⟨x5_1, rfl, HA, HK1, BK104, HB⟩ := hrel
   cases gk with
   | zero => exact absurd HA.out (by simp [impl_DateOf.l0])
   | succ k1 =>
    have H := HA.out
    clear HA
    simp only [impl_DateOf.l0] at H
    replace H := Option.bind_eq_some_iff.mp H
    obtain ⟨t106, A50, H⟩ := H
    replace H : (if t106 ≤ (wrap64 (Int.tdiv a0 1440)) then (impl_DateOf.l0 k1 a0 (wrap64 (Int.tdiv a0 1440)) (wrap64 (x5_1 + 1))) else (impl_DateOf.l1 k1 a0 (wrap64 (Int.tdiv a0 1440)) x5_1 1)) = some (r1, r2, r3, r4, r5, r6) := H
    have A5 := am A50
    clear A50
    by_cases c6 : t106 ≤ (wrap64 (Int.tdiv a0 1440))
    ·rw [if_pos c6] at H
     have c6b0 : decide (t106 ≤ (wrap64 (Int.tdiv a0 1440))) = true := decide_eq_true c6
     clear c6
     have H' := am H
     clear H
     go_wp2_with (first | ((with_reducible refine gate_callee (f := 93) rfl ?_); refine goesL_ (some 18) rfl rfl Tryd.func93 (by kernel_rfl) rfl #[.int .i64 (wrap64 (x5_1 + 1)), .int .i64 1, .int .i64 1] rfl (by (try simp only [List.map_toArray, List.map_cons, List.map_nil]); first | done | rfl | (simp only [List.length_drop, List.length_take]; rfl)) ?_; (with_reducible refine (impl_daysTo.calls k1 (wrap64 (x5_1 + 1)) 1 1 t106 _ A5.out).mono ?_); rintro e w' ⟨rfl, ⟨nd, rfl⟩⟩; refine ⟨_, rfl, ?_⟩))
     go_roundg k1
     case measure => have := HK1.out; omega
     case rel => exact ⟨(wrap64 (x5_1 + 1)), (by first | rfl | (simp; done) | (simp [*]; done)), H', ⟨by have := HK1.out; omega⟩, ⟨pk BK104⟩, ⟨bl HB⟩⟩
    ·rw [if_neg c6] at H
     have c6b0 : decide (t106 ≤ (wrap64 (Int.tdiv a0 1440))) = false := decide_eq_false c6
     clear c6
     have H' := am H
     clear H
     go_wp2_with (first | ((with_reducible refine gate_callee (f := 93) rfl ?_); refine goesL_ (some 18) rfl rfl Tryd.func93 (by kernel_rfl) rfl #[.int .i64 (wrap64 (x5_1 + 1)), .int .i64 1, .int .i64 1] rfl (by (try simp only [List.map_toArray, List.map_cons, List.map_nil]); first | done | rfl | (simp only [List.length_drop, List.length_take]; rfl)) ?_; (with_reducible refine (impl_daysTo.calls k1 (wrap64 (x5_1 + 1)) 1 1 t106 _ A5.out).mono ?_); rintro e w' ⟨rfl, ⟨nd, rfl⟩⟩; refine ⟨_, rfl, ?_⟩))
     go_loopg [6] k1 (fun kq v6 w' => ∃ (x6_2 : Int), v6 = .int .i64 x6_2 ∧ Aside0 (impl_DateOf.l1 kq a0 (wrap64 (Int.tdiv a0 1440)) x5_1 x6_2 = some (r1, r2, r3, r4, r5, r6)) ∧ Aside0 (kq ≤ k1) ∧ Aside0 (w'.heap[gb104]? = some (.cells #[.int .i64 0, .int .i64 0, .int .i64 0, .int .i64 0, .int .i64 0] 64 (0, 0))) ∧ Aside0 (Below w.heap.size w w'))
     case atStart => exact ⟨(1), (by first | rfl | (simp; done) | (simp [*]; done)), H', ⟨Nat.le_refl _⟩, ⟨pk BK104⟩, ⟨bl HB⟩⟩
     case round =>
      clear H'
      try clear p2
      try clear c3
      try clear c6
      try clear c6b0
      try clear p6
      try clear p2
      obtain ⟨x6_2, rfl, HA, HK2, BK104, HB⟩ := hrel
      cases gk with
      | zero => exact absurd HA.out (by simp [impl_DateOf.l1])
      | succ k2 =>
       have H := HA.out
       clear HA
       simp only [impl_DateOf.l1] at H
       by_cases c7 : x6_2 < 12
       ·rw [if_pos c7] at H
        have c7b0 : decide (x6_2 < 12) = true := decide_eq_true c7
        clear c7
        replace H := Option.bind_eq_some_iff.mp H
        obtain ⟨t107, A80, H⟩ := H
        replace H : (if t107 ≤ (wrap64 (Int.tdiv a0 1440)) then (impl_DateOf.l1 k2 a0 (wrap64 (Int.tdiv a0 1440)) x5_1 (wrap64 (x6_2 + 1))) else ((impl_daysTo.f k2 x5_1 x6_2 1).bind fun t108 => (some (x5_1, x6_2, wrap64 ((wrap64 ((wrap64 (Int.tdiv a0 1440)) - t108)) + 1), Int.tmod (wrap64 (Int.tdiv a0 60)) 24, Int.tmod a0 60, true)))) = some (r1, r2, r3, r4, r5, r6) := H
        have A8 := am A80
        clear A80
        by_cases c9 : t107 ≤ (wrap64 (Int.tdiv a0 1440))
        ·rw [if_pos c9] at H
         have c9b0 : decide (t107 ≤ (wrap64 (Int.tdiv a0 1440))) = true := decide_eq_true c9
         clear c9
         have H' := am H
         clear H
         go_wp2_with (first | (go_at_call 93; (with_reducible refine (impl_daysTo.calls k2 x5_1 (wrap64 (x6_2 + 1)) 1 t107 _ A8.out).mono ?_); rintro e w' ⟨rfl, ⟨nd, rfl⟩⟩))
         go_roundg k2
         case measure => have := HK1.out; have := HK2.out; omega
         case rel => exact ⟨(wrap64 (x6_2 + 1)), (by first | rfl | (simp; done) | (simp [*]; done)), H', ⟨by have := HK1.out; have := HK2.out; omega⟩, ⟨pk BK104⟩, ⟨bl HB⟩⟩
        ·rw [if_neg c9] at H
         have c9b0 : decide (t107 ≤ (wrap64 (Int.tdiv a0 1440))) = false := decide_eq_false c9
         clear c9
         replace H := Option.bind_eq_some_iff.mp H
         obtain ⟨t108, A100, H⟩ := H
         replace H : (some (x5_1, x6_2, wrap64 ((wrap64 ((wrap64 (Int.tdiv a0 1440)) - t108)) + 1), Int.tmod (wrap64 (Int.tdiv a0 60)) 24, Int.tmod a0 60, true)) = some (r1, r2, r3, r4, r5, r6) := H
         have A10 := am A100
         clear A100
         simp only [Option.some.injEq, Prod.mk.injEq] at H
         obtain ⟨rfl, rfl, rfl, rfl, rfl, rfl⟩ := H
         go_wp2_with (first | (go_at_call 93; (with_reducible refine (impl_daysTo.calls k2 x5_1 (wrap64 (x6_2 + 1)) 1 t107 _ A8.out).mono ?_); rintro e w' ⟨rfl, ⟨nd, rfl⟩⟩; (repeat (rw [drewN_self wr]; generalize hq_ : World.drewN wr _ = wr; have n0_ : Aside0 (wr.heap[gb104]? = some (.cells #[.int .i64 0, .int .i64 0, .int .i64 0, .int .i64 0, .int .i64 0] 64 (0, 0))) := ⟨by rw [← hq_]; exact (pk BK104)⟩; have n1_ : Aside0 (Below w.heap.size w wr) := ⟨by rw [← hq_]; exact (bl HB)⟩; clear BK104 HB hq_; have BK104 := n0_; have HB := n1_; clear n0_ n1_; have hy104 := cells5 BK104))) | ((with_reducible refine gate_callee (f := 93) rfl ?_); refine goesL_ (some 40) rfl rfl Tryd.func93 (by kernel_rfl) rfl #[.int .i64 x5_1, .int .i64 x6_2, .int .i64 1] rfl (by (try simp only [List.map_toArray, List.map_cons, List.map_nil]); first | done | rfl | (simp only [List.length_drop, List.length_take]; rfl)) ?_; (with_reducible refine (impl_daysTo.calls k2 x5_1 x6_2 1 t108 _ A10.out).mono ?_); rintro e w' ⟨rfl, ⟨nd, rfl⟩⟩; refine ⟨_, rfl, ?_⟩; (repeat (rw [drewN_self wr]; generalize hq_ : World.drewN wr _ = wr; have n0_ : Aside0 (wr.heap[gb104]? = some (.cells #[.int .i64 0, .int .i64 0, .int .i64 0, .int .i64 0, .int .i64 0] 64 (0, 0))) := ⟨by rw [← hq_]; exact (pk BK104)⟩; have n1_ : Aside0 (Below w.heap.size w wr) := ⟨by rw [← hq_]; exact (bl HB)⟩; clear BK104 HB hq_; have BK104 := n0_; have HB := n1_; clear n0_ n1_; have hy104 := cells5 BK104)); have hz11 := cells5 BK104))
         refine bodyPost_ret (results_ct rfl _ _ gb104 64 #[.int .i64 x5_1, .int .i64 x6_2, .int .i64 (wrap64 ((wrap64 ((wrap64 (Int.tdiv a0 1440)) - t108)) + 1)), .int .i64 (Int.tmod (wrap64 (Int.tdiv a0 60)) 24), .int .i64 (Int.tmod a0 60)] (0, 0) _ rfl (by (with_reducible repeat (first | refine blk_drewN ?_ _ | refine blk_drew ?_ | refine blk_alloc ?_ _)); refine blk_put (cs := #[.int .i64 x5_1, .int .i64 x6_2, .int .i64 (wrap64 ((wrap64 ((wrap64 (Int.tdiv a0 1440)) - t108)) + 1)), .int .i64 (Int.tmod (wrap64 (Int.tdiv a0 60)) 24), .int .i64 0]) ?_ 4 _ (by first | rfl | simp [bne]); (with_reducible repeat (first | refine blk_drewN ?_ _ | refine blk_drew ?_ | refine blk_alloc ?_ _)); refine blk_put (cs := #[.int .i64 x5_1, .int .i64 x6_2, .int .i64 (wrap64 ((wrap64 ((wrap64 (Int.tdiv a0 1440)) - t108)) + 1)), .int .i64 0, .int .i64 0]) ?_ 3 _ (by first | rfl | simp [bne]); (with_reducible repeat (first | refine blk_drewN ?_ _ | refine blk_drew ?_ | refine blk_alloc ?_ _)); refine blk_put (cs := #[.int .i64 x5_1, .int .i64 x6_2, .int .i64 0, .int .i64 0, .int .i64 0]) ?_ 2 _ (by first | rfl | simp [bne]); (with_reducible repeat (first | refine blk_drewN ?_ _ | refine blk_drew ?_ | refine blk_alloc ?_ _)); refine blk_put (cs := #[.int .i64 x5_1, .int .i64 0, .int .i64 0, .int .i64 0, .int .i64 0]) ?_ 1 _ (by first | rfl | simp [bne]); (with_reducible repeat (first | refine blk_drewN ?_ _ | refine blk_drew ?_ | refine blk_alloc ?_ _)); refine blk_put (cs := #[.int .i64 0, .int .i64 0, .int .i64 0, .int .i64 0, .int .i64 0]) ?_ 0 _ (by first | rfl | simp [bne]); (with_reducible repeat (first | refine blk_drewN ?_ _ | refine blk_drew ?_ | refine blk_alloc ?_ _)); exact BK104.out) Tryd.underlying64 rfl (by kernel_rfl)) rfl ?_
         exact ⟨by first | rfl | (simp [errW_none, errW_some] <;> rfl) | (simp [*, errW_none, errW_some] <;> rfl), bl HB⟩
       ·rw [if_neg c7] at H
        have c7b0 : decide (x6_2 < 12) = false := decide_eq_false c7
        clear c7
        replace H := Option.bind_eq_some_iff.mp H
        obtain ⟨t109, A120, H⟩ := H
        replace H : (some (x5_1, x6_2, wrap64 ((wrap64 ((wrap64 (Int.tdiv a0 1440)) - t109)) + 1), Int.tmod (wrap64 (Int.tdiv a0 60)) 24, Int.tmod a0 60, true)) = some (r1, r2, r3, r4, r5, r6) := H
        have A12 := am A120
        clear A120
        simp only [Option.some.injEq, Prod.mk.injEq] at H
        obtain ⟨rfl, rfl, rfl, rfl, rfl, rfl⟩ := H
        go_wp2_with (first | ((with_reducible refine gate_callee (f := 93) rfl ?_); refine goesL_ (some 40) rfl rfl Tryd.func93 (by kernel_rfl) rfl #[.int .i64 x5_1, .int .i64 x6_2, .int .i64 1] rfl (by (try simp only [List.map_toArray, List.map_cons, List.map_nil]); first | done | rfl | (simp only [List.length_drop, List.length_take]; rfl)) ?_; (with_reducible refine (impl_daysTo.calls k2 x5_1 x6_2 1 t109 _ A12.out).mono ?_); rintro e w' ⟨rfl, ⟨nd, rfl⟩⟩; refine ⟨_, rfl, ?_⟩; (repeat (rw [drewN_self wr]; generalize hq_ : World.drewN wr _ = wr; have n0_ : Aside0 (wr.heap[gb104]? = some (.cells #[.int .i64 0, .int .i64 0, .int .i64 0, .int .i64 0, .int .i64 0] 64 (0, 0))) := ⟨by rw [← hq_]; exact (pk BK104)⟩; have n1_ : Aside0 (Below w.heap.size w wr) := ⟨by rw [← hq_]; exact (bl HB)⟩; clear BK104 HB hq_; have BK104 := n0_; have HB := n1_; clear n0_ n1_; have hy104 := cells5 BK104)); have hz13 := cells5 BK104))
        refine bodyPost_ret (results_ct rfl _ _ gb104 64 #[.int .i64 x5_1, .int .i64 x6_2, .int .i64 (wrap64 ((wrap64 ((wrap64 (Int.tdiv a0 1440)) - t109)) + 1)), .int .i64 (Int.tmod (wrap64 (Int.tdiv a0 60)) 24), .int .i64 (Int.tmod a0 60)] (0, 0) _ rfl (by (with_reducible repeat (first | refine blk_drewN ?_ _ | refine blk_drew ?_ | refine blk_alloc ?_ _)); refine blk_put (cs := #[.int .i64 x5_1, .int .i64 x6_2, .int .i64 (wrap64 ((wrap64 ((wrap64 (Int.tdiv a0 1440)) - t109)) + 1)), .int .i64 (Int.tmod (wrap64 (Int.tdiv a0 60)) 24), .int .i64 0]) ?_ 4 _ (by first | rfl | simp [bne]); (with_reducible repeat (first | refine blk_drewN ?_ _ | refine blk_drew ?_ | refine blk_alloc ?_ _)); refine blk_put (cs := #[.int .i64 x5_1, .int .i64 x6_2, .int .i64 (wrap64 ((wrap64 ((wrap64 (Int.tdiv a0 1440)) - t109)) + 1)), .int .i64 0, .int .i64 0]) ?_ 3 _ (by first | rfl | simp [bne]); (with_reducible repeat (first | refine blk_drewN ?_ _ | refine blk_drew ?_ | refine blk_alloc ?_ _)); refine blk_put (cs := #[.int .i64 x5_1, .int .i64 x6_2, .int .i64 0, .int .i64 0, .int .i64 0]) ?_ 2 _ (by first | rfl | simp [bne]); (with_reducible repeat (first | refine blk_drewN ?_ _ | refine blk_drew ?_ | refine blk_alloc ?_ _)); refine blk_put (cs := #[.int .i64 x5_1, .int .i64 0, .int .i64 0, .int .i64 0, .int .i64 0]) ?_ 1 _ (by first | rfl | simp [bne]); (with_reducible repeat (first | refine blk_drewN ?_ _ | refine blk_drew ?_ | refine blk_alloc ?_ _)); refine blk_put (cs := #[.int .i64 0, .int .i64 0, .int .i64 0, .int .i64 0, .int .i64 0]) ?_ 0 _ (by first | rfl | simp [bne]); (with_reducible repeat (first | refine blk_drewN ?_ _ | refine blk_drew ?_ | refine blk_alloc ?_ _)); exact BK104.out) Tryd.underlying64 rfl (by kernel_rfl)) rfl ?_
        exact ⟨by first | rfl | (simp [errW_none, errW_some] <;> rfl) | (simp [*, errW_none, errW_some] <;> rfl), bl HB⟩
 ·replace c3 := Bool.eq_false_iff.mpr c3
  subst c3
  have H1 : (some (0, 0, 0, 0, 0, false)) = some (r1, r2, r3, r4, r5, r6) := by rw [if_neg (show ¬ (false = true) by decide)] at H; exact H
  clear H
  have H := H1
  clear H1
  simp only [Option.some.injEq, Prod.mk.injEq] at H
  obtain ⟨rfl, rfl, rfl, rfl, rfl, rfl⟩ := H
  go_enter Tryd.func37, Tryd.ntmps37
  go_wp2_with (first | ((with_reducible refine gate_dst (N := 2) rfl ?_); refine box_event ?hg (N := 2) ?hd (cs := #[.int .i64 0, .int .i64 0, .int .i64 0, .int .i64 0, .int .i64 0]) (t := 64) ?hr ?_; (case hd => rfl); (case hg => rfl); (case hr => first | (go_simp; done) | (go_simp; rfl)); intro gb104 hg w14 hbox hb; have n0_ := am (below_step (bl HB) hb); have n1_ := am (hbox); have n2_ := am ((by rw [hg]; exact (below_size (bl HB)) : w.heap.size ≤ gb104)); have n3_ := am ((by rw [hg]; exact (below_size (bl HB)) : w.heap.size ≤ gb104)); clear HB; have HB := n0_; have BK104 := n1_; have GW104 := n2_; have GE104 := n3_; clear n0_ n1_ n2_ n3_; clear hb hbox hg) | ((with_reducible refine gate_callee (f := 92) rfl ?_); refine goesL_ (some 8) rfl rfl Tryd.func92 (by kernel_rfl) rfl #[.int .i64 a0] rfl (by (try simp only [List.map_toArray, List.map_cons, List.map_nil]); first | done | rfl | (simp only [List.length_drop, List.length_take]; rfl)) ?_; (with_reducible refine (impl_isTime.calls a0 false _ A2.out).mono ?_); rintro e w' ⟨rfl, ⟨nd, rfl⟩⟩; refine ⟨_, rfl, ?_⟩; (repeat (rw [drewN_self w14]; generalize hq_ : World.drewN w14 _ = w14; have n0_ : Aside0 (w14.heap[gb104]? = some (.cells #[.int .i64 0, .int .i64 0, .int .i64 0, .int .i64 0, .int .i64 0] 64 (0, 0))) := ⟨by rw [← hq_]; exact (pk BK104)⟩; have n1_ : Aside0 (Below w.heap.size w w14) := ⟨by rw [← hq_]; exact (bl HB)⟩; clear BK104 HB hq_; have BK104 := n0_; have HB := n1_; clear n0_ n1_; have hy104 := cells5 BK104)); have hz15 := cells5 BK104))
  refine bodyPost_ret (results_ct rfl _ _ gb104 64 #[.int .i64 0, .int .i64 0, .int .i64 0, .int .i64 0, .int .i64 0] (0, 0) _ rfl (by (with_reducible repeat (first | refine blk_drewN ?_ _ | refine blk_drew ?_ | refine blk_alloc ?_ _)); refine blk_put (cs := #[.int .i64 0, .int .i64 0, .int .i64 0, .int .i64 0, .int .i64 0]) ?_ 4 _ (by first | rfl | simp [bne]); (with_reducible repeat (first | refine blk_drewN ?_ _ | refine blk_drew ?_ | refine blk_alloc ?_ _)); refine blk_put (cs := #[.int .i64 0, .int .i64 0, .int .i64 0, .int .i64 0, .int .i64 0]) ?_ 3 _ (by first | rfl | simp [bne]); (with_reducible repeat (first | refine blk_drewN ?_ _ | refine blk_drew ?_ | refine blk_alloc ?_ _)); refine blk_put (cs := #[.int .i64 0, .int .i64 0, .int .i64 0, .int .i64 0, .int .i64 0]) ?_ 2 _ (by first | rfl | simp [bne]); (with_reducible repeat (first | refine blk_drewN ?_ _ | refine blk_drew ?_ | refine blk_alloc ?_ _)); refine blk_put (cs := #[.int .i64 0, .int .i64 0, .int .i64 0, .int .i64 0, .int .i64 0]) ?_ 1 _ (by first | rfl | simp [bne]); (with_reducible repeat (first | refine blk_drewN ?_ _ | refine blk_drew ?_ | refine blk_alloc ?_ _)); refine blk_put (cs := #[.int .i64 0, .int .i64 0, .int .i64 0, .int .i64 0, .int .i64 0]) ?_ 0 _ (by first | rfl | simp [bne]); (with_reducible repeat (first | refine blk_drewN ?_ _ | refine blk_drew ?_ | refine blk_alloc ?_ _)); exact BK104.out) Tryd.underlying64 rfl (by kernel_rfl)) rfl ?_
  exact ⟨by first | rfl | (simp [errW_none, errW_some] <;> rfl) | (simp [*, errW_none, errW_some] <;> rfl), bl HB⟩

-- BY HAND: function 133 (strconv_FormatInt)

/-! ### impl_dec: function 78 -/
def impl_dec.f (a0 : Int) : Option (ByteArray) := (strconv_FormatInt.f a0 10).bind fun t110 => (some t110)
set_option maxHeartbeats 8000000 in
set_option maxRecDepth 100000 in
theorem impl_dec.calls (a0 : Int) (r : ByteArray) (w : World) (hGpow : Gpow w) (h : impl_dec.f a0 = some r) :
  Calls Tryd.prog 78 #[.int .i64 a0] w fun e w' => e = .returned (.string r) ∧ Below w.heap.size w w' := by
 have HGpow := am hGpow
 clear hGpow
 have HB := am (Below.refl w.heap.size w)
 have H : ((strconv_FormatInt.f a0 10).bind fun t110 => (some t110)) = some r := h
 clear h
 replace H := Option.bind_eq_some_iff.mp H
 obtain ⟨t110, A20, H⟩ := H
 replace H : (some t110) = some r := H
 have A2 := am A20
 clear A20
 obtain rfl := Option.some.inj H
 go_enter Tryd.func78, Tryd.ntmps78
 go_wp2_with (first | ((with_reducible refine gate_callee (f := 133) rfl ?_); refine goesL_ (some 4) rfl rfl Tryd.func133 (by kernel_rfl) rfl #[.int .i64 a0, .int .i64 10] rfl (by (try simp only [List.map_toArray, List.map_cons, List.map_nil]); first | done | rfl | (simp only [List.length_drop, List.length_take]; rfl)) ?_; (with_reducible refine (strconv_FormatInt.calls a0 10 t110 _ ?side1 A2.out).mono ?_); (case side1 => exact Gpow.below HGpow.out (bl HB)); rintro e w3 ⟨rfl, hb⟩; refine ⟨_, rfl, ?_⟩; have n0_ := am (below_step (bl HB) hb); clear HB; have HB := n0_; clear n0_; (try clear hb); (try clear hb2); (try clear hk); (try clear hi)))
 go_ret
 exact ⟨by first | rfl | (simp [errW_none, errW_some] <;> rfl) | (simp [*, errW_none, errW_some] <;> rfl), bl HB⟩

-- BY HAND: function 134 (strings_Repeat)

/-! ### impl_fill: function 79 -/
def impl_fill.f (a0 : Int) (a1 : Int) : Option (ByteArray) := (impl_dec.f a0).bind fun t111 => ((strings_Repeat.f (⟨#[48]⟩ : ByteArray) (mx 0 (wrap64 (a1 - (t111.size : Int))))).bind fun t112 => (if t112.size + t111.size ≤ 9223372036854775807 then (some (t112 ++ t111)) else (none)))
set_option maxHeartbeats 8000000 in
set_option maxRecDepth 100000 in
theorem impl_fill.calls (a0 : Int) (a1 : Int) (r : ByteArray) (w : World) (hGpow : Gpow w) (h : impl_fill.f a0 a1 = some r) :
  Calls Tryd.prog 79 #[.int .i64 a0, .int .i64 a1] w fun e w' => e = .returned (.string r) ∧ Below w.heap.size w w' := by
 have HGpow := am hGpow
 clear hGpow
 have HB := am (Below.refl w.heap.size w)
 have H : ((impl_dec.f a0).bind fun t111 => ((strings_Repeat.f (⟨#[48]⟩ : ByteArray) (mx 0 (wrap64 (a1 - (t111.size : Int))))).bind fun t112 => (if t112.size + t111.size ≤ 9223372036854775807 then (some (t112 ++ t111)) else (none)))) = some r := h
 clear h
 replace H := Option.bind_eq_some_iff.mp H
 obtain ⟨t111, A30, H⟩ := H
 replace H : ((strings_Repeat.f (⟨#[48]⟩ : ByteArray) (mx 0 (wrap64 (a1 - (t111.size : Int))))).bind fun t112 => (if t112.size + t111.size ≤ 9223372036854775807 then (some (t112 ++ t111)) else (none))) = some r := H
 have A3 := am A30
 clear A30
 obtain ⟨ji4, hji4⟩ : ∃ j_ : Int, (mx 0 (wrap64 (a1 - (t111.size : Int)))) = j_ := ⟨_, rfl⟩
 replace H : ((strings_Repeat.f (⟨#[48]⟩ : ByteArray) (ji4)).bind fun t112 => (if t112.size + t111.size ≤ 9223372036854775807 then (some (t112 ++ t111)) else (none))) = some r := by first | (rw [hji4] at H; exact H) | (simp only [hji4] at H ⊢; exact H)
 (try rw [hji4] at A3)
 (try (have hji4l : 0 ≤ ji4 := by (rw [← hji4]; unfold mx; (repeat' split) <;> omega)))
 (try (have hji4m : 0 ≤ ji4 := by omega))
 have hji4_ : (if 0 < (wrap64 (a1 - (t111.size : Int))) then (wrap64 (a1 - (t111.size : Int))) else 0) = ji4 := hji4
 replace H := Option.bind_eq_some_iff.mp H
 obtain ⟨t112, A50, H⟩ := H
 replace H : (if t112.size + t111.size ≤ 9223372036854775807 then (some (t112 ++ t111)) else (none)) = some r := H
 have A5 := am A50
 clear A50
 by_cases c6 : t112.size + t111.size ≤ 9223372036854775807
 ·rw [if_pos c6] at H
  have c6b0 := eq_true c6
  have c6b1 : decide (t112.size + t111.size ≤ 9223372036854775807) = true := decide_eq_true c6
  try have c6b2 : (9223372036854775807 < t112.size + t111.size) = False := eq_false (Nat.not_lt.2 c6)
  obtain rfl := Option.some.inj H
  go_enter Tryd.func79, Tryd.ntmps79
  go_wp2_with (first | ((with_reducible refine gate_callee (f := 78) rfl ?_); refine goesL_ (some 7) rfl rfl Tryd.func78 (by kernel_rfl) rfl #[.int .i64 a0] rfl (by (try simp only [List.map_toArray, List.map_cons, List.map_nil]); first | done | rfl | (simp only [List.length_drop, List.length_take]; rfl)) ?_; (with_reducible refine (impl_dec.calls a0 t111 _ ?side1 A3.out).mono ?_); (case side1 => exact Gpow.below HGpow.out (bl HB)); rintro e w7 ⟨rfl, hb⟩; refine ⟨_, rfl, ?_⟩; have n0_ := am (below_step (bl HB) hb); clear HB; have HB := n0_; clear n0_; (try clear hb); (try clear hb2); (try clear hk); (try clear hi)) | ((with_reducible refine gate_callee (f := 134) rfl ?_); refine goesL_ (some 13) rfl rfl Tryd.func134 (by kernel_rfl) rfl #[.string (⟨#[48]⟩ : ByteArray), .int .i64 ji4] rfl (by (try simp only [List.map_toArray, List.map_cons, List.map_nil]); first | done | (simp only [hji4]; rfl) | rfl | (simp only [List.length_drop, List.length_take]; rfl)) ?_; (with_reducible refine (strings_Repeat.calls (⟨#[48]⟩ : ByteArray) ji4 t112 _ A5.out).mono ?_); rintro e w8 ⟨rfl, hb⟩; refine ⟨_, rfl, ?_⟩; have n0_ := am (below_step (bl HB) hb); clear HB; have HB := n0_; clear n0_; (try clear hb); (try clear hb2); (try clear hk); (try clear hi)))
  go_ret
  exact ⟨by first | rfl | (simp [errW_none, errW_some] <;> rfl) | (simp only [← hji4]; first | rfl | (simp [errW_none, errW_some] <;> rfl)) | (simp [*, errW_none, errW_some] <;> rfl), bl HB⟩
 ·rw [if_neg c6] at H
  exact absurd H (by simp)

end Go.Proofs.YtmcmkdiefpepnaaDoor.XRS
