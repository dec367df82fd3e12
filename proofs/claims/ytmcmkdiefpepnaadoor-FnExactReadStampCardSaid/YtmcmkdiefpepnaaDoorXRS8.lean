-- By xprint.py, a driver of ours round the kit's printer, out of the translation; Lean checks it.
import Derived.Test.YtmcmkdiefpepnaaDoorXRS0
import Derived.Test.YtmcmkdiefpepnaaDoorXRS5
import Derived.Test.YtmcmkdiefpepnaaDoorXRS6
import Derived.Test.YtmcmkdiefpepnaaDoorXRS7
namespace Go.Proofs.YtmcmkdiefpepnaaDoor.XRS
open Go.Proofs.YtmcmkdiefpepnaaDoor.Ext Go.Proofs.YtmcmkdiefpepnaaDoor.Sq
open Go.RowKit Go.Proofs.YtmcmkdiefpepnaaDoorW.PrintWords Go.Proofs.YtmcmkdiefpepnaaDoorW.PrintLast Go.Proofs.YtmcmkdiefpepnaaDoorW.PrintMore
attribute [local go_sem] max2_int min2_int max_two min_two max_three min_three max_four min_four   -- for this text's walks alone
set_option linter.unusedVariables false
set_option linter.unusedSimpArgs false

/-! ### spec_ReadStamp: function 43 -/
def spec_ReadStamp.f (k : Nat) (a0 : ByteArray) : Option (Int × Bool) := if (a0.size : Int) = 17 then (if 0 ≤ 4 then (if 4 ≤ (a0.size : Int) then ((spec_l2Number.f k (a0.extract 0 4)).bind fun t175 => (if 5 ≤ 7 then (if 7 ≤ (a0.size : Int) then ((spec_l2Number.f k (a0.extract 5 7)).bind fun t176 => (if 8 ≤ 10 then (if 10 ≤ (a0.size : Int) then ((spec_l2Number.f k (a0.extract 8 10)).bind fun t177 => (if 11 ≤ 13 then (if 13 ≤ (a0.size : Int) then ((spec_l2Number.f k (a0.extract 11 13)).bind fun t178 => (if 14 ≤ 16 then (if 16 ≤ (a0.size : Int) then ((spec_l2Number.f k (a0.extract 14 16)).bind fun t179 => ((spec_TimeOf.f k t175 t176 t177 t178 t179).bind fun bt181 => (if bt181.2 = true then ((spec_Stamp.f k bt181.1).bind fun t183 => (if t183.toList = a0.toList then (some (bt181.1, true)) else (some (0, false)))) else (some (0, false))))) else (none)) else (none))) else (none)) else (none))) else (none)) else (none))) else (none)) else (none))) else (none)) else (none)) else (some (0, false))
theorem spec_ReadStamp.mono : ∀ a0 k, LeO (spec_ReadStamp.f k a0) (spec_ReadStamp.f (k + 1) a0) := by
 intro a0 k
 unfold spec_ReadStamp.f
 repeat' first
   | (with_reducible exact spec_Stamp.mono _ _)
   | (with_reducible exact spec_TimeOf.mono _ _ _ _ _ _)
   | (with_reducible exact spec_l2Number.mono _ _)
   | (with_reducible exact LeO.refl _)
   | (with_reducible exact LeO.none _)
   | (with_reducible refine LeO.ite ?_ ?_)
   | (with_reducible refine LeO.bind ?_ (fun _ => ?_))
   | exact spec_Stamp.mono _ _
   | exact spec_TimeOf.mono _ _ _ _ _ _
   | exact spec_l2Number.mono _ _
   | exact LeO.none _
   | refine LeO.ite ?_ ?_
   | refine LeO.bind ?_ (fun _ => ?_)
def spec_ReadStamp.T3 : Bool × List (List Nat × List Nat) := (true, [([], []), ([0], [0]), ([1], [1]), ([], []), ([3], [3]), ([4, 2], [4]), ([], []), ([6], [6]), ([7, 5], [7]), ([], []), ([9], [9]), ([10, 8], [10]), ([], []), ([12], [12]), ([13, 11], [13]), ([2, 5, 8, 11, 14], [2, 5, 8, 11, 14]), ([], []), ([16, 15, 14, 0, 1, 2, 3, 4, 5, 6, 7, 8, 9, 10, 11, 12, 13, 14, 15, 16], [15, 16])])
def spec_ReadStamp.B3 : List Nat := [0, 1, 3, 0, 8, 31, 0, 64, 255, 0, 512, 2047, 0, 4096, 16383, 32767, 0, 131071]
theorem spec_ReadStamp.tab3 : rtab .any (opsOf Tryd.f43 3) = spec_ReadStamp.T3 := by kernel_rfl
theorem spec_ReadStamp.bits3 : waitsOk spec_ReadStamp.T3.2 spec_ReadStamp.B3 = true := by kernel_rfl
set_option maxHeartbeats 8000000 in
set_option maxRecDepth 100000 in
theorem spec_ReadStamp.calls (k : Nat) (a0 : ByteArray) (r1 : Int) (r2 : Bool) (w : World) (h : spec_ReadStamp.f k a0 = some (r1, r2)) :
  Calls Tryd.prog 43 #[.string a0] w fun e w' => e = .returned (.tuple #[.int .i64 r1, .bool r2]) ∧ Below w.heap.size w w' := by
 have hu64 := Tryd.underlying64
 have HB := am (Below.refl w.heap.size w)
 have H : (if (a0.size : Int) = 17 then (if 0 ≤ 4 then (if 4 ≤ (a0.size : Int) then ((spec_l2Number.f k (a0.extract 0 4)).bind fun t175 => (if 5 ≤ 7 then (if 7 ≤ (a0.size : Int) then ((spec_l2Number.f k (a0.extract 5 7)).bind fun t176 => (if 8 ≤ 10 then (if 10 ≤ (a0.size : Int) then ((spec_l2Number.f k (a0.extract 8 10)).bind fun t177 => (if 11 ≤ 13 then (if 13 ≤ (a0.size : Int) then ((spec_l2Number.f k (a0.extract 11 13)).bind fun t178 => (if 14 ≤ 16 then (if 16 ≤ (a0.size : Int) then ((spec_l2Number.f k (a0.extract 14 16)).bind fun t179 => ((spec_TimeOf.f k t175 t176 t177 t178 t179).bind fun bt181 => (if bt181.2 = true then ((spec_Stamp.f k bt181.1).bind fun t183 => (if t183.toList = a0.toList then (some (bt181.1, true)) else (some (0, false)))) else (some (0, false))))) else (none)) else (none))) else (none)) else (none))) else (none)) else (none))) else (none)) else (none))) else (none)) else (none)) else (some (0, false))) = some (r1, r2) := h
 clear h
 by_cases c2 : (a0.size : Int) = 17
 ·rw [if_pos c2] at H
  have c2b0 : ((a0.size : Int) == 17) = true := beq_iff_eq.mpr c2
  have c2b1 : ((a0.size : Int) != 17) = false := bne_eq_false_iff_eq.mpr c2
  clear c2
  by_cases c3 : 0 ≤ 4
  ·rw [if_pos c3] at H
   have c3b0 := eq_true c3
   have c3b1 : decide (0 ≤ 4) = true := decide_eq_true c3
   clear c3
   by_cases c4 : 4 ≤ (a0.size : Int)
   ·rw [if_pos c4] at H
    have c4b0 := eq_true c4
    have c4b1 : decide (4 ≤ (a0.size : Int)) = true := decide_eq_true c4
    clear c4
    replace H := Option.bind_eq_some_iff.mp H
    obtain ⟨t175, A50, H⟩ := H
    replace H : (if 5 ≤ 7 then (if 7 ≤ (a0.size : Int) then ((spec_l2Number.f k (a0.extract 5 7)).bind fun t176 => (if 8 ≤ 10 then (if 10 ≤ (a0.size : Int) then ((spec_l2Number.f k (a0.extract 8 10)).bind fun t177 => (if 11 ≤ 13 then (if 13 ≤ (a0.size : Int) then ((spec_l2Number.f k (a0.extract 11 13)).bind fun t178 => (if 14 ≤ 16 then (if 16 ≤ (a0.size : Int) then ((spec_l2Number.f k (a0.extract 14 16)).bind fun t179 => ((spec_TimeOf.f k t175 t176 t177 t178 t179).bind fun bt181 => (if bt181.2 = true then ((spec_Stamp.f k bt181.1).bind fun t183 => (if t183.toList = a0.toList then (some (bt181.1, true)) else (some (0, false)))) else (some (0, false))))) else (none)) else (none))) else (none)) else (none))) else (none)) else (none))) else (none)) else (none)) = some (r1, r2) := H
    have A5 := am A50
    clear A50
    by_cases c6 : 5 ≤ 7
    ·rw [if_pos c6] at H
     have c6b0 := eq_true c6
     have c6b1 : decide (5 ≤ 7) = true := decide_eq_true c6
     clear c6
     by_cases c7 : 7 ≤ (a0.size : Int)
     ·rw [if_pos c7] at H
      have c7b0 := eq_true c7
      have c7b1 : decide (7 ≤ (a0.size : Int)) = true := decide_eq_true c7
      clear c7
      replace H := Option.bind_eq_some_iff.mp H
      obtain ⟨t176, A80, H⟩ := H
      replace H : (if 8 ≤ 10 then (if 10 ≤ (a0.size : Int) then ((spec_l2Number.f k (a0.extract 8 10)).bind fun t177 => (if 11 ≤ 13 then (if 13 ≤ (a0.size : Int) then ((spec_l2Number.f k (a0.extract 11 13)).bind fun t178 => (if 14 ≤ 16 then (if 16 ≤ (a0.size : Int) then ((spec_l2Number.f k (a0.extract 14 16)).bind fun t179 => ((spec_TimeOf.f k t175 t176 t177 t178 t179).bind fun bt181 => (if bt181.2 = true then ((spec_Stamp.f k bt181.1).bind fun t183 => (if t183.toList = a0.toList then (some (bt181.1, true)) else (some (0, false)))) else (some (0, false))))) else (none)) else (none))) else (none)) else (none))) else (none)) else (none)) = some (r1, r2) := H
      have A8 := am A80
      clear A80
      by_cases c9 : 8 ≤ 10
      ·rw [if_pos c9] at H
       have c9b0 := eq_true c9
       have c9b1 : decide (8 ≤ 10) = true := decide_eq_true c9
       clear c9
       by_cases c10 : 10 ≤ (a0.size : Int)
       ·rw [if_pos c10] at H
        have c10b0 := eq_true c10
        have c10b1 : decide (10 ≤ (a0.size : Int)) = true := decide_eq_true c10
        clear c10
        replace H := Option.bind_eq_some_iff.mp H
        obtain ⟨t177, A110, H⟩ := H
        replace H : (if 11 ≤ 13 then (if 13 ≤ (a0.size : Int) then ((spec_l2Number.f k (a0.extract 11 13)).bind fun t178 => (if 14 ≤ 16 then (if 16 ≤ (a0.size : Int) then ((spec_l2Number.f k (a0.extract 14 16)).bind fun t179 => ((spec_TimeOf.f k t175 t176 t177 t178 t179).bind fun bt181 => (if bt181.2 = true then ((spec_Stamp.f k bt181.1).bind fun t183 => (if t183.toList = a0.toList then (some (bt181.1, true)) else (some (0, false)))) else (some (0, false))))) else (none)) else (none))) else (none)) else (none)) = some (r1, r2) := H
        have A11 := am A110
        clear A110
        by_cases c12 : 11 ≤ 13
        ·rw [if_pos c12] at H
         have c12b0 := eq_true c12
         have c12b1 : decide (11 ≤ 13) = true := decide_eq_true c12
         clear c12
         by_cases c13 : 13 ≤ (a0.size : Int)
         ·rw [if_pos c13] at H
          have c13b0 := eq_true c13
          have c13b1 : decide (13 ≤ (a0.size : Int)) = true := decide_eq_true c13
          clear c13
          replace H := Option.bind_eq_some_iff.mp H
          obtain ⟨t178, A140, H⟩ := H
          replace H : (if 14 ≤ 16 then (if 16 ≤ (a0.size : Int) then ((spec_l2Number.f k (a0.extract 14 16)).bind fun t179 => ((spec_TimeOf.f k t175 t176 t177 t178 t179).bind fun bt181 => (if bt181.2 = true then ((spec_Stamp.f k bt181.1).bind fun t183 => (if t183.toList = a0.toList then (some (bt181.1, true)) else (some (0, false)))) else (some (0, false))))) else (none)) else (none)) = some (r1, r2) := H
          have A14 := am A140
          clear A140
          by_cases c15 : 14 ≤ 16
          ·rw [if_pos c15] at H
           have c15b0 := eq_true c15
           have c15b1 : decide (14 ≤ 16) = true := decide_eq_true c15
           clear c15
           by_cases c16 : 16 ≤ (a0.size : Int)
           ·rw [if_pos c16] at H
            have c16b0 := eq_true c16
            have c16b1 : decide (16 ≤ (a0.size : Int)) = true := decide_eq_true c16
            clear c16
            replace H := Option.bind_eq_some_iff.mp H
            obtain ⟨t179, A170, H⟩ := H
            replace H : ((spec_TimeOf.f k t175 t176 t177 t178 t179).bind fun bt181 => (if bt181.2 = true then ((spec_Stamp.f k bt181.1).bind fun t183 => (if t183.toList = a0.toList then (some (bt181.1, true)) else (some (0, false)))) else (some (0, false)))) = some (r1, r2) := H
            have A17 := am A170
            clear A170
            replace H := Option.bind_eq_some_iff.mp H
            obtain ⟨⟨t181, t182⟩, A180, H⟩ := H
            replace H : (if t182 = true then ((spec_Stamp.f k t181).bind fun t183 => (if t183.toList = a0.toList then (some (t181, true)) else (some (0, false)))) else (some (0, false))) = some (r1, r2) := H
            have A18 := am A180
            clear A180
            by_cases c19 : t182 = true
            ·subst c19
             have H1 : ((spec_Stamp.f k t181).bind fun t183 => (if t183.toList = a0.toList then (some (t181, true)) else (some (0, false)))) = some (r1, r2) := by rw [if_pos rfl] at H; exact H
             clear H
             have H := H1
             clear H1
             replace H := Option.bind_eq_some_iff.mp H
             obtain ⟨t183, A200, H⟩ := H
             replace H : (if t183.toList = a0.toList then (some (t181, true)) else (some (0, false))) = some (r1, r2) := H
             have A20 := am A200
             clear A200
             by_cases c21 : t183.toList = a0.toList
             ·rw [if_pos c21] at H
              have c21b0 : (t183.toList == a0.toList) = true := beq_iff_eq.mpr c21
              have c21b1 : (t183.toList != a0.toList) = false := bne_eq_false_iff_eq.mpr c21
              clear c21
              simp only [Option.some.injEq, Prod.mk.injEq] at H
              obtain ⟨rfl, rfl⟩ := H
              go_enter Tryd.func43, Tryd.ntmps43
              try go_wp2
              have n0_ := am (below_drew1 HB.out)
              clear HB
              have HB := n0_
              clear n0_
              refine start_ (n := 18) (S := fun w' => True) (ds := []) #[false, false, false, false, false, false, false, false, false, false, false, false, false, false, false, false, false, false] (by kernel_rfl) rfl rfl trivial (fun hHeld => ?_); refine with_tabW spec_ReadStamp.tab3 spec_ReadStamp.bits3 (fun HT_ HW_ => ?_)
              generalize w.drew = w22 at HB hHeld ⊢
              refine pure_ (i := 0) (N := some 10) (v := ?_) (a' := ?_) #[true, false, false, false, false, false, false, false, false, false, false, false, false, false, false, false, false, false] rfl rfl (any_of HT_.out (by kernel_rfl)) (fun _ _ _ h => h) (Or.inl ⟨by rfl, ?_⟩) ?_ ?_
              rotate_left
              ·intro w'
               go_simp
               with_reducible rfl
              rotate_left
              ·simp only [Act.put, List.setIfInBounds_toArray, List.set_cons_zero, List.set_cons_succ, i64_w, i32_w]
               rfl
              refine pure_ (i := 1) (N := some 11) (v := ?_) (a' := ?_) #[true, true, false, false, false, false, false, false, false, false, false, false, false, false, false, false, false, false] rfl rfl (any_of HT_.out (by kernel_rfl)) (fun _ _ _ h => h) (Or.inl ⟨by rfl, ?_⟩) ?_ ?_
              rotate_left
              ·intro w'
               go_simp
               with_reducible rfl
              rotate_left
              ·simp only [Act.put, List.setIfInBounds_toArray, List.set_cons_zero, List.set_cons_succ, i64_w, i32_w]
               rfl
              refine pure_ (i := 3) (N := some 13) (v := ?_) (a' := ?_) #[true, true, false, true, false, false, false, false, false, false, false, false, false, false, false, false, false, false] rfl rfl (any_of HT_.out (by kernel_rfl)) (fun _ _ _ h => h) (Or.inl ⟨by rfl, ?_⟩) ?_ ?_
              rotate_left
              ·intro w'
               go_simp
               with_reducible rfl
              rotate_left
              ·simp only [Act.put, List.setIfInBounds_toArray, List.set_cons_zero, List.set_cons_succ, i64_w, i32_w]
               rfl
              refine pure_ (i := 4) (N := some 14) (v := ?_) (a' := ?_) #[true, true, false, true, true, false, false, false, false, false, false, false, false, false, false, false, false, false] rfl rfl (any_of HT_.out (by kernel_rfl)) (fun _ _ _ h => h) (Or.inl ⟨by rfl, ?_⟩) ?_ ?_
              rotate_left
              ·intro w'
               go_simp
               with_reducible rfl
              rotate_left
              ·simp only [Act.put, List.setIfInBounds_toArray, List.set_cons_zero, List.set_cons_succ, i64_w, i32_w]
               rfl
              refine pure_ (i := 6) (N := some 16) (v := ?_) (a' := ?_) #[true, true, false, true, true, false, true, false, false, false, false, false, false, false, false, false, false, false] rfl rfl (any_of HT_.out (by kernel_rfl)) (fun _ _ _ h => h) (Or.inl ⟨by rfl, ?_⟩) ?_ ?_
              rotate_left
              ·intro w'
               go_simp
               with_reducible rfl
              rotate_left
              ·simp only [Act.put, List.setIfInBounds_toArray, List.set_cons_zero, List.set_cons_succ, i64_w, i32_w]
               rfl
              refine pure_ (i := 7) (N := some 17) (v := ?_) (a' := ?_) #[true, true, false, true, true, false, true, true, false, false, false, false, false, false, false, false, false, false] rfl rfl (any_of HT_.out (by kernel_rfl)) (fun _ _ _ h => h) (Or.inl ⟨by rfl, ?_⟩) ?_ ?_
              rotate_left
              ·intro w'
               go_simp
               with_reducible rfl
              rotate_left
              ·simp only [Act.put, List.setIfInBounds_toArray, List.set_cons_zero, List.set_cons_succ, i64_w, i32_w]
               rfl
              refine pure_ (i := 9) (N := some 19) (v := ?_) (a' := ?_) #[true, true, false, true, true, false, true, true, false, true, false, false, false, false, false, false, false, false] rfl rfl (any_of HT_.out (by kernel_rfl)) (fun _ _ _ h => h) (Or.inl ⟨by rfl, ?_⟩) ?_ ?_
              rotate_left
              ·intro w'
               go_simp
               with_reducible rfl
              rotate_left
              ·simp only [Act.put, List.setIfInBounds_toArray, List.set_cons_zero, List.set_cons_succ, i64_w, i32_w]
               rfl
              refine pure_ (i := 10) (N := some 20) (v := ?_) (a' := ?_) #[true, true, false, true, true, false, true, true, false, true, true, false, false, false, false, false, false, false] rfl rfl (any_of HT_.out (by kernel_rfl)) (fun _ _ _ h => h) (Or.inl ⟨by rfl, ?_⟩) ?_ ?_
              rotate_left
              ·intro w'
               go_simp
               with_reducible rfl
              rotate_left
              ·simp only [Act.put, List.setIfInBounds_toArray, List.set_cons_zero, List.set_cons_succ, i64_w, i32_w]
               rfl
              refine pure_ (i := 12) (N := some 22) (v := ?_) (a' := ?_) #[true, true, false, true, true, false, true, true, false, true, true, false, true, false, false, false, false, false] rfl rfl (any_of HT_.out (by kernel_rfl)) (fun _ _ _ h => h) (Or.inl ⟨by rfl, ?_⟩) ?_ ?_
              rotate_left
              ·intro w'
               go_simp
               with_reducible rfl
              rotate_left
              ·simp only [Act.put, List.setIfInBounds_toArray, List.set_cons_zero, List.set_cons_succ, i64_w, i32_w]
               rfl
              refine pure_ (i := 13) (N := some 23) (v := ?_) (a' := ?_) #[true, true, false, true, true, false, true, true, false, true, true, false, true, true, false, false, false, false] rfl rfl (any_of HT_.out (by kernel_rfl)) (fun _ _ _ h => h) (Or.inl ⟨by rfl, ?_⟩) ?_ ?_
              rotate_left
              ·intro w'
               go_simp
               with_reducible rfl
              rotate_left
              ·simp only [Act.put, List.setIfInBounds_toArray, List.set_cons_zero, List.set_cons_succ, i64_w, i32_w]
               rfl
              refine join_ (σ := Nat) 1 #[true, true, true, true, true, true, true, true, true, true, true, true, true, true, true, true, true, false] (fun s_ => [(12, .int .i64 t175), (15, .int .i64 t176), (18, .int .i64 t177), (21, .int .i64 t178), (24, .int .i64 t179), (4, .pointer (some ⟨s_, 0, none⟩)), (25, .agg #[.int .i64 t175, .int .i64 t176, .int .i64 t177, .int .i64 t178, .int .i64 t179])]) (fun s_ w' => (w'.heap[s_]? = some (.cells #[.int .i64 0, .int .i64 0, .int .i64 0, .int .i64 0, .int .i64 0] 64 (0, 0))) ∧ (w.heap.size ≤ s_) ∧ (w.heap.size ≤ s_) ∧ (Below w.heap.size w w')) ?_ ?_
              rotate_left
              ·intro hJ2_5_8_11_14_16
               refine join_ (σ := Unit) 2 #[true, true, true, true, true, true, true, true, true, true, true, true, true, true, true, true, false, false] (fun s_ => [(12, .int .i64 t175), (15, .int .i64 t176), (18, .int .i64 t177), (21, .int .i64 t178), (24, .int .i64 t179), (25, .agg #[.int .i64 t175, .int .i64 t176, .int .i64 t177, .int .i64 t178, .int .i64 t179])]) (fun s_ w' => (Below w.heap.size w w')) ?_ ?_
               rotate_left
               ·intro hJ2_5_8_11_14
                refine join_ (σ := Nat) 3 #[true, true, true, true, true, true, true, true, true, true, true, true, true, true, false, false, true, false] (fun s_ => [(12, .int .i64 t175), (15, .int .i64 t176), (18, .int .i64 t177), (21, .int .i64 t178), (4, .pointer (some ⟨s_, 0, none⟩))]) (fun s_ w' => (w'.heap[s_]? = some (.cells #[.int .i64 0, .int .i64 0, .int .i64 0, .int .i64 0, .int .i64 0] 64 (0, 0))) ∧ (w.heap.size ≤ s_) ∧ (w.heap.size ≤ s_) ∧ (Below w.heap.size w w')) ?_ ?_
                rotate_left
                ·intro hJ2_5_8_11_16
                 refine join_ (σ := Unit) 4 #[true, true, true, true, true, true, true, true, true, true, true, true, true, true, false, false, false, false] (fun s_ => [(12, .int .i64 t175), (15, .int .i64 t176), (18, .int .i64 t177), (21, .int .i64 t178)]) (fun s_ w' => (Below w.heap.size w w')) ?_ ?_
                 rotate_left
                 ·intro hJ2_5_8_11
                  refine join_ (σ := Nat) 4 #[true, true, true, true, true, true, true, true, true, true, true, false, true, true, false, false, true, false] (fun s_ => [(12, .int .i64 t175), (15, .int .i64 t176), (18, .int .i64 t177), (4, .pointer (some ⟨s_, 0, none⟩))]) (fun s_ w' => (w'.heap[s_]? = some (.cells #[.int .i64 0, .int .i64 0, .int .i64 0, .int .i64 0, .int .i64 0] 64 (0, 0))) ∧ (w.heap.size ≤ s_) ∧ (w.heap.size ≤ s_) ∧ (Below w.heap.size w w')) ?_ ?_
                  rotate_left
                  ·intro hJ2_5_8_16
                   refine join_ (σ := Unit) 5 #[true, true, true, true, true, true, true, true, true, true, true, false, true, true, false, false, false, false] (fun s_ => [(12, .int .i64 t175), (15, .int .i64 t176), (18, .int .i64 t177)]) (fun s_ w' => (Below w.heap.size w w')) ?_ ?_
                   rotate_left
                   ·intro hJ2_5_8
                    refine join_ (σ := Nat) 5 #[true, true, true, true, true, true, true, true, false, true, true, false, true, true, false, false, true, false] (fun s_ => [(12, .int .i64 t175), (15, .int .i64 t176), (4, .pointer (some ⟨s_, 0, none⟩))]) (fun s_ w' => (w'.heap[s_]? = some (.cells #[.int .i64 0, .int .i64 0, .int .i64 0, .int .i64 0, .int .i64 0] 64 (0, 0))) ∧ (w.heap.size ≤ s_) ∧ (w.heap.size ≤ s_) ∧ (Below w.heap.size w w')) ?_ ?_
                    rotate_left
                    ·intro hJ2_5_16
                     refine join_ (σ := Unit) 6 #[true, true, true, true, true, true, true, true, false, true, true, false, true, true, false, false, false, false] (fun s_ => [(12, .int .i64 t175), (15, .int .i64 t176)]) (fun s_ w' => (Below w.heap.size w w')) ?_ ?_
                     rotate_left
                     ·intro hJ2_5
                      refine join_ (σ := Nat) 6 #[true, true, true, true, true, false, true, true, false, true, true, false, true, true, false, false, true, false] (fun s_ => [(12, .int .i64 t175), (4, .pointer (some ⟨s_, 0, none⟩))]) (fun s_ w' => (w'.heap[s_]? = some (.cells #[.int .i64 0, .int .i64 0, .int .i64 0, .int .i64 0, .int .i64 0] 64 (0, 0))) ∧ (w.heap.size ≤ s_) ∧ (w.heap.size ≤ s_) ∧ (Below w.heap.size w w')) ?_ ?_
                      rotate_left
                      ·intro hJ2_16
                       refine join_ (σ := Unit) 7 #[true, true, true, true, true, false, true, true, false, true, true, false, true, true, false, false, false, false] (fun s_ => [(12, .int .i64 t175)]) (fun s_ w' => (Below w.heap.size w w')) ?_ ?_
                       rotate_left
                       ·intro hJ2
                        refine join_ (σ := Nat) 7 #[true, true, false, true, true, false, true, true, false, true, true, false, true, true, false, false, true, false] (fun s_ => [(4, .pointer (some ⟨s_, 0, none⟩))]) (fun s_ w' => (w'.heap[s_]? = some (.cells #[.int .i64 0, .int .i64 0, .int .i64 0, .int .i64 0, .int .i64 0] 64 (0, 0))) ∧ (w.heap.size ≤ s_) ∧ (w.heap.size ≤ s_) ∧ (Below w.heap.size w w')) ?_ ?_
                        rotate_left
                        ·intro hJ16
                         refine two_ (i := 2) (j := 16) (Ni := some 12) (Nj := some 4) #[true, true, true, true, true, false, true, true, false, true, true, false, true, true, false, false, false, false] #[true, true, false, true, true, false, true, true, false, true, true, false, true, true, false, false, true, false] rfl rfl rfl rfl (two_of HT_.out (by kernel_rfl)) (by decide) (by decide) (fun K hK => ?_) (fun K hK => ?_)
                         ·skip
                          refine goes_ Tryd.func98 (by kernel_rfl) rfl #[.string (a0.extract 0 4)] (by rfl) rfl rfl (by (try simp only [List.map_toArray, List.map_cons, List.map_nil]); first | done | rfl | (simp only [List.length_drop, List.length_take]; rfl)) ?_
                          with_reducible refine (spec_l2Number.calls k (a0.extract 0 4) t175 _ A5.out).mono ?_
                          rintro e w' ⟨rfl, ⟨nd, rfl⟩⟩
                          refine ⟨_, rfl, ?_⟩
                          refine hK.out _ _ trivial (fun hHeld => ?_)
                          clear hK K
                          refine norm_ (a' := ?_) ?_ ?_
                          rotate_left
                          ·show Act.put _ (some 12) _ = _
                           simp only [Act.put, List.setIfInBounds_toArray, List.set_cons_zero, List.set_cons_succ, i64_w, i32_w]
                           rfl
                          exact norm_ (by first | (simp only [putAll, Act.put, List.setIfInBounds_toArray, List.set_cons_zero, List.set_cons_succ]; done) | (simp only [putAll, Act.put, List.setIfInBounds_toArray, List.set_cons_zero, List.set_cons_succ]; rfl)) (hJ2 () _ (bl HB))
                         ·skip
                          refine box_step ?hg (N := 4) ?hd (cs := #[.int .i64 0, .int .i64 0, .int .i64 0, .int .i64 0, .int .i64 0]) (t := 64) ?hr ?_; (case hd => rfl); (case hg => rfl); (case hr => first | (go_simp; done) | (go_simp; rfl))
                          intro gb180 hg w23 hbox hb
                          have n0_ := am (below_step (bl HB) hb)
                          have n1_ := am (hbox)
                          have n2_ := am ((by rw [hg]; exact (below_size (bl HB)) : w.heap.size ≤ gb180))
                          have n3_ := am ((by rw [hg]; exact (below_size (bl HB)) : w.heap.size ≤ gb180))
                          clear HB
                          have HB := n0_
                          have BK180 := n1_
                          have GW180 := n2_
                          have GE180 := n3_
                          clear n0_ n1_ n2_ n3_
                          clear hb hbox hg
                          refine hK.out _ _ trivial (fun hHeld => ?_)
                          clear hK K
                          refine norm_ (a' := ?_) ?_ ?_
                          rotate_left
                          ·show Act.put _ (some 4) _ = _
                           simp only [Act.put, List.setIfInBounds_toArray, List.set_cons_zero, List.set_cons_succ, i64_w, i32_w]
                           rfl
                          exact norm_ (by first | (simp only [putAll, Act.put, List.setIfInBounds_toArray, List.set_cons_zero, List.set_cons_succ]; done) | (simp only [putAll, Act.put, List.setIfInBounds_toArray, List.set_cons_zero, List.set_cons_succ]; rfl)) (hJ16 (gb180) _ ⟨(pk BK180), GW180.out, GE180.out, (bl HB)⟩)
                        ·skip
                         rintro gb180 w24 ⟨h0_, h1_, h2_, h3_⟩
                         have n0_ : Aside0 (w24.heap[gb180]? = some (.cells #[.int .i64 0, .int .i64 0, .int .i64 0, .int .i64 0, .int .i64 0] 64 (0, 0))) := ⟨h0_⟩
                         have n1_ : Aside0 (w.heap.size ≤ gb180) := ⟨h1_⟩
                         have n2_ : Aside0 (w.heap.size ≤ gb180) := ⟨h2_⟩
                         have n3_ : Aside0 (Below w.heap.size w w24) := ⟨h3_⟩
                         clear HB
                         clear h0_ h1_ h2_ h3_
                         have BK180 := n0_
                         have GW180 := n1_
                         have GE180 := n2_
                         have HB := n3_
                         clear n0_ n1_ n2_ n3_
                         have hHeld := trivial
                         refine norm_ (a' := ?_) ?_ ?_
                         rotate_left
                         ·simp only [putAll, Act.put, List.setIfInBounds_toArray, List.set_cons_zero, List.set_cons_succ]
                          rfl
                         refine one_ (i := 2) (N := some 12) #[true, true, true, true, true, false, true, true, false, true, true, false, true, true, false, false, true, false] rfl rfl (one_of HT_.out (by kernel_rfl)) (by decide) (fun K hK => ?_)
                         refine goes_ Tryd.func98 (by kernel_rfl) rfl #[.string (a0.extract 0 4)] (by rfl) rfl rfl (by (try simp only [List.map_toArray, List.map_cons, List.map_nil]); first | done | rfl | (simp only [List.length_drop, List.length_take]; rfl)) ?_
                         with_reducible refine (spec_l2Number.calls k (a0.extract 0 4) t175 _ A5.out).mono ?_
                         rintro e w' ⟨rfl, ⟨nd, rfl⟩⟩
                         refine ⟨_, rfl, ?_⟩
                         refine hK.out _ _ trivial (fun hHeld => ?_)
                         clear hK K
                         refine norm_ (a' := ?_) ?_ ?_
                         rotate_left
                         ·show Act.put _ (some 12) _ = _
                          simp only [Act.put, List.setIfInBounds_toArray, List.set_cons_zero, List.set_cons_succ, i64_w, i32_w]
                          rfl
                         exact norm_ (by first | (simp only [putAll, Act.put, List.setIfInBounds_toArray, List.set_cons_zero, List.set_cons_succ]; done) | (simp only [putAll, Act.put, List.setIfInBounds_toArray, List.set_cons_zero, List.set_cons_succ]; rfl)) (hJ2_16 (gb180) _ ⟨(pk BK180), GW180.out, GE180.out, (bl HB)⟩)
                       ·skip
                        rintro _ w23 h0_
                        have n0_ : Aside0 (Below w.heap.size w w23) := ⟨h0_⟩
                        clear HB
                        clear h0_
                        have HB := n0_
                        clear n0_
                        have hHeld := trivial
                        refine norm_ (a' := ?_) ?_ ?_
                        rotate_left
                        ·simp only [putAll, Act.put, List.setIfInBounds_toArray, List.set_cons_zero, List.set_cons_succ]
                         rfl
                        refine two_ (i := 5) (j := 16) (Ni := some 15) (Nj := some 4) #[true, true, true, true, true, true, true, true, false, true, true, false, true, true, false, false, false, false] #[true, true, true, true, true, false, true, true, false, true, true, false, true, true, false, false, true, false] rfl rfl rfl rfl (two_of HT_.out (by kernel_rfl)) (by decide) (by decide) (fun K hK => ?_) (fun K hK => ?_)
                        ·skip
                         refine goes_ Tryd.func98 (by kernel_rfl) rfl #[.string (a0.extract 5 7)] (by rfl) rfl rfl (by (try simp only [List.map_toArray, List.map_cons, List.map_nil]); first | done | rfl | (simp only [List.length_drop, List.length_take]; rfl)) ?_
                         with_reducible refine (spec_l2Number.calls k (a0.extract 5 7) t176 _ A8.out).mono ?_
                         rintro e w' ⟨rfl, ⟨nd, rfl⟩⟩
                         refine ⟨_, rfl, ?_⟩
                         refine hK.out _ _ trivial (fun hHeld => ?_)
                         clear hK K
                         refine norm_ (a' := ?_) ?_ ?_
                         rotate_left
                         ·show Act.put _ (some 15) _ = _
                          simp only [Act.put, List.setIfInBounds_toArray, List.set_cons_zero, List.set_cons_succ, i64_w, i32_w]
                          rfl
                         exact norm_ (by first | (simp only [putAll, Act.put, List.setIfInBounds_toArray, List.set_cons_zero, List.set_cons_succ]; done) | (simp only [putAll, Act.put, List.setIfInBounds_toArray, List.set_cons_zero, List.set_cons_succ]; rfl)) (hJ2_5 () _ (bl HB))
                        ·skip
                         refine box_step ?hg (N := 4) ?hd (cs := #[.int .i64 0, .int .i64 0, .int .i64 0, .int .i64 0, .int .i64 0]) (t := 64) ?hr ?_; (case hd => rfl); (case hg => rfl); (case hr => first | (go_simp; done) | (go_simp; rfl))
                         intro gb180 hg w24 hbox hb
                         have n0_ := am (below_step (bl HB) hb)
                         have n1_ := am (hbox)
                         have n2_ := am ((by rw [hg]; exact (below_size (bl HB)) : w.heap.size ≤ gb180))
                         have n3_ := am ((by rw [hg]; exact (below_size (bl HB)) : w.heap.size ≤ gb180))
                         clear HB
                         have HB := n0_
                         have BK180 := n1_
                         have GW180 := n2_
                         have GE180 := n3_
                         clear n0_ n1_ n2_ n3_
                         clear hb hbox hg
                         refine hK.out _ _ trivial (fun hHeld => ?_)
                         clear hK K
                         refine norm_ (a' := ?_) ?_ ?_
                         rotate_left
                         ·show Act.put _ (some 4) _ = _
                          simp only [Act.put, List.setIfInBounds_toArray, List.set_cons_zero, List.set_cons_succ, i64_w, i32_w]
                          rfl
                         exact norm_ (by first | (simp only [putAll, Act.put, List.setIfInBounds_toArray, List.set_cons_zero, List.set_cons_succ]; done) | (simp only [putAll, Act.put, List.setIfInBounds_toArray, List.set_cons_zero, List.set_cons_succ]; rfl)) (hJ2_16 (gb180) _ ⟨(pk BK180), GW180.out, GE180.out, (bl HB)⟩)
                      ·skip
                       rintro gb180 w24 ⟨h0_, h1_, h2_, h3_⟩
                       have n0_ : Aside0 (w24.heap[gb180]? = some (.cells #[.int .i64 0, .int .i64 0, .int .i64 0, .int .i64 0, .int .i64 0] 64 (0, 0))) := ⟨h0_⟩
                       have n1_ : Aside0 (w.heap.size ≤ gb180) := ⟨h1_⟩
                       have n2_ : Aside0 (w.heap.size ≤ gb180) := ⟨h2_⟩
                       have n3_ : Aside0 (Below w.heap.size w w24) := ⟨h3_⟩
                       clear HB
                       clear h0_ h1_ h2_ h3_
                       have BK180 := n0_
                       have GW180 := n1_
                       have GE180 := n2_
                       have HB := n3_
                       clear n0_ n1_ n2_ n3_
                       have hHeld := trivial
                       refine norm_ (a' := ?_) ?_ ?_
                       rotate_left
                       ·simp only [putAll, Act.put, List.setIfInBounds_toArray, List.set_cons_zero, List.set_cons_succ]
                        rfl
                       refine one_ (i := 5) (N := some 15) #[true, true, true, true, true, true, true, true, false, true, true, false, true, true, false, false, true, false] rfl rfl (one_of HT_.out (by kernel_rfl)) (by decide) (fun K hK => ?_)
                       refine goes_ Tryd.func98 (by kernel_rfl) rfl #[.string (a0.extract 5 7)] (by rfl) rfl rfl (by (try simp only [List.map_toArray, List.map_cons, List.map_nil]); first | done | rfl | (simp only [List.length_drop, List.length_take]; rfl)) ?_
                       with_reducible refine (spec_l2Number.calls k (a0.extract 5 7) t176 _ A8.out).mono ?_
                       rintro e w' ⟨rfl, ⟨nd, rfl⟩⟩
                       refine ⟨_, rfl, ?_⟩
                       refine hK.out _ _ trivial (fun hHeld => ?_)
                       clear hK K
                       refine norm_ (a' := ?_) ?_ ?_
                       rotate_left
                       ·show Act.put _ (some 15) _ = _
                        simp only [Act.put, List.setIfInBounds_toArray, List.set_cons_zero, List.set_cons_succ, i64_w, i32_w]
                        rfl
                       exact norm_ (by first | (simp only [putAll, Act.put, List.setIfInBounds_toArray, List.set_cons_zero, List.set_cons_succ]; done) | (simp only [putAll, Act.put, List.setIfInBounds_toArray, List.set_cons_zero, List.set_cons_succ]; rfl)) (hJ2_5_16 (gb180) _ ⟨(pk BK180), GW180.out, GE180.out, (bl HB)⟩)
                     ·skip
                      rintro _ w23 h0_
                      have n0_ : Aside0 (Below w.heap.size w w23) := ⟨h0_⟩
                      clear HB
                      clear h0_
                      have HB := n0_
                      clear n0_
                      have hHeld := trivial
                      refine norm_ (a' := ?_) ?_ ?_
                      rotate_left
                      ·simp only [putAll, Act.put, List.setIfInBounds_toArray, List.set_cons_zero, List.set_cons_succ]
                       rfl
                      refine two_ (i := 8) (j := 16) (Ni := some 18) (Nj := some 4) #[true, true, true, true, true, true, true, true, true, true, true, false, true, true, false, false, false, false] #[true, true, true, true, true, true, true, true, false, true, true, false, true, true, false, false, true, false] rfl rfl rfl rfl (two_of HT_.out (by kernel_rfl)) (by decide) (by decide) (fun K hK => ?_) (fun K hK => ?_)
                      ·skip
                       refine goes_ Tryd.func98 (by kernel_rfl) rfl #[.string (a0.extract 8 10)] (by rfl) rfl rfl (by (try simp only [List.map_toArray, List.map_cons, List.map_nil]); first | done | rfl | (simp only [List.length_drop, List.length_take]; rfl)) ?_
                       with_reducible refine (spec_l2Number.calls k (a0.extract 8 10) t177 _ A11.out).mono ?_
                       rintro e w' ⟨rfl, ⟨nd, rfl⟩⟩
                       refine ⟨_, rfl, ?_⟩
                       refine hK.out _ _ trivial (fun hHeld => ?_)
                       clear hK K
                       refine norm_ (a' := ?_) ?_ ?_
                       rotate_left
                       ·show Act.put _ (some 18) _ = _
                        simp only [Act.put, List.setIfInBounds_toArray, List.set_cons_zero, List.set_cons_succ, i64_w, i32_w]
                        rfl
                       exact norm_ (by first | (simp only [putAll, Act.put, List.setIfInBounds_toArray, List.set_cons_zero, List.set_cons_succ]; done) | (simp only [putAll, Act.put, List.setIfInBounds_toArray, List.set_cons_zero, List.set_cons_succ]; rfl)) (hJ2_5_8 () _ (bl HB))
                      ·skip
                       refine box_step ?hg (N := 4) ?hd (cs := #[.int .i64 0, .int .i64 0, .int .i64 0, .int .i64 0, .int .i64 0]) (t := 64) ?hr ?_; (case hd => rfl); (case hg => rfl); (case hr => first | (go_simp; done) | (go_simp; rfl))
                       intro gb180 hg w24 hbox hb
                       have n0_ := am (below_step (bl HB) hb)
                       have n1_ := am (hbox)
                       have n2_ := am ((by rw [hg]; exact (below_size (bl HB)) : w.heap.size ≤ gb180))
                       have n3_ := am ((by rw [hg]; exact (below_size (bl HB)) : w.heap.size ≤ gb180))
                       clear HB
                       have HB := n0_
                       have BK180 := n1_
                       have GW180 := n2_
                       have GE180 := n3_
                       clear n0_ n1_ n2_ n3_
                       clear hb hbox hg
                       refine hK.out _ _ trivial (fun hHeld => ?_)
                       clear hK K
                       refine norm_ (a' := ?_) ?_ ?_
                       rotate_left
                       ·show Act.put _ (some 4) _ = _
                        simp only [Act.put, List.setIfInBounds_toArray, List.set_cons_zero, List.set_cons_succ, i64_w, i32_w]
                        rfl
                       exact norm_ (by first | (simp only [putAll, Act.put, List.setIfInBounds_toArray, List.set_cons_zero, List.set_cons_succ]; done) | (simp only [putAll, Act.put, List.setIfInBounds_toArray, List.set_cons_zero, List.set_cons_succ]; rfl)) (hJ2_5_16 (gb180) _ ⟨(pk BK180), GW180.out, GE180.out, (bl HB)⟩)
                    ·skip
                     rintro gb180 w24 ⟨h0_, h1_, h2_, h3_⟩
                     have n0_ : Aside0 (w24.heap[gb180]? = some (.cells #[.int .i64 0, .int .i64 0, .int .i64 0, .int .i64 0, .int .i64 0] 64 (0, 0))) := ⟨h0_⟩
                     have n1_ : Aside0 (w.heap.size ≤ gb180) := ⟨h1_⟩
                     have n2_ : Aside0 (w.heap.size ≤ gb180) := ⟨h2_⟩
                     have n3_ : Aside0 (Below w.heap.size w w24) := ⟨h3_⟩
                     clear HB
                     clear h0_ h1_ h2_ h3_
                     have BK180 := n0_
                     have GW180 := n1_
                     have GE180 := n2_
                     have HB := n3_
                     clear n0_ n1_ n2_ n3_
                     have hHeld := trivial
                     refine norm_ (a' := ?_) ?_ ?_
                     rotate_left
                     ·simp only [putAll, Act.put, List.setIfInBounds_toArray, List.set_cons_zero, List.set_cons_succ]
                      rfl
                     refine one_ (i := 8) (N := some 18) #[true, true, true, true, true, true, true, true, true, true, true, false, true, true, false, false, true, false] rfl rfl (one_of HT_.out (by kernel_rfl)) (by decide) (fun K hK => ?_)
                     refine goes_ Tryd.func98 (by kernel_rfl) rfl #[.string (a0.extract 8 10)] (by rfl) rfl rfl (by (try simp only [List.map_toArray, List.map_cons, List.map_nil]); first | done | rfl | (simp only [List.length_drop, List.length_take]; rfl)) ?_
                     with_reducible refine (spec_l2Number.calls k (a0.extract 8 10) t177 _ A11.out).mono ?_
                     rintro e w' ⟨rfl, ⟨nd, rfl⟩⟩
                     refine ⟨_, rfl, ?_⟩
                     refine hK.out _ _ trivial (fun hHeld => ?_)
                     clear hK K
                     refine norm_ (a' := ?_) ?_ ?_
                     rotate_left
                     ·show Act.put _ (some 18) _ = _
                      simp only [Act.put, List.setIfInBounds_toArray, List.set_cons_zero, List.set_cons_succ, i64_w, i32_w]
                      rfl
                     exact norm_ (by first | (simp only [putAll, Act.put, List.setIfInBounds_toArray, List.set_cons_zero, List.set_cons_succ]; done) | (simp only [putAll, Act.put, List.setIfInBounds_toArray, List.set_cons_zero, List.set_cons_succ]; rfl)) (hJ2_5_8_16 (gb180) _ ⟨(pk BK180), GW180.out, GE180.out, (bl HB)⟩)
                   ·skip
                    rintro _ w23 h0_
                    have n0_ : Aside0 (Below w.heap.size w w23) := ⟨h0_⟩
                    clear HB
                    clear h0_
                    have HB := n0_
                    clear n0_
                    have hHeld := trivial
                    refine norm_ (a' := ?_) ?_ ?_
                    rotate_left
                    ·simp only [putAll, Act.put, List.setIfInBounds_toArray, List.set_cons_zero, List.set_cons_succ]
                     rfl
                    refine two_ (i := 11) (j := 16) (Ni := some 21) (Nj := some 4) #[true, true, true, true, true, true, true, true, true, true, true, true, true, true, false, false, false, false] #[true, true, true, true, true, true, true, true, true, true, true, false, true, true, false, false, true, false] rfl rfl rfl rfl (two_of HT_.out (by kernel_rfl)) (by decide) (by decide) (fun K hK => ?_) (fun K hK => ?_)
                    ·skip
                     refine goes_ Tryd.func98 (by kernel_rfl) rfl #[.string (a0.extract 11 13)] (by rfl) rfl rfl (by (try simp only [List.map_toArray, List.map_cons, List.map_nil]); first | done | rfl | (simp only [List.length_drop, List.length_take]; rfl)) ?_
                     with_reducible refine (spec_l2Number.calls k (a0.extract 11 13) t178 _ A14.out).mono ?_
                     rintro e w' ⟨rfl, ⟨nd, rfl⟩⟩
                     refine ⟨_, rfl, ?_⟩
                     refine hK.out _ _ trivial (fun hHeld => ?_)
                     clear hK K
                     refine norm_ (a' := ?_) ?_ ?_
                     rotate_left
                     ·show Act.put _ (some 21) _ = _
                      simp only [Act.put, List.setIfInBounds_toArray, List.set_cons_zero, List.set_cons_succ, i64_w, i32_w]
                      rfl
                     exact norm_ (by first | (simp only [putAll, Act.put, List.setIfInBounds_toArray, List.set_cons_zero, List.set_cons_succ]; done) | (simp only [putAll, Act.put, List.setIfInBounds_toArray, List.set_cons_zero, List.set_cons_succ]; rfl)) (hJ2_5_8_11 () _ (bl HB))
                    ·skip
                     refine box_step ?hg (N := 4) ?hd (cs := #[.int .i64 0, .int .i64 0, .int .i64 0, .int .i64 0, .int .i64 0]) (t := 64) ?hr ?_; (case hd => rfl); (case hg => rfl); (case hr => first | (go_simp; done) | (go_simp; rfl))
                     intro gb180 hg w24 hbox hb
                     have n0_ := am (below_step (bl HB) hb)
                     have n1_ := am (hbox)
                     have n2_ := am ((by rw [hg]; exact (below_size (bl HB)) : w.heap.size ≤ gb180))
                     have n3_ := am ((by rw [hg]; exact (below_size (bl HB)) : w.heap.size ≤ gb180))
                     clear HB
                     have HB := n0_
                     have BK180 := n1_
                     have GW180 := n2_
                     have GE180 := n3_
                     clear n0_ n1_ n2_ n3_
                     clear hb hbox hg
                     refine hK.out _ _ trivial (fun hHeld => ?_)
                     clear hK K
                     refine norm_ (a' := ?_) ?_ ?_
                     rotate_left
                     ·show Act.put _ (some 4) _ = _
                      simp only [Act.put, List.setIfInBounds_toArray, List.set_cons_zero, List.set_cons_succ, i64_w, i32_w]
                      rfl
                     exact norm_ (by first | (simp only [putAll, Act.put, List.setIfInBounds_toArray, List.set_cons_zero, List.set_cons_succ]; done) | (simp only [putAll, Act.put, List.setIfInBounds_toArray, List.set_cons_zero, List.set_cons_succ]; rfl)) (hJ2_5_8_16 (gb180) _ ⟨(pk BK180), GW180.out, GE180.out, (bl HB)⟩)
                  ·skip
                   rintro gb180 w24 ⟨h0_, h1_, h2_, h3_⟩
                   have n0_ : Aside0 (w24.heap[gb180]? = some (.cells #[.int .i64 0, .int .i64 0, .int .i64 0, .int .i64 0, .int .i64 0] 64 (0, 0))) := ⟨h0_⟩
                   have n1_ : Aside0 (w.heap.size ≤ gb180) := ⟨h1_⟩
                   have n2_ : Aside0 (w.heap.size ≤ gb180) := ⟨h2_⟩
                   have n3_ : Aside0 (Below w.heap.size w w24) := ⟨h3_⟩
                   clear HB
                   clear h0_ h1_ h2_ h3_
                   have BK180 := n0_
                   have GW180 := n1_
                   have GE180 := n2_
                   have HB := n3_
                   clear n0_ n1_ n2_ n3_
                   have hHeld := trivial
                   refine norm_ (a' := ?_) ?_ ?_
                   rotate_left
                   ·simp only [putAll, Act.put, List.setIfInBounds_toArray, List.set_cons_zero, List.set_cons_succ]
                    rfl
                   refine one_ (i := 11) (N := some 21) #[true, true, true, true, true, true, true, true, true, true, true, true, true, true, false, false, true, false] rfl rfl (one_of HT_.out (by kernel_rfl)) (by decide) (fun K hK => ?_)
                   refine goes_ Tryd.func98 (by kernel_rfl) rfl #[.string (a0.extract 11 13)] (by rfl) rfl rfl (by (try simp only [List.map_toArray, List.map_cons, List.map_nil]); first | done | rfl | (simp only [List.length_drop, List.length_take]; rfl)) ?_
                   with_reducible refine (spec_l2Number.calls k (a0.extract 11 13) t178 _ A14.out).mono ?_
                   rintro e w' ⟨rfl, ⟨nd, rfl⟩⟩
                   refine ⟨_, rfl, ?_⟩
                   refine hK.out _ _ trivial (fun hHeld => ?_)
                   clear hK K
                   refine norm_ (a' := ?_) ?_ ?_
                   rotate_left
                   ·show Act.put _ (some 21) _ = _
                    simp only [Act.put, List.setIfInBounds_toArray, List.set_cons_zero, List.set_cons_succ, i64_w, i32_w]
                    rfl
                   exact norm_ (by first | (simp only [putAll, Act.put, List.setIfInBounds_toArray, List.set_cons_zero, List.set_cons_succ]; done) | (simp only [putAll, Act.put, List.setIfInBounds_toArray, List.set_cons_zero, List.set_cons_succ]; rfl)) (hJ2_5_8_11_16 (gb180) _ ⟨(pk BK180), GW180.out, GE180.out, (bl HB)⟩)
                 ·skip
                  rintro _ w23 h0_
                  have n0_ : Aside0 (Below w.heap.size w w23) := ⟨h0_⟩
                  clear HB
                  clear h0_
                  have HB := n0_
                  clear n0_
                  have hHeld := trivial
                  refine norm_ (a' := ?_) ?_ ?_
                  rotate_left
                  ·simp only [putAll, Act.put, List.setIfInBounds_toArray, List.set_cons_zero, List.set_cons_succ]
                   rfl
                  refine two_ (i := 14) (j := 16) (Ni := some 24) (Nj := some 4) #[true, true, true, true, true, true, true, true, true, true, true, true, true, true, true, false, false, false] #[true, true, true, true, true, true, true, true, true, true, true, true, true, true, false, false, true, false] rfl rfl rfl rfl (two_of HT_.out (by kernel_rfl)) (by decide) (by decide) (fun K hK => ?_) (fun K hK => ?_)
                  ·skip
                   refine goes_ Tryd.func98 (by kernel_rfl) rfl #[.string (a0.extract 14 16)] (by rfl) rfl rfl (by (try simp only [List.map_toArray, List.map_cons, List.map_nil]); first | done | rfl | (simp only [List.length_drop, List.length_take]; rfl)) ?_
                   with_reducible refine (spec_l2Number.calls k (a0.extract 14 16) t179 _ A17.out).mono ?_
                   rintro e w' ⟨rfl, ⟨nd, rfl⟩⟩
                   refine ⟨_, rfl, ?_⟩
                   refine hK.out _ _ trivial (fun hHeld => ?_)
                   clear hK K
                   refine norm_ (a' := ?_) ?_ ?_
                   rotate_left
                   ·show Act.put _ (some 24) _ = _
                    simp only [Act.put, List.setIfInBounds_toArray, List.set_cons_zero, List.set_cons_succ, i64_w, i32_w]
                    rfl
                   refine pure_ (i := 15) (N := some 25) (v := ?_) (a' := ?_) #[true, true, true, true, true, true, true, true, true, true, true, true, true, true, true, true, false, false] rfl rfl (any_of HT_.out (by kernel_rfl)) (fun _ _ _ h => h) (Or.inl ⟨by rfl, ?_⟩) ?_ ?_
                   rotate_left
                   ·intro w'
                    go_simp
                    with_reducible rfl
                   rotate_left
                   ·simp only [Act.put, List.setIfInBounds_toArray, List.set_cons_zero, List.set_cons_succ, i64_w, i32_w]
                    rfl
                   exact norm_ (by first | (simp only [putAll, Act.put, List.setIfInBounds_toArray, List.set_cons_zero, List.set_cons_succ]; done) | (simp only [putAll, Act.put, List.setIfInBounds_toArray, List.set_cons_zero, List.set_cons_succ]; rfl)) (hJ2_5_8_11_14 () _ (bl HB))
                  ·skip
                   refine box_step ?hg (N := 4) ?hd (cs := #[.int .i64 0, .int .i64 0, .int .i64 0, .int .i64 0, .int .i64 0]) (t := 64) ?hr ?_; (case hd => rfl); (case hg => rfl); (case hr => first | (go_simp; done) | (go_simp; rfl))
                   intro gb180 hg w24 hbox hb
                   have n0_ := am (below_step (bl HB) hb)
                   have n1_ := am (hbox)
                   have n2_ := am ((by rw [hg]; exact (below_size (bl HB)) : w.heap.size ≤ gb180))
                   have n3_ := am ((by rw [hg]; exact (below_size (bl HB)) : w.heap.size ≤ gb180))
                   clear HB
                   have HB := n0_
                   have BK180 := n1_
                   have GW180 := n2_
                   have GE180 := n3_
                   clear n0_ n1_ n2_ n3_
                   clear hb hbox hg
                   refine hK.out _ _ trivial (fun hHeld => ?_)
                   clear hK K
                   refine norm_ (a' := ?_) ?_ ?_
                   rotate_left
                   ·show Act.put _ (some 4) _ = _
                    simp only [Act.put, List.setIfInBounds_toArray, List.set_cons_zero, List.set_cons_succ, i64_w, i32_w]
                    rfl
                   exact norm_ (by first | (simp only [putAll, Act.put, List.setIfInBounds_toArray, List.set_cons_zero, List.set_cons_succ]; done) | (simp only [putAll, Act.put, List.setIfInBounds_toArray, List.set_cons_zero, List.set_cons_succ]; rfl)) (hJ2_5_8_11_16 (gb180) _ ⟨(pk BK180), GW180.out, GE180.out, (bl HB)⟩)
                ·skip
                 rintro gb180 w24 ⟨h0_, h1_, h2_, h3_⟩
                 have n0_ : Aside0 (w24.heap[gb180]? = some (.cells #[.int .i64 0, .int .i64 0, .int .i64 0, .int .i64 0, .int .i64 0] 64 (0, 0))) := ⟨h0_⟩
                 have n1_ : Aside0 (w.heap.size ≤ gb180) := ⟨h1_⟩
                 have n2_ : Aside0 (w.heap.size ≤ gb180) := ⟨h2_⟩
                 have n3_ : Aside0 (Below w.heap.size w w24) := ⟨h3_⟩
                 clear HB
                 clear h0_ h1_ h2_ h3_
                 have BK180 := n0_
                 have GW180 := n1_
                 have GE180 := n2_
                 have HB := n3_
                 clear n0_ n1_ n2_ n3_
                 have hHeld := trivial
                 refine norm_ (a' := ?_) ?_ ?_
                 rotate_left
                 ·simp only [putAll, Act.put, List.setIfInBounds_toArray, List.set_cons_zero, List.set_cons_succ]
                  rfl
                 refine one_ (i := 14) (N := some 24) #[true, true, true, true, true, true, true, true, true, true, true, true, true, true, true, false, true, false] rfl rfl (one_of HT_.out (by kernel_rfl)) (by decide) (fun K hK => ?_)
                 refine goes_ Tryd.func98 (by kernel_rfl) rfl #[.string (a0.extract 14 16)] (by rfl) rfl rfl (by (try simp only [List.map_toArray, List.map_cons, List.map_nil]); first | done | rfl | (simp only [List.length_drop, List.length_take]; rfl)) ?_
                 with_reducible refine (spec_l2Number.calls k (a0.extract 14 16) t179 _ A17.out).mono ?_
                 rintro e w' ⟨rfl, ⟨nd, rfl⟩⟩
                 refine ⟨_, rfl, ?_⟩
                 refine hK.out _ _ trivial (fun hHeld => ?_)
                 clear hK K
                 refine norm_ (a' := ?_) ?_ ?_
                 rotate_left
                 ·show Act.put _ (some 24) _ = _
                  simp only [Act.put, List.setIfInBounds_toArray, List.set_cons_zero, List.set_cons_succ, i64_w, i32_w]
                  rfl
                 refine pure_ (i := 15) (N := some 25) (v := ?_) (a' := ?_) #[true, true, true, true, true, true, true, true, true, true, true, true, true, true, true, true, true, false] rfl rfl (any_of HT_.out (by kernel_rfl)) (fun _ _ _ h => h) (Or.inl ⟨by rfl, ?_⟩) ?_ ?_
                 rotate_left
                 ·intro w'
                  go_simp
                  with_reducible rfl
                 rotate_left
                 ·simp only [Act.put, List.setIfInBounds_toArray, List.set_cons_zero, List.set_cons_succ, i64_w, i32_w]
                  rfl
                 exact norm_ (by first | (simp only [putAll, Act.put, List.setIfInBounds_toArray, List.set_cons_zero, List.set_cons_succ]; done) | (simp only [putAll, Act.put, List.setIfInBounds_toArray, List.set_cons_zero, List.set_cons_succ]; rfl)) (hJ2_5_8_11_14_16 (gb180) _ ⟨(pk BK180), GW180.out, GE180.out, (bl HB)⟩)
               ·skip
                rintro _ w23 h0_
                have n0_ : Aside0 (Below w.heap.size w w23) := ⟨h0_⟩
                clear HB
                clear h0_
                have HB := n0_
                clear n0_
                have hHeld := trivial
                refine norm_ (a' := ?_) ?_ ?_
                rotate_left
                ·simp only [putAll, Act.put, List.setIfInBounds_toArray, List.set_cons_zero, List.set_cons_succ]
                 rfl
                refine one_ (i := 16) (N := some 4) #[true, true, true, true, true, true, true, true, true, true, true, true, true, true, true, true, true, false] rfl rfl (one_of HT_.out (by kernel_rfl)) (by decide) (fun K hK => ?_)
                refine box_step ?hg (N := 4) ?hd (cs := #[.int .i64 0, .int .i64 0, .int .i64 0, .int .i64 0, .int .i64 0]) (t := 64) ?hr ?_; (case hd => rfl); (case hg => rfl); (case hr => first | (go_simp; done) | (go_simp; rfl))
                intro gb180 hg w24 hbox hb
                have n0_ := am (below_step (bl HB) hb)
                have n1_ := am (hbox)
                have n2_ := am ((by rw [hg]; exact (below_size (bl HB)) : w.heap.size ≤ gb180))
                have n3_ := am ((by rw [hg]; exact (below_size (bl HB)) : w.heap.size ≤ gb180))
                clear HB
                have HB := n0_
                have BK180 := n1_
                have GW180 := n2_
                have GE180 := n3_
                clear n0_ n1_ n2_ n3_
                clear hb hbox hg
                refine hK.out _ _ trivial (fun hHeld => ?_)
                clear hK K
                refine norm_ (a' := ?_) ?_ ?_
                rotate_left
                ·show Act.put _ (some 4) _ = _
                 simp only [Act.put, List.setIfInBounds_toArray, List.set_cons_zero, List.set_cons_succ, i64_w, i32_w]
                 rfl
                exact norm_ (by first | (simp only [putAll, Act.put, List.setIfInBounds_toArray, List.set_cons_zero, List.set_cons_succ]; done) | (simp only [putAll, Act.put, List.setIfInBounds_toArray, List.set_cons_zero, List.set_cons_succ]; rfl)) (hJ2_5_8_11_14_16 (gb180) _ ⟨(pk BK180), GW180.out, GE180.out, (bl HB)⟩)
              rintro gb180 w24 ⟨h0_, h1_, h2_, h3_⟩
              have n0_ : Aside0 (w24.heap[gb180]? = some (.cells #[.int .i64 0, .int .i64 0, .int .i64 0, .int .i64 0, .int .i64 0] 64 (0, 0))) := ⟨h0_⟩
              have n1_ : Aside0 (w.heap.size ≤ gb180) := ⟨h1_⟩
              have n2_ : Aside0 (w.heap.size ≤ gb180) := ⟨h2_⟩
              have n3_ : Aside0 (Below w.heap.size w w24) := ⟨h3_⟩
              clear HB
              clear h0_ h1_ h2_ h3_
              have BK180 := n0_
              have GW180 := n1_
              have GE180 := n2_
              have HB := n3_
              clear n0_ n1_ n2_ n3_
              have hHeld := trivial
              refine norm_ (a' := ?_) ?_ ?_
              rotate_left
              ·simp only [putAll, Act.put, List.setIfInBounds_toArray, List.set_cons_zero, List.set_cons_succ]
               rfl
              refine one_ (i := 17) (N := none) #[true, true, true, true, true, true, true, true, true, true, true, true, true, true, true, true, true, true] rfl rfl (one_of HT_.out (by kernel_rfl)) (by decide) (fun K hK => ?_)
              have hs25 : w24.cell? ⟨gb180, 0, none⟩ = some (.int .i64 0) := (blk_cell BK180.out 0).trans rfl
              have hfs25 := blk_frozen BK180.out 0
              have hs26 : w24.cell? ⟨gb180, 1, none⟩ = some (.int .i64 0) := (blk_cell BK180.out 1).trans rfl
              have hfs26 := blk_frozen BK180.out 1
              have hs27 : w24.cell? ⟨gb180, 2, none⟩ = some (.int .i64 0) := (blk_cell BK180.out 2).trans rfl
              have hfs27 := blk_frozen BK180.out 2
              have hs28 : w24.cell? ⟨gb180, 3, none⟩ = some (.int .i64 0) := (blk_cell BK180.out 3).trans rfl
              have hfs28 := blk_frozen BK180.out 3
              have hs29 : w24.cell? ⟨gb180, 4, none⟩ = some (.int .i64 0) := (blk_cell BK180.out 4).trans rfl
              have hfs29 := blk_frozen BK180.out 4
              refine skip_ (w1 := ?_) (by rfl) rfl ?_ ?_
              rotate_left
              ·go_simp
               rfl
              refine hK.out _ _ trivial (fun hHeld => ?_)
              clear hK K
              refine done_ (done_of HT_.out (by kernel_rfl)) ?_
              have hz30 := cells5 BK180
              try go_wp2_with (first | ((with_reducible refine gate_callee (f := 99) rfl ?_); refine goesL_ (some 28) rfl rfl Tryd.func99 (by kernel_rfl) rfl #[.agg #[.int .i64 t175, .int .i64 t176, .int .i64 t177, .int .i64 t178, .int .i64 t179]] rfl (by (try simp only [List.map_toArray, List.map_cons, List.map_nil]); first | done | rfl | (simp only [List.length_drop, List.length_take]; rfl)) ?_; (with_reducible refine (spec_TimeOf.calls k t175 t176 t177 t178 t179 t181 true _ A18.out).mono ?_); rintro e w31 ⟨rfl, hb⟩; refine ⟨_, rfl, ?_⟩; have n0_ := am (blk_below (g := gb180) (o := .cells #[.int .i64 t175, .int .i64 t176, .int .i64 t177, .int .i64 t178, .int .i64 t179] 64 (0, 0)) (by (with_reducible repeat (first | refine blk_drewN ?_ _ | refine blk_drew ?_ | refine blk_alloc ?_ _)); refine blk_put (cs := #[.int .i64 t175, .int .i64 t176, .int .i64 t177, .int .i64 t178, .int .i64 0]) ?_ 4 _ (by first | rfl | simp [bne]); (with_reducible repeat (first | refine blk_drewN ?_ _ | refine blk_drew ?_ | refine blk_alloc ?_ _)); refine blk_put (cs := #[.int .i64 t175, .int .i64 t176, .int .i64 t177, .int .i64 0, .int .i64 0]) ?_ 3 _ (by first | rfl | simp [bne]); (with_reducible repeat (first | refine blk_drewN ?_ _ | refine blk_drew ?_ | refine blk_alloc ?_ _)); refine blk_put (cs := #[.int .i64 t175, .int .i64 t176, .int .i64 0, .int .i64 0, .int .i64 0]) ?_ 2 _ (by first | rfl | simp [bne]); (with_reducible repeat (first | refine blk_drewN ?_ _ | refine blk_drew ?_ | refine blk_alloc ?_ _)); refine blk_put (cs := #[.int .i64 t175, .int .i64 0, .int .i64 0, .int .i64 0, .int .i64 0]) ?_ 1 _ (by first | rfl | simp [bne]); (with_reducible repeat (first | refine blk_drewN ?_ _ | refine blk_drew ?_ | refine blk_alloc ?_ _)); refine blk_put (cs := #[.int .i64 0, .int .i64 0, .int .i64 0, .int .i64 0, .int .i64 0]) ?_ 0 _ (by first | rfl | simp [bne]); (with_reducible repeat (first | refine blk_drewN ?_ _ | refine blk_drew ?_ | refine blk_alloc ?_ _)); exact BK180.out) hb); have n1_ := am (below_step (bl HB) hb); clear BK180; clear HB; have BK180 := n0_; have HB := n1_; clear n0_ n1_; (try clear hb); (try clear hb2); (try clear hk); (try clear hi)) | (go_at_call 100; (with_reducible refine (spec_Stamp.calls k t181 t183 _ A20.out).mono ?_); rintro e w32 ⟨rfl, hb⟩; have n0_ := am (blk_below (pk BK180) hb); have n1_ := am (below_step (bl HB) hb); clear BK180; clear HB; have BK180 := n0_; have HB := n1_; clear n0_ n1_; (try clear hb); (try clear hb2); (try clear hk); (try clear hi)))
              go_ret2
              exact ⟨by first | rfl | (simp [errW_none, errW_some] <;> rfl) | (simp [*, errW_none, errW_some] <;> rfl), bl HB⟩
             ·rw [if_neg c21] at H
              have c21b0 : (t183.toList == a0.toList) = false := beq_eq_false_iff_ne.mpr c21
              have c21b1 : (t183.toList != a0.toList) = true := bne_iff_ne.mpr c21
              simp only [Option.some.injEq, Prod.mk.injEq] at H
              obtain ⟨rfl, rfl⟩ := H
              go_enter Tryd.func43, Tryd.ntmps43
              try go_wp2
              have n0_ := am (below_drew1 HB.out)
              clear HB
              have HB := n0_
              clear n0_
              refine start_ (n := 18) (S := fun w' => True) (ds := []) #[false, false, false, false, false, false, false, false, false, false, false, false, false, false, false, false, false, false] (by kernel_rfl) rfl rfl trivial (fun hHeld => ?_); refine with_tabW spec_ReadStamp.tab3 spec_ReadStamp.bits3 (fun HT_ HW_ => ?_)
              generalize w.drew = w33 at HB hHeld ⊢
              refine pure_ (i := 0) (N := some 10) (v := ?_) (a' := ?_) #[true, false, false, false, false, false, false, false, false, false, false, false, false, false, false, false, false, false] rfl rfl (any_of HT_.out (by kernel_rfl)) (fun _ _ _ h => h) (Or.inl ⟨by rfl, ?_⟩) ?_ ?_
              rotate_left
              ·intro w'
               go_simp
               with_reducible rfl
              rotate_left
              ·simp only [Act.put, List.setIfInBounds_toArray, List.set_cons_zero, List.set_cons_succ, i64_w, i32_w]
               rfl
              refine pure_ (i := 1) (N := some 11) (v := ?_) (a' := ?_) #[true, true, false, false, false, false, false, false, false, false, false, false, false, false, false, false, false, false] rfl rfl (any_of HT_.out (by kernel_rfl)) (fun _ _ _ h => h) (Or.inl ⟨by rfl, ?_⟩) ?_ ?_
              rotate_left
              ·intro w'
               go_simp
               with_reducible rfl
              rotate_left
              ·simp only [Act.put, List.setIfInBounds_toArray, List.set_cons_zero, List.set_cons_succ, i64_w, i32_w]
               rfl
              refine pure_ (i := 3) (N := some 13) (v := ?_) (a' := ?_) #[true, true, false, true, false, false, false, false, false, false, false, false, false, false, false, false, false, false] rfl rfl (any_of HT_.out (by kernel_rfl)) (fun _ _ _ h => h) (Or.inl ⟨by rfl, ?_⟩) ?_ ?_
              rotate_left
              ·intro w'
               go_simp
               with_reducible rfl
              rotate_left
              ·simp only [Act.put, List.setIfInBounds_toArray, List.set_cons_zero, List.set_cons_succ, i64_w, i32_w]
               rfl
              refine pure_ (i := 4) (N := some 14) (v := ?_) (a' := ?_) #[true, true, false, true, true, false, false, false, false, false, false, false, false, false, false, false, false, false] rfl rfl (any_of HT_.out (by kernel_rfl)) (fun _ _ _ h => h) (Or.inl ⟨by rfl, ?_⟩) ?_ ?_
              rotate_left
              ·intro w'
               go_simp
               with_reducible rfl
              rotate_left
              ·simp only [Act.put, List.setIfInBounds_toArray, List.set_cons_zero, List.set_cons_succ, i64_w, i32_w]
               rfl
              refine pure_ (i := 6) (N := some 16) (v := ?_) (a' := ?_) #[true, true, false, true, true, false, true, false, false, false, false, false, false, false, false, false, false, false] rfl rfl (any_of HT_.out (by kernel_rfl)) (fun _ _ _ h => h) (Or.inl ⟨by rfl, ?_⟩) ?_ ?_
              rotate_left
              ·intro w'
               go_simp
               with_reducible rfl
              rotate_left
              ·simp only [Act.put, List.setIfInBounds_toArray, List.set_cons_zero, List.set_cons_succ, i64_w, i32_w]
               rfl
              refine pure_ (i := 7) (N := some 17) (v := ?_) (a' := ?_) #[true, true, false, true, true, false, true, true, false, false, false, false, false, false, false, false, false, false] rfl rfl (any_of HT_.out (by kernel_rfl)) (fun _ _ _ h => h) (Or.inl ⟨by rfl, ?_⟩) ?_ ?_
              rotate_left
              ·intro w'
               go_simp
               with_reducible rfl
              rotate_left
              ·simp only [Act.put, List.setIfInBounds_toArray, List.set_cons_zero, List.set_cons_succ, i64_w, i32_w]
               rfl
              refine pure_ (i := 9) (N := some 19) (v := ?_) (a' := ?_) #[true, true, false, true, true, false, true, true, false, true, false, false, false, false, false, false, false, false] rfl rfl (any_of HT_.out (by kernel_rfl)) (fun _ _ _ h => h) (Or.inl ⟨by rfl, ?_⟩) ?_ ?_
              rotate_left
              ·intro w'
               go_simp
               with_reducible rfl
              rotate_left
              ·simp only [Act.put, List.setIfInBounds_toArray, List.set_cons_zero, List.set_cons_succ, i64_w, i32_w]
               rfl
              refine pure_ (i := 10) (N := some 20) (v := ?_) (a' := ?_) #[true, true, false, true, true, false, true, true, false, true, true, false, false, false, false, false, false, false] rfl rfl (any_of HT_.out (by kernel_rfl)) (fun _ _ _ h => h) (Or.inl ⟨by rfl, ?_⟩) ?_ ?_
              rotate_left
              ·intro w'
               go_simp
               with_reducible rfl
              rotate_left
              ·simp only [Act.put, List.setIfInBounds_toArray, List.set_cons_zero, List.set_cons_succ, i64_w, i32_w]
               rfl
              refine pure_ (i := 12) (N := some 22) (v := ?_) (a' := ?_) #[true, true, false, true, true, false, true, true, false, true, true, false, true, false, false, false, false, false] rfl rfl (any_of HT_.out (by kernel_rfl)) (fun _ _ _ h => h) (Or.inl ⟨by rfl, ?_⟩) ?_ ?_
              rotate_left
              ·intro w'
               go_simp
               with_reducible rfl
              rotate_left
              ·simp only [Act.put, List.setIfInBounds_toArray, List.set_cons_zero, List.set_cons_succ, i64_w, i32_w]
               rfl
              refine pure_ (i := 13) (N := some 23) (v := ?_) (a' := ?_) #[true, true, false, true, true, false, true, true, false, true, true, false, true, true, false, false, false, false] rfl rfl (any_of HT_.out (by kernel_rfl)) (fun _ _ _ h => h) (Or.inl ⟨by rfl, ?_⟩) ?_ ?_
              rotate_left
              ·intro w'
               go_simp
               with_reducible rfl
              rotate_left
              ·simp only [Act.put, List.setIfInBounds_toArray, List.set_cons_zero, List.set_cons_succ, i64_w, i32_w]
               rfl
              refine join_ (σ := Nat) 1 #[true, true, true, true, true, true, true, true, true, true, true, true, true, true, true, true, true, false] (fun s_ => [(12, .int .i64 t175), (15, .int .i64 t176), (18, .int .i64 t177), (21, .int .i64 t178), (24, .int .i64 t179), (4, .pointer (some ⟨s_, 0, none⟩)), (25, .agg #[.int .i64 t175, .int .i64 t176, .int .i64 t177, .int .i64 t178, .int .i64 t179])]) (fun s_ w' => (w'.heap[s_]? = some (.cells #[.int .i64 0, .int .i64 0, .int .i64 0, .int .i64 0, .int .i64 0] 64 (0, 0))) ∧ (w.heap.size ≤ s_) ∧ (w.heap.size ≤ s_) ∧ (Below w.heap.size w w')) ?_ ?_
              rotate_left
              ·intro hJ2_5_8_11_14_16
               refine join_ (σ := Unit) 2 #[true, true, true, true, true, true, true, true, true, true, true, true, true, true, true, true, false, false] (fun s_ => [(12, .int .i64 t175), (15, .int .i64 t176), (18, .int .i64 t177), (21, .int .i64 t178), (24, .int .i64 t179), (25, .agg #[.int .i64 t175, .int .i64 t176, .int .i64 t177, .int .i64 t178, .int .i64 t179])]) (fun s_ w' => (Below w.heap.size w w')) ?_ ?_
               rotate_left
               ·intro hJ2_5_8_11_14
                refine join_ (σ := Nat) 3 #[true, true, true, true, true, true, true, true, true, true, true, true, true, true, false, false, true, false] (fun s_ => [(12, .int .i64 t175), (15, .int .i64 t176), (18, .int .i64 t177), (21, .int .i64 t178), (4, .pointer (some ⟨s_, 0, none⟩))]) (fun s_ w' => (w'.heap[s_]? = some (.cells #[.int .i64 0, .int .i64 0, .int .i64 0, .int .i64 0, .int .i64 0] 64 (0, 0))) ∧ (w.heap.size ≤ s_) ∧ (w.heap.size ≤ s_) ∧ (Below w.heap.size w w')) ?_ ?_
                rotate_left
                ·intro hJ2_5_8_11_16
                 refine join_ (σ := Unit) 4 #[true, true, true, true, true, true, true, true, true, true, true, true, true, true, false, false, false, false] (fun s_ => [(12, .int .i64 t175), (15, .int .i64 t176), (18, .int .i64 t177), (21, .int .i64 t178)]) (fun s_ w' => (Below w.heap.size w w')) ?_ ?_
                 rotate_left
                 ·intro hJ2_5_8_11
                  refine join_ (σ := Nat) 4 #[true, true, true, true, true, true, true, true, true, true, true, false, true, true, false, false, true, false] (fun s_ => [(12, .int .i64 t175), (15, .int .i64 t176), (18, .int .i64 t177), (4, .pointer (some ⟨s_, 0, none⟩))]) (fun s_ w' => (w'.heap[s_]? = some (.cells #[.int .i64 0, .int .i64 0, .int .i64 0, .int .i64 0, .int .i64 0] 64 (0, 0))) ∧ (w.heap.size ≤ s_) ∧ (w.heap.size ≤ s_) ∧ (Below w.heap.size w w')) ?_ ?_
                  rotate_left
                  ·intro hJ2_5_8_16
                   refine join_ (σ := Unit) 5 #[true, true, true, true, true, true, true, true, true, true, true, false, true, true, false, false, false, false] (fun s_ => [(12, .int .i64 t175), (15, .int .i64 t176), (18, .int .i64 t177)]) (fun s_ w' => (Below w.heap.size w w')) ?_ ?_
                   rotate_left
                   ·intro hJ2_5_8
                    refine join_ (σ := Nat) 5 #[true, true, true, true, true, true, true, true, false, true, true, false, true, true, false, false, true, false] (fun s_ => [(12, .int .i64 t175), (15, .int .i64 t176), (4, .pointer (some ⟨s_, 0, none⟩))]) (fun s_ w' => (w'.heap[s_]? = some (.cells #[.int .i64 0, .int .i64 0, .int .i64 0, .int .i64 0, .int .i64 0] 64 (0, 0))) ∧ (w.heap.size ≤ s_) ∧ (w.heap.size ≤ s_) ∧ (Below w.heap.size w w')) ?_ ?_
                    rotate_left
                    ·intro hJ2_5_16
                     refine join_ (σ := Unit) 6 #[true, true, true, true, true, true, true, true, false, true, true, false, true, true, false, false, false, false] (fun s_ => [(12, .int .i64 t175), (15, .int .i64 t176)]) (fun s_ w' => (Below w.heap.size w w')) ?_ ?_
                     rotate_left
                     ·intro hJ2_5
                      refine join_ (σ := Nat) 6 #[true, true, true, true, true, false, true, true, false, true, true, false, true, true, false, false, true, false] (fun s_ => [(12, .int .i64 t175), (4, .pointer (some ⟨s_, 0, none⟩))]) (fun s_ w' => (w'.heap[s_]? = some (.cells #[.int .i64 0, .int .i64 0, .int .i64 0, .int .i64 0, .int .i64 0] 64 (0, 0))) ∧ (w.heap.size ≤ s_) ∧ (w.heap.size ≤ s_) ∧ (Below w.heap.size w w')) ?_ ?_
                      rotate_left
                      ·intro hJ2_16
                       refine join_ (σ := Unit) 7 #[true, true, true, true, true, false, true, true, false, true, true, false, true, true, false, false, false, false] (fun s_ => [(12, .int .i64 t175)]) (fun s_ w' => (Below w.heap.size w w')) ?_ ?_
                       rotate_left
                       ·intro hJ2
                        refine join_ (σ := Nat) 7 #[true, true, false, true, true, false, true, true, false, true, true, false, true, true, false, false, true, false] (fun s_ => [(4, .pointer (some ⟨s_, 0, none⟩))]) (fun s_ w' => (w'.heap[s_]? = some (.cells #[.int .i64 0, .int .i64 0, .int .i64 0, .int .i64 0, .int .i64 0] 64 (0, 0))) ∧ (w.heap.size ≤ s_) ∧ (w.heap.size ≤ s_) ∧ (Below w.heap.size w w')) ?_ ?_
                        rotate_left
                        ·intro hJ16
                         refine two_ (i := 2) (j := 16) (Ni := some 12) (Nj := some 4) #[true, true, true, true, true, false, true, true, false, true, true, false, true, true, false, false, false, false] #[true, true, false, true, true, false, true, true, false, true, true, false, true, true, false, false, true, false] rfl rfl rfl rfl (two_of HT_.out (by kernel_rfl)) (by decide) (by decide) (fun K hK => ?_) (fun K hK => ?_)
                         ·skip
                          refine goes_ Tryd.func98 (by kernel_rfl) rfl #[.string (a0.extract 0 4)] (by rfl) rfl rfl (by (try simp only [List.map_toArray, List.map_cons, List.map_nil]); first | done | rfl | (simp only [List.length_drop, List.length_take]; rfl)) ?_
                          with_reducible refine (spec_l2Number.calls k (a0.extract 0 4) t175 _ A5.out).mono ?_
                          rintro e w' ⟨rfl, ⟨nd, rfl⟩⟩
                          refine ⟨_, rfl, ?_⟩
                          refine hK.out _ _ trivial (fun hHeld => ?_)
                          clear hK K
                          refine norm_ (a' := ?_) ?_ ?_
                          rotate_left
                          ·show Act.put _ (some 12) _ = _
                           simp only [Act.put, List.setIfInBounds_toArray, List.set_cons_zero, List.set_cons_succ, i64_w, i32_w]
                           rfl
                          exact norm_ (by first | (simp only [putAll, Act.put, List.setIfInBounds_toArray, List.set_cons_zero, List.set_cons_succ]; done) | (simp only [putAll, Act.put, List.setIfInBounds_toArray, List.set_cons_zero, List.set_cons_succ]; rfl)) (hJ2 () _ (bl HB))
                         ·skip
                          refine box_step ?hg (N := 4) ?hd (cs := #[.int .i64 0, .int .i64 0, .int .i64 0, .int .i64 0, .int .i64 0]) (t := 64) ?hr ?_; (case hd => rfl); (case hg => rfl); (case hr => first | (go_simp; done) | (go_simp; rfl))
                          intro gb180 hg w34 hbox hb
                          have n0_ := am (below_step (bl HB) hb)
                          have n1_ := am (hbox)
                          have n2_ := am ((by rw [hg]; exact (below_size (bl HB)) : w.heap.size ≤ gb180))
                          have n3_ := am ((by rw [hg]; exact (below_size (bl HB)) : w.heap.size ≤ gb180))
                          clear HB
                          have HB := n0_
                          have BK180 := n1_
                          have GW180 := n2_
                          have GE180 := n3_
                          clear n0_ n1_ n2_ n3_
                          clear hb hbox hg
                          refine hK.out _ _ trivial (fun hHeld => ?_)
                          clear hK K
                          refine norm_ (a' := ?_) ?_ ?_
                          rotate_left
                          ·show Act.put _ (some 4) _ = _
                           simp only [Act.put, List.setIfInBounds_toArray, List.set_cons_zero, List.set_cons_succ, i64_w, i32_w]
                           rfl
                          exact norm_ (by first | (simp only [putAll, Act.put, List.setIfInBounds_toArray, List.set_cons_zero, List.set_cons_succ]; done) | (simp only [putAll, Act.put, List.setIfInBounds_toArray, List.set_cons_zero, List.set_cons_succ]; rfl)) (hJ16 (gb180) _ ⟨(pk BK180), GW180.out, GE180.out, (bl HB)⟩)
                        ·skip
                         rintro gb180 w35 ⟨h0_, h1_, h2_, h3_⟩
                         have n0_ : Aside0 (w35.heap[gb180]? = some (.cells #[.int .i64 0, .int .i64 0, .int .i64 0, .int .i64 0, .int .i64 0] 64 (0, 0))) := ⟨h0_⟩
                         have n1_ : Aside0 (w.heap.size ≤ gb180) := ⟨h1_⟩
                         have n2_ : Aside0 (w.heap.size ≤ gb180) := ⟨h2_⟩
                         have n3_ : Aside0 (Below w.heap.size w w35) := ⟨h3_⟩
                         clear HB
                         clear h0_ h1_ h2_ h3_
                         have BK180 := n0_
                         have GW180 := n1_
                         have GE180 := n2_
                         have HB := n3_
                         clear n0_ n1_ n2_ n3_
                         have hHeld := trivial
                         refine norm_ (a' := ?_) ?_ ?_
                         rotate_left
                         ·simp only [putAll, Act.put, List.setIfInBounds_toArray, List.set_cons_zero, List.set_cons_succ]
                          rfl
                         refine one_ (i := 2) (N := some 12) #[true, true, true, true, true, false, true, true, false, true, true, false, true, true, false, false, true, false] rfl rfl (one_of HT_.out (by kernel_rfl)) (by decide) (fun K hK => ?_)
                         refine goes_ Tryd.func98 (by kernel_rfl) rfl #[.string (a0.extract 0 4)] (by rfl) rfl rfl (by (try simp only [List.map_toArray, List.map_cons, List.map_nil]); first | done | rfl | (simp only [List.length_drop, List.length_take]; rfl)) ?_
                         with_reducible refine (spec_l2Number.calls k (a0.extract 0 4) t175 _ A5.out).mono ?_
                         rintro e w' ⟨rfl, ⟨nd, rfl⟩⟩
                         refine ⟨_, rfl, ?_⟩
                         refine hK.out _ _ trivial (fun hHeld => ?_)
                         clear hK K
                         refine norm_ (a' := ?_) ?_ ?_
                         rotate_left
                         ·show Act.put _ (some 12) _ = _
                          simp only [Act.put, List.setIfInBounds_toArray, List.set_cons_zero, List.set_cons_succ, i64_w, i32_w]
                          rfl
                         exact norm_ (by first | (simp only [putAll, Act.put, List.setIfInBounds_toArray, List.set_cons_zero, List.set_cons_succ]; done) | (simp only [putAll, Act.put, List.setIfInBounds_toArray, List.set_cons_zero, List.set_cons_succ]; rfl)) (hJ2_16 (gb180) _ ⟨(pk BK180), GW180.out, GE180.out, (bl HB)⟩)
                       ·skip
                        rintro _ w34 h0_
                        have n0_ : Aside0 (Below w.heap.size w w34) := ⟨h0_⟩
                        clear HB
                        clear h0_
                        have HB := n0_
                        clear n0_
                        have hHeld := trivial
                        refine norm_ (a' := ?_) ?_ ?_
                        rotate_left
                        ·simp only [putAll, Act.put, List.setIfInBounds_toArray, List.set_cons_zero, List.set_cons_succ]
                         rfl
                        refine two_ (i := 5) (j := 16) (Ni := some 15) (Nj := some 4) #[true, true, true, true, true, true, true, true, false, true, true, false, true, true, false, false, false, false] #[true, true, true, true, true, false, true, true, false, true, true, false, true, true, false, false, true, false] rfl rfl rfl rfl (two_of HT_.out (by kernel_rfl)) (by decide) (by decide) (fun K hK => ?_) (fun K hK => ?_)
                        ·skip
                         refine goes_ Tryd.func98 (by kernel_rfl) rfl #[.string (a0.extract 5 7)] (by rfl) rfl rfl (by (try simp only [List.map_toArray, List.map_cons, List.map_nil]); first | done | rfl | (simp only [List.length_drop, List.length_take]; rfl)) ?_
                         with_reducible refine (spec_l2Number.calls k (a0.extract 5 7) t176 _ A8.out).mono ?_
                         rintro e w' ⟨rfl, ⟨nd, rfl⟩⟩
                         refine ⟨_, rfl, ?_⟩
                         refine hK.out _ _ trivial (fun hHeld => ?_)
                         clear hK K
                         refine norm_ (a' := ?_) ?_ ?_
                         rotate_left
                         ·show Act.put _ (some 15) _ = _
                          simp only [Act.put, List.setIfInBounds_toArray, List.set_cons_zero, List.set_cons_succ, i64_w, i32_w]
                          rfl
                         exact norm_ (by first | (simp only [putAll, Act.put, List.setIfInBounds_toArray, List.set_cons_zero, List.set_cons_succ]; done) | (simp only [putAll, Act.put, List.setIfInBounds_toArray, List.set_cons_zero, List.set_cons_succ]; rfl)) (hJ2_5 () _ (bl HB))
                        ·skip
                         refine box_step ?hg (N := 4) ?hd (cs := #[.int .i64 0, .int .i64 0, .int .i64 0, .int .i64 0, .int .i64 0]) (t := 64) ?hr ?_; (case hd => rfl); (case hg => rfl); (case hr => first | (go_simp; done) | (go_simp; rfl))
                         intro gb180 hg w35 hbox hb
                         have n0_ := am (below_step (bl HB) hb)
                         have n1_ := am (hbox)
                         have n2_ := am ((by rw [hg]; exact (below_size (bl HB)) : w.heap.size ≤ gb180))
                         have n3_ := am ((by rw [hg]; exact (below_size (bl HB)) : w.heap.size ≤ gb180))
                         clear HB
                         have HB := n0_
                         have BK180 := n1_
                         have GW180 := n2_
                         have GE180 := n3_
                         clear n0_ n1_ n2_ n3_
                         clear hb hbox hg
                         refine hK.out _ _ trivial (fun hHeld => ?_)
                         clear hK K
                         refine norm_ (a' := ?_) ?_ ?_
                         rotate_left
                         ·show Act.put _ (some 4) _ = _
                          simp only [Act.put, List.setIfInBounds_toArray, List.set_cons_zero, List.set_cons_succ, i64_w, i32_w]
                          rfl
                         exact norm_ (by first | (simp only [putAll, Act.put, List.setIfInBounds_toArray, List.set_cons_zero, List.set_cons_succ]; done) | (simp only [putAll, Act.put, List.setIfInBounds_toArray, List.set_cons_zero, List.set_cons_succ]; rfl)) (hJ2_16 (gb180) _ ⟨(pk BK180), GW180.out, GE180.out, (bl HB)⟩)
                      ·skip
                       rintro gb180 w35 ⟨h0_, h1_, h2_, h3_⟩
                       have n0_ : Aside0 (w35.heap[gb180]? = some (.cells #[.int .i64 0, .int .i64 0, .int .i64 0, .int .i64 0, .int .i64 0] 64 (0, 0))) := ⟨h0_⟩
                       have n1_ : Aside0 (w.heap.size ≤ gb180) := ⟨h1_⟩
                       have n2_ : Aside0 (w.heap.size ≤ gb180) := ⟨h2_⟩
                       have n3_ : Aside0 (Below w.heap.size w w35) := ⟨h3_⟩
                       clear HB
                       clear h0_ h1_ h2_ h3_
                       have BK180 := n0_
                       have GW180 := n1_
                       have GE180 := n2_
                       have HB := n3_
                       clear n0_ n1_ n2_ n3_
                       have hHeld := trivial
                       refine norm_ (a' := ?_) ?_ ?_
                       rotate_left
                       ·simp only [putAll, Act.put, List.setIfInBounds_toArray, List.set_cons_zero, List.set_cons_succ]
                        rfl
                       refine one_ (i := 5) (N := some 15) #[true, true, true, true, true, true, true, true, false, true, true, false, true, true, false, false, true, false] rfl rfl (one_of HT_.out (by kernel_rfl)) (by decide) (fun K hK => ?_)
                       refine goes_ Tryd.func98 (by kernel_rfl) rfl #[.string (a0.extract 5 7)] (by rfl) rfl rfl (by (try simp only [List.map_toArray, List.map_cons, List.map_nil]); first | done | rfl | (simp only [List.length_drop, List.length_take]; rfl)) ?_
                       with_reducible refine (spec_l2Number.calls k (a0.extract 5 7) t176 _ A8.out).mono ?_
                       rintro e w' ⟨rfl, ⟨nd, rfl⟩⟩
                       refine ⟨_, rfl, ?_⟩
                       refine hK.out _ _ trivial (fun hHeld => ?_)
                       clear hK K
                       refine norm_ (a' := ?_) ?_ ?_
                       rotate_left
                       ·show Act.put _ (some 15) _ = _
                        simp only [Act.put, List.setIfInBounds_toArray, List.set_cons_zero, List.set_cons_succ, i64_w, i32_w]
                        rfl
                       exact norm_ (by first | (simp only [putAll, Act.put, List.setIfInBounds_toArray, List.set_cons_zero, List.set_cons_succ]; done) | (simp only [putAll, Act.put, List.setIfInBounds_toArray, List.set_cons_zero, List.set_cons_succ]; rfl)) (hJ2_5_16 (gb180) _ ⟨(pk BK180), GW180.out, GE180.out, (bl HB)⟩)
                     ·skip
                      rintro _ w34 h0_
                      have n0_ : Aside0 (Below w.heap.size w w34) := ⟨h0_⟩
                      clear HB
                      clear h0_
                      have HB := n0_
                      clear n0_
                      have hHeld := trivial
                      refine norm_ (a' := ?_) ?_ ?_
                      rotate_left
                      ·simp only [putAll, Act.put, List.setIfInBounds_toArray, List.set_cons_zero, List.set_cons_succ]
                       rfl
                      refine two_ (i := 8) (j := 16) (Ni := some 18) (Nj := some 4) #[true, true, true, true, true, true, true, true, true, true, true, false, true, true, false, false, false, false] #[true, true, true, true, true, true, true, true, false, true, true, false, true, true, false, false, true, false] rfl rfl rfl rfl (two_of HT_.out (by kernel_rfl)) (by decide) (by decide) (fun K hK => ?_) (fun K hK => ?_)
                      ·skip
                       refine goes_ Tryd.func98 (by kernel_rfl) rfl #[.string (a0.extract 8 10)] (by rfl) rfl rfl (by (try simp only [List.map_toArray, List.map_cons, List.map_nil]); first | done | rfl | (simp only [List.length_drop, List.length_take]; rfl)) ?_
                       with_reducible refine (spec_l2Number.calls k (a0.extract 8 10) t177 _ A11.out).mono ?_
                       rintro e w' ⟨rfl, ⟨nd, rfl⟩⟩
                       refine ⟨_, rfl, ?_⟩
                       refine hK.out _ _ trivial (fun hHeld => ?_)
                       clear hK K
                       refine norm_ (a' := ?_) ?_ ?_
                       rotate_left
                       ·show Act.put _ (some 18) _ = _
                        simp only [Act.put, List.setIfInBounds_toArray, List.set_cons_zero, List.set_cons_succ, i64_w, i32_w]
                        rfl
                       exact norm_ (by first | (simp only [putAll, Act.put, List.setIfInBounds_toArray, List.set_cons_zero, List.set_cons_succ]; done) | (simp only [putAll, Act.put, List.setIfInBounds_toArray, List.set_cons_zero, List.set_cons_succ]; rfl)) (hJ2_5_8 () _ (bl HB))
                      ·skip
                       refine box_step ?hg (N := 4) ?hd (cs := #[.int .i64 0, .int .i64 0, .int .i64 0, .int .i64 0, .int .i64 0]) (t := 64) ?hr ?_; (case hd => rfl); (case hg => rfl); (case hr => first | (go_simp; done) | (go_simp; rfl))
                       intro gb180 hg w35 hbox hb
                       have n0_ := am (below_step (bl HB) hb)
                       have n1_ := am (hbox)
                       have n2_ := am ((by rw [hg]; exact (below_size (bl HB)) : w.heap.size ≤ gb180))
                       have n3_ := am ((by rw [hg]; exact (below_size (bl HB)) : w.heap.size ≤ gb180))
                       clear HB
                       have HB := n0_
                       have BK180 := n1_
                       have GW180 := n2_
                       have GE180 := n3_
                       clear n0_ n1_ n2_ n3_
                       clear hb hbox hg
                       refine hK.out _ _ trivial (fun hHeld => ?_)
                       clear hK K
                       refine norm_ (a' := ?_) ?_ ?_
                       rotate_left
                       ·show Act.put _ (some 4) _ = _
                        simp only [Act.put, List.setIfInBounds_toArray, List.set_cons_zero, List.set_cons_succ, i64_w, i32_w]
                        rfl
                       exact norm_ (by first | (simp only [putAll, Act.put, List.setIfInBounds_toArray, List.set_cons_zero, List.set_cons_succ]; done) | (simp only [putAll, Act.put, List.setIfInBounds_toArray, List.set_cons_zero, List.set_cons_succ]; rfl)) (hJ2_5_16 (gb180) _ ⟨(pk BK180), GW180.out, GE180.out, (bl HB)⟩)
                    ·skip
                     rintro gb180 w35 ⟨h0_, h1_, h2_, h3_⟩
                     have n0_ : Aside0 (w35.heap[gb180]? = some (.cells #[.int .i64 0, .int .i64 0, .int .i64 0, .int .i64 0, .int .i64 0] 64 (0, 0))) := ⟨h0_⟩
                     have n1_ : Aside0 (w.heap.size ≤ gb180) := ⟨h1_⟩
                     have n2_ : Aside0 (w.heap.size ≤ gb180) := ⟨h2_⟩
                     have n3_ : Aside0 (Below w.heap.size w w35) := ⟨h3_⟩
                     clear HB
                     clear h0_ h1_ h2_ h3_
                     have BK180 := n0_
                     have GW180 := n1_
                     have GE180 := n2_
                     have HB := n3_
                     clear n0_ n1_ n2_ n3_
                     have hHeld := trivial
                     refine norm_ (a' := ?_) ?_ ?_
                     rotate_left
                     ·simp only [putAll, Act.put, List.setIfInBounds_toArray, List.set_cons_zero, List.set_cons_succ]
                      rfl
                     refine one_ (i := 8) (N := some 18) #[true, true, true, true, true, true, true, true, true, true, true, false, true, true, false, false, true, false] rfl rfl (one_of HT_.out (by kernel_rfl)) (by decide) (fun K hK => ?_)
                     refine goes_ Tryd.func98 (by kernel_rfl) rfl #[.string (a0.extract 8 10)] (by rfl) rfl rfl (by (try simp only [List.map_toArray, List.map_cons, List.map_nil]); first | done | rfl | (simp only [List.length_drop, List.length_take]; rfl)) ?_
                     with_reducible refine (spec_l2Number.calls k (a0.extract 8 10) t177 _ A11.out).mono ?_
                     rintro e w' ⟨rfl, ⟨nd, rfl⟩⟩
                     refine ⟨_, rfl, ?_⟩
                     refine hK.out _ _ trivial (fun hHeld => ?_)
                     clear hK K
                     refine norm_ (a' := ?_) ?_ ?_
                     rotate_left
                     ·show Act.put _ (some 18) _ = _
                      simp only [Act.put, List.setIfInBounds_toArray, List.set_cons_zero, List.set_cons_succ, i64_w, i32_w]
                      rfl
                     exact norm_ (by first | (simp only [putAll, Act.put, List.setIfInBounds_toArray, List.set_cons_zero, List.set_cons_succ]; done) | (simp only [putAll, Act.put, List.setIfInBounds_toArray, List.set_cons_zero, List.set_cons_succ]; rfl)) (hJ2_5_8_16 (gb180) _ ⟨(pk BK180), GW180.out, GE180.out, (bl HB)⟩)
                   ·skip
                    rintro _ w34 h0_
                    have n0_ : Aside0 (Below w.heap.size w w34) := ⟨h0_⟩
                    clear HB
                    clear h0_
                    have HB := n0_
                    clear n0_
                    have hHeld := trivial
                    refine norm_ (a' := ?_) ?_ ?_
                    rotate_left
                    ·simp only [putAll, Act.put, List.setIfInBounds_toArray, List.set_cons_zero, List.set_cons_succ]
                     rfl
                    refine two_ (i := 11) (j := 16) (Ni := some 21) (Nj := some 4) #[true, true, true, true, true, true, true, true, true, true, true, true, true, true, false, false, false, false] #[true, true, true, true, true, true, true, true, true, true, true, false, true, true, false, false, true, false] rfl rfl rfl rfl (two_of HT_.out (by kernel_rfl)) (by decide) (by decide) (fun K hK => ?_) (fun K hK => ?_)
                    ·skip
                     refine goes_ Tryd.func98 (by kernel_rfl) rfl #[.string (a0.extract 11 13)] (by rfl) rfl rfl (by (try simp only [List.map_toArray, List.map_cons, List.map_nil]); first | done | rfl | (simp only [List.length_drop, List.length_take]; rfl)) ?_
                     with_reducible refine (spec_l2Number.calls k (a0.extract 11 13) t178 _ A14.out).mono ?_
                     rintro e w' ⟨rfl, ⟨nd, rfl⟩⟩
                     refine ⟨_, rfl, ?_⟩
                     refine hK.out _ _ trivial (fun hHeld => ?_)
                     clear hK K
                     refine norm_ (a' := ?_) ?_ ?_
                     rotate_left
                     ·show Act.put _ (some 21) _ = _
                      simp only [Act.put, List.setIfInBounds_toArray, List.set_cons_zero, List.set_cons_succ, i64_w, i32_w]
                      rfl
                     exact norm_ (by first | (simp only [putAll, Act.put, List.setIfInBounds_toArray, List.set_cons_zero, List.set_cons_succ]; done) | (simp only [putAll, Act.put, List.setIfInBounds_toArray, List.set_cons_zero, List.set_cons_succ]; rfl)) (hJ2_5_8_11 () _ (bl HB))
                    ·skip
                     refine box_step ?hg (N := 4) ?hd (cs := #[.int .i64 0, .int .i64 0, .int .i64 0, .int .i64 0, .int .i64 0]) (t := 64) ?hr ?_; (case hd => rfl); (case hg => rfl); (case hr => first | (go_simp; done) | (go_simp; rfl))
                     intro gb180 hg w35 hbox hb
                     have n0_ := am (below_step (bl HB) hb)
                     have n1_ := am (hbox)
                     have n2_ := am ((by rw [hg]; exact (below_size (bl HB)) : w.heap.size ≤ gb180))
                     have n3_ := am ((by rw [hg]; exact (below_size (bl HB)) : w.heap.size ≤ gb180))
                     clear HB
                     have HB := n0_
                     have BK180 := n1_
                     have GW180 := n2_
                     have GE180 := n3_
                     clear n0_ n1_ n2_ n3_
                     clear hb hbox hg
                     refine hK.out _ _ trivial (fun hHeld => ?_)
                     clear hK K
                     refine norm_ (a' := ?_) ?_ ?_
                     rotate_left
                     ·show Act.put _ (some 4) _ = _
                      simp only [Act.put, List.setIfInBounds_toArray, List.set_cons_zero, List.set_cons_succ, i64_w, i32_w]
                      rfl
                     exact norm_ (by first | (simp only [putAll, Act.put, List.setIfInBounds_toArray, List.set_cons_zero, List.set_cons_succ]; done) | (simp only [putAll, Act.put, List.setIfInBounds_toArray, List.set_cons_zero, List.set_cons_succ]; rfl)) (hJ2_5_8_16 (gb180) _ ⟨(pk BK180), GW180.out, GE180.out, (bl HB)⟩)
                  ·skip
                   rintro gb180 w35 ⟨h0_, h1_, h2_, h3_⟩
                   have n0_ : Aside0 (w35.heap[gb180]? = some (.cells #[.int .i64 0, .int .i64 0, .int .i64 0, .int .i64 0, .int .i64 0] 64 (0, 0))) := ⟨h0_⟩
                   have n1_ : Aside0 (w.heap.size ≤ gb180) := ⟨h1_⟩
                   have n2_ : Aside0 (w.heap.size ≤ gb180) := ⟨h2_⟩
                   have n3_ : Aside0 (Below w.heap.size w w35) := ⟨h3_⟩
                   clear HB
                   clear h0_ h1_ h2_ h3_
                   have BK180 := n0_
                   have GW180 := n1_
                   have GE180 := n2_
                   have HB := n3_
                   clear n0_ n1_ n2_ n3_
                   have hHeld := trivial
                   refine norm_ (a' := ?_) ?_ ?_
                   rotate_left
                   ·simp only [putAll, Act.put, List.setIfInBounds_toArray, List.set_cons_zero, List.set_cons_succ]
                    rfl
                   refine one_ (i := 11) (N := some 21) #[true, true, true, true, true, true, true, true, true, true, true, true, true, true, false, false, true, false] rfl rfl (one_of HT_.out (by kernel_rfl)) (by decide) (fun K hK => ?_)
                   refine goes_ Tryd.func98 (by kernel_rfl) rfl #[.string (a0.extract 11 13)] (by rfl) rfl rfl (by (try simp only [List.map_toArray, List.map_cons, List.map_nil]); first | done | rfl | (simp only [List.length_drop, List.length_take]; rfl)) ?_
                   with_reducible refine (spec_l2Number.calls k (a0.extract 11 13) t178 _ A14.out).mono ?_
                   rintro e w' ⟨rfl, ⟨nd, rfl⟩⟩
                   refine ⟨_, rfl, ?_⟩
                   refine hK.out _ _ trivial (fun hHeld => ?_)
                   clear hK K
                   refine norm_ (a' := ?_) ?_ ?_
                   rotate_left
                   ·show Act.put _ (some 21) _ = _
                    simp only [Act.put, List.setIfInBounds_toArray, List.set_cons_zero, List.set_cons_succ, i64_w, i32_w]
                    rfl
                   exact norm_ (by first | (simp only [putAll, Act.put, List.setIfInBounds_toArray, List.set_cons_zero, List.set_cons_succ]; done) | (simp only [putAll, Act.put, List.setIfInBounds_toArray, List.set_cons_zero, List.set_cons_succ]; rfl)) (hJ2_5_8_11_16 (gb180) _ ⟨(pk BK180), GW180.out, GE180.out, (bl HB)⟩)
                 ·skip
                  rintro _ w34 h0_
                  have n0_ : Aside0 (Below w.heap.size w w34) := ⟨h0_⟩
                  clear HB
                  clear h0_
                  have HB := n0_
                  clear n0_
                  have hHeld := trivial
                  refine norm_ (a' := ?_) ?_ ?_
                  rotate_left
                  ·simp only [putAll, Act.put, List.setIfInBounds_toArray, List.set_cons_zero, List.set_cons_succ]
                   rfl
                  refine two_ (i := 14) (j := 16) (Ni := some 24) (Nj := some 4) #[true, true, true, true, true, true, true, true, true, true, true, true, true, true, true, false, false, false] #[true, true, true, true, true, true, true, true, true, true, true, true, true, true, false, false, true, false] rfl rfl rfl rfl (two_of HT_.out (by kernel_rfl)) (by decide) (by decide) (fun K hK => ?_) (fun K hK => ?_)
                  ·skip
                   refine goes_ Tryd.func98 (by kernel_rfl) rfl #[.string (a0.extract 14 16)] (by rfl) rfl rfl (by (try simp only [List.map_toArray, List.map_cons, List.map_nil]); first | done | rfl | (simp only [List.length_drop, List.length_take]; rfl)) ?_
                   with_reducible refine (spec_l2Number.calls k (a0.extract 14 16) t179 _ A17.out).mono ?_
                   rintro e w' ⟨rfl, ⟨nd, rfl⟩⟩
                   refine ⟨_, rfl, ?_⟩
                   refine hK.out _ _ trivial (fun hHeld => ?_)
                   clear hK K
                   refine norm_ (a' := ?_) ?_ ?_
                   rotate_left
                   ·show Act.put _ (some 24) _ = _
                    simp only [Act.put, List.setIfInBounds_toArray, List.set_cons_zero, List.set_cons_succ, i64_w, i32_w]
                    rfl
                   refine pure_ (i := 15) (N := some 25) (v := ?_) (a' := ?_) #[true, true, true, true, true, true, true, true, true, true, true, true, true, true, true, true, false, false] rfl rfl (any_of HT_.out (by kernel_rfl)) (fun _ _ _ h => h) (Or.inl ⟨by rfl, ?_⟩) ?_ ?_
                   rotate_left
                   ·intro w'
                    go_simp
                    with_reducible rfl
                   rotate_left
                   ·simp only [Act.put, List.setIfInBounds_toArray, List.set_cons_zero, List.set_cons_succ, i64_w, i32_w]
                    rfl
                   exact norm_ (by first | (simp only [putAll, Act.put, List.setIfInBounds_toArray, List.set_cons_zero, List.set_cons_succ]; done) | (simp only [putAll, Act.put, List.setIfInBounds_toArray, List.set_cons_zero, List.set_cons_succ]; rfl)) (hJ2_5_8_11_14 () _ (bl HB))
                  ·skip
                   refine box_step ?hg (N := 4) ?hd (cs := #[.int .i64 0, .int .i64 0, .int .i64 0, .int .i64 0, .int .i64 0]) (t := 64) ?hr ?_; (case hd => rfl); (case hg => rfl); (case hr => first | (go_simp; done) | (go_simp; rfl))
                   intro gb180 hg w35 hbox hb
                   have n0_ := am (below_step (bl HB) hb)
                   have n1_ := am (hbox)
                   have n2_ := am ((by rw [hg]; exact (below_size (bl HB)) : w.heap.size ≤ gb180))
                   have n3_ := am ((by rw [hg]; exact (below_size (bl HB)) : w.heap.size ≤ gb180))
                   clear HB
                   have HB := n0_
                   have BK180 := n1_
                   have GW180 := n2_
                   have GE180 := n3_
                   clear n0_ n1_ n2_ n3_
                   clear hb hbox hg
                   refine hK.out _ _ trivial (fun hHeld => ?_)
                   clear hK K
                   refine norm_ (a' := ?_) ?_ ?_
                   rotate_left
                   ·show Act.put _ (some 4) _ = _
                    simp only [Act.put, List.setIfInBounds_toArray, List.set_cons_zero, List.set_cons_succ, i64_w, i32_w]
                    rfl
                   exact norm_ (by first | (simp only [putAll, Act.put, List.setIfInBounds_toArray, List.set_cons_zero, List.set_cons_succ]; done) | (simp only [putAll, Act.put, List.setIfInBounds_toArray, List.set_cons_zero, List.set_cons_succ]; rfl)) (hJ2_5_8_11_16 (gb180) _ ⟨(pk BK180), GW180.out, GE180.out, (bl HB)⟩)
                ·skip
                 rintro gb180 w35 ⟨h0_, h1_, h2_, h3_⟩
                 have n0_ : Aside0 (w35.heap[gb180]? = some (.cells #[.int .i64 0, .int .i64 0, .int .i64 0, .int .i64 0, .int .i64 0] 64 (0, 0))) := ⟨h0_⟩
                 have n1_ : Aside0 (w.heap.size ≤ gb180) := ⟨h1_⟩
                 have n2_ : Aside0 (w.heap.size ≤ gb180) := ⟨h2_⟩
                 have n3_ : Aside0 (Below w.heap.size w w35) := ⟨h3_⟩
                 clear HB
                 clear h0_ h1_ h2_ h3_
                 have BK180 := n0_
                 have GW180 := n1_
                 have GE180 := n2_
                 have HB := n3_
                 clear n0_ n1_ n2_ n3_
                 have hHeld := trivial
                 refine norm_ (a' := ?_) ?_ ?_
                 rotate_left
                 ·simp only [putAll, Act.put, List.setIfInBounds_toArray, List.set_cons_zero, List.set_cons_succ]
                  rfl
                 refine one_ (i := 14) (N := some 24) #[true, true, true, true, true, true, true, true, true, true, true, true, true, true, true, false, true, false] rfl rfl (one_of HT_.out (by kernel_rfl)) (by decide) (fun K hK => ?_)
                 refine goes_ Tryd.func98 (by kernel_rfl) rfl #[.string (a0.extract 14 16)] (by rfl) rfl rfl (by (try simp only [List.map_toArray, List.map_cons, List.map_nil]); first | done | rfl | (simp only [List.length_drop, List.length_take]; rfl)) ?_
                 with_reducible refine (spec_l2Number.calls k (a0.extract 14 16) t179 _ A17.out).mono ?_
                 rintro e w' ⟨rfl, ⟨nd, rfl⟩⟩
                 refine ⟨_, rfl, ?_⟩
                 refine hK.out _ _ trivial (fun hHeld => ?_)
                 clear hK K
                 refine norm_ (a' := ?_) ?_ ?_
                 rotate_left
                 ·show Act.put _ (some 24) _ = _
                  simp only [Act.put, List.setIfInBounds_toArray, List.set_cons_zero, List.set_cons_succ, i64_w, i32_w]
                  rfl
                 refine pure_ (i := 15) (N := some 25) (v := ?_) (a' := ?_) #[true, true, true, true, true, true, true, true, true, true, true, true, true, true, true, true, true, false] rfl rfl (any_of HT_.out (by kernel_rfl)) (fun _ _ _ h => h) (Or.inl ⟨by rfl, ?_⟩) ?_ ?_
                 rotate_left
                 ·intro w'
                  go_simp
                  with_reducible rfl
                 rotate_left
                 ·simp only [Act.put, List.setIfInBounds_toArray, List.set_cons_zero, List.set_cons_succ, i64_w, i32_w]
                  rfl
                 exact norm_ (by first | (simp only [putAll, Act.put, List.setIfInBounds_toArray, List.set_cons_zero, List.set_cons_succ]; done) | (simp only [putAll, Act.put, List.setIfInBounds_toArray, List.set_cons_zero, List.set_cons_succ]; rfl)) (hJ2_5_8_11_14_16 (gb180) _ ⟨(pk BK180), GW180.out, GE180.out, (bl HB)⟩)
               ·skip
                rintro _ w34 h0_
                have n0_ : Aside0 (Below w.heap.size w w34) := ⟨h0_⟩
                clear HB
                clear h0_
                have HB := n0_
                clear n0_
                have hHeld := trivial
                refine norm_ (a' := ?_) ?_ ?_
                rotate_left
                ·simp only [putAll, Act.put, List.setIfInBounds_toArray, List.set_cons_zero, List.set_cons_succ]
                 rfl
                refine one_ (i := 16) (N := some 4) #[true, true, true, true, true, true, true, true, true, true, true, true, true, true, true, true, true, false] rfl rfl (one_of HT_.out (by kernel_rfl)) (by decide) (fun K hK => ?_)
                refine box_step ?hg (N := 4) ?hd (cs := #[.int .i64 0, .int .i64 0, .int .i64 0, .int .i64 0, .int .i64 0]) (t := 64) ?hr ?_; (case hd => rfl); (case hg => rfl); (case hr => first | (go_simp; done) | (go_simp; rfl))
                intro gb180 hg w35 hbox hb
                have n0_ := am (below_step (bl HB) hb)
                have n1_ := am (hbox)
                have n2_ := am ((by rw [hg]; exact (below_size (bl HB)) : w.heap.size ≤ gb180))
                have n3_ := am ((by rw [hg]; exact (below_size (bl HB)) : w.heap.size ≤ gb180))
                clear HB
                have HB := n0_
                have BK180 := n1_
                have GW180 := n2_
                have GE180 := n3_
                clear n0_ n1_ n2_ n3_
                clear hb hbox hg
                refine hK.out _ _ trivial (fun hHeld => ?_)
                clear hK K
                refine norm_ (a' := ?_) ?_ ?_
                rotate_left
                ·show Act.put _ (some 4) _ = _
                 simp only [Act.put, List.setIfInBounds_toArray, List.set_cons_zero, List.set_cons_succ, i64_w, i32_w]
                 rfl
                exact norm_ (by first | (simp only [putAll, Act.put, List.setIfInBounds_toArray, List.set_cons_zero, List.set_cons_succ]; done) | (simp only [putAll, Act.put, List.setIfInBounds_toArray, List.set_cons_zero, List.set_cons_succ]; rfl)) (hJ2_5_8_11_14_16 (gb180) _ ⟨(pk BK180), GW180.out, GE180.out, (bl HB)⟩)
              rintro gb180 w35 ⟨h0_, h1_, h2_, h3_⟩
              have n0_ : Aside0 (w35.heap[gb180]? = some (.cells #[.int .i64 0, .int .i64 0, .int .i64 0, .int .i64 0, .int .i64 0] 64 (0, 0))) := ⟨h0_⟩
              have n1_ : Aside0 (w.heap.size ≤ gb180) := ⟨h1_⟩
              have n2_ : Aside0 (w.heap.size ≤ gb180) := ⟨h2_⟩
              have n3_ : Aside0 (Below w.heap.size w w35) := ⟨h3_⟩
              clear HB
              clear h0_ h1_ h2_ h3_
              have BK180 := n0_
              have GW180 := n1_
              have GE180 := n2_
              have HB := n3_
              clear n0_ n1_ n2_ n3_
              have hHeld := trivial
              refine norm_ (a' := ?_) ?_ ?_
              rotate_left
              ·simp only [putAll, Act.put, List.setIfInBounds_toArray, List.set_cons_zero, List.set_cons_succ]
               rfl
              refine one_ (i := 17) (N := none) #[true, true, true, true, true, true, true, true, true, true, true, true, true, true, true, true, true, true] rfl rfl (one_of HT_.out (by kernel_rfl)) (by decide) (fun K hK => ?_)
              have hs36 : w35.cell? ⟨gb180, 0, none⟩ = some (.int .i64 0) := (blk_cell BK180.out 0).trans rfl
              have hfs36 := blk_frozen BK180.out 0
              have hs37 : w35.cell? ⟨gb180, 1, none⟩ = some (.int .i64 0) := (blk_cell BK180.out 1).trans rfl
              have hfs37 := blk_frozen BK180.out 1
              have hs38 : w35.cell? ⟨gb180, 2, none⟩ = some (.int .i64 0) := (blk_cell BK180.out 2).trans rfl
              have hfs38 := blk_frozen BK180.out 2
              have hs39 : w35.cell? ⟨gb180, 3, none⟩ = some (.int .i64 0) := (blk_cell BK180.out 3).trans rfl
              have hfs39 := blk_frozen BK180.out 3
              have hs40 : w35.cell? ⟨gb180, 4, none⟩ = some (.int .i64 0) := (blk_cell BK180.out 4).trans rfl
              have hfs40 := blk_frozen BK180.out 4
              refine skip_ (w1 := ?_) (by rfl) rfl ?_ ?_
              rotate_left
              ·go_simp
               rfl
              refine hK.out _ _ trivial (fun hHeld => ?_)
              clear hK K
              refine done_ (done_of HT_.out (by kernel_rfl)) ?_
              have hz41 := cells5 BK180
              try go_wp2_with (first | ((with_reducible refine gate_callee (f := 99) rfl ?_); refine goesL_ (some 28) rfl rfl Tryd.func99 (by kernel_rfl) rfl #[.agg #[.int .i64 t175, .int .i64 t176, .int .i64 t177, .int .i64 t178, .int .i64 t179]] rfl (by (try simp only [List.map_toArray, List.map_cons, List.map_nil]); first | done | rfl | (simp only [List.length_drop, List.length_take]; rfl)) ?_; (with_reducible refine (spec_TimeOf.calls k t175 t176 t177 t178 t179 t181 true _ A18.out).mono ?_); rintro e w42 ⟨rfl, hb⟩; refine ⟨_, rfl, ?_⟩; have n0_ := am (blk_below (g := gb180) (o := .cells #[.int .i64 t175, .int .i64 t176, .int .i64 t177, .int .i64 t178, .int .i64 t179] 64 (0, 0)) (by (with_reducible repeat (first | refine blk_drewN ?_ _ | refine blk_drew ?_ | refine blk_alloc ?_ _)); refine blk_put (cs := #[.int .i64 t175, .int .i64 t176, .int .i64 t177, .int .i64 t178, .int .i64 0]) ?_ 4 _ (by first | rfl | simp [bne]); (with_reducible repeat (first | refine blk_drewN ?_ _ | refine blk_drew ?_ | refine blk_alloc ?_ _)); refine blk_put (cs := #[.int .i64 t175, .int .i64 t176, .int .i64 t177, .int .i64 0, .int .i64 0]) ?_ 3 _ (by first | rfl | simp [bne]); (with_reducible repeat (first | refine blk_drewN ?_ _ | refine blk_drew ?_ | refine blk_alloc ?_ _)); refine blk_put (cs := #[.int .i64 t175, .int .i64 t176, .int .i64 0, .int .i64 0, .int .i64 0]) ?_ 2 _ (by first | rfl | simp [bne]); (with_reducible repeat (first | refine blk_drewN ?_ _ | refine blk_drew ?_ | refine blk_alloc ?_ _)); refine blk_put (cs := #[.int .i64 t175, .int .i64 0, .int .i64 0, .int .i64 0, .int .i64 0]) ?_ 1 _ (by first | rfl | simp [bne]); (with_reducible repeat (first | refine blk_drewN ?_ _ | refine blk_drew ?_ | refine blk_alloc ?_ _)); refine blk_put (cs := #[.int .i64 0, .int .i64 0, .int .i64 0, .int .i64 0, .int .i64 0]) ?_ 0 _ (by first | rfl | simp [bne]); (with_reducible repeat (first | refine blk_drewN ?_ _ | refine blk_drew ?_ | refine blk_alloc ?_ _)); exact BK180.out) hb); have n1_ := am (below_step (bl HB) hb); clear BK180; clear HB; have BK180 := n0_; have HB := n1_; clear n0_ n1_; (try clear hb); (try clear hb2); (try clear hk); (try clear hi)) | (go_at_call 100; (with_reducible refine (spec_Stamp.calls k t181 t183 _ A20.out).mono ?_); rintro e w43 ⟨rfl, hb⟩; have n0_ := am (blk_below (pk BK180) hb); have n1_ := am (below_step (bl HB) hb); clear BK180; clear HB; have BK180 := n0_; have HB := n1_; clear n0_ n1_; (try clear hb); (try clear hb2); (try clear hk); (try clear hi)))
              go_ret2
              exact ⟨by first | rfl | (simp [errW_none, errW_some] <;> rfl) | (simp [*, errW_none, errW_some] <;> rfl), bl HB⟩
            ·replace c19 := Bool.eq_false_iff.mpr c19
             subst c19
             have H1 : (some (0, false)) = some (r1, r2) := by rw [if_neg (show ¬ (false = true) by decide)] at H; exact H
             clear H
             have H := H1
             clear H1
             simp only [Option.some.injEq, Prod.mk.injEq] at H
             obtain ⟨rfl, rfl⟩ := H
             go_enter Tryd.func43, Tryd.ntmps43
             try go_wp2
             have n0_ := am (below_drew1 HB.out)
             clear HB
             have HB := n0_
             clear n0_
             refine start_ (n := 18) (S := fun w' => True) (ds := []) #[false, false, false, false, false, false, false, false, false, false, false, false, false, false, false, false, false, false] (by kernel_rfl) rfl rfl trivial (fun hHeld => ?_); refine with_tabW spec_ReadStamp.tab3 spec_ReadStamp.bits3 (fun HT_ HW_ => ?_)
             generalize w.drew = w44 at HB hHeld ⊢
             refine pure_ (i := 0) (N := some 10) (v := ?_) (a' := ?_) #[true, false, false, false, false, false, false, false, false, false, false, false, false, false, false, false, false, false] rfl rfl (any_of HT_.out (by kernel_rfl)) (fun _ _ _ h => h) (Or.inl ⟨by rfl, ?_⟩) ?_ ?_
             rotate_left
             ·intro w'
              go_simp
              with_reducible rfl
             rotate_left
             ·simp only [Act.put, List.setIfInBounds_toArray, List.set_cons_zero, List.set_cons_succ, i64_w, i32_w]
              rfl
             refine pure_ (i := 1) (N := some 11) (v := ?_) (a' := ?_) #[true, true, false, false, false, false, false, false, false, false, false, false, false, false, false, false, false, false] rfl rfl (any_of HT_.out (by kernel_rfl)) (fun _ _ _ h => h) (Or.inl ⟨by rfl, ?_⟩) ?_ ?_
             rotate_left
             ·intro w'
              go_simp
              with_reducible rfl
             rotate_left
             ·simp only [Act.put, List.setIfInBounds_toArray, List.set_cons_zero, List.set_cons_succ, i64_w, i32_w]
              rfl
             refine pure_ (i := 3) (N := some 13) (v := ?_) (a' := ?_) #[true, true, false, true, false, false, false, false, false, false, false, false, false, false, false, false, false, false] rfl rfl (any_of HT_.out (by kernel_rfl)) (fun _ _ _ h => h) (Or.inl ⟨by rfl, ?_⟩) ?_ ?_
             rotate_left
             ·intro w'
              go_simp
              with_reducible rfl
             rotate_left
             ·simp only [Act.put, List.setIfInBounds_toArray, List.set_cons_zero, List.set_cons_succ, i64_w, i32_w]
              rfl
             refine pure_ (i := 4) (N := some 14) (v := ?_) (a' := ?_) #[true, true, false, true, true, false, false, false, false, false, false, false, false, false, false, false, false, false] rfl rfl (any_of HT_.out (by kernel_rfl)) (fun _ _ _ h => h) (Or.inl ⟨by rfl, ?_⟩) ?_ ?_
             rotate_left
             ·intro w'
              go_simp
              with_reducible rfl
             rotate_left
             ·simp only [Act.put, List.setIfInBounds_toArray, List.set_cons_zero, List.set_cons_succ, i64_w, i32_w]
              rfl
             refine pure_ (i := 6) (N := some 16) (v := ?_) (a' := ?_) #[true, true, false, true, true, false, true, false, false, false, false, false, false, false, false, false, false, false] rfl rfl (any_of HT_.out (by kernel_rfl)) (fun _ _ _ h => h) (Or.inl ⟨by rfl, ?_⟩) ?_ ?_
             rotate_left
             ·intro w'
              go_simp
              with_reducible rfl
             rotate_left
             ·simp only [Act.put, List.setIfInBounds_toArray, List.set_cons_zero, List.set_cons_succ, i64_w, i32_w]
              rfl
             refine pure_ (i := 7) (N := some 17) (v := ?_) (a' := ?_) #[true, true, false, true, true, false, true, true, false, false, false, false, false, false, false, false, false, false] rfl rfl (any_of HT_.out (by kernel_rfl)) (fun _ _ _ h => h) (Or.inl ⟨by rfl, ?_⟩) ?_ ?_
             rotate_left
             ·intro w'
              go_simp
              with_reducible rfl
             rotate_left
             ·simp only [Act.put, List.setIfInBounds_toArray, List.set_cons_zero, List.set_cons_succ, i64_w, i32_w]
              rfl
             refine pure_ (i := 9) (N := some 19) (v := ?_) (a' := ?_) #[true, true, false, true, true, false, true, true, false, true, false, false, false, false, false, false, false, false] rfl rfl (any_of HT_.out (by kernel_rfl)) (fun _ _ _ h => h) (Or.inl ⟨by rfl, ?_⟩) ?_ ?_
             rotate_left
             ·intro w'
              go_simp
              with_reducible rfl
             rotate_left
             ·simp only [Act.put, List.setIfInBounds_toArray, List.set_cons_zero, List.set_cons_succ, i64_w, i32_w]
              rfl
             refine pure_ (i := 10) (N := some 20) (v := ?_) (a' := ?_) #[true, true, false, true, true, false, true, true, false, true, true, false, false, false, false, false, false, false] rfl rfl (any_of HT_.out (by kernel_rfl)) (fun _ _ _ h => h) (Or.inl ⟨by rfl, ?_⟩) ?_ ?_
             rotate_left
             ·intro w'
              go_simp
              with_reducible rfl
             rotate_left
             ·simp only [Act.put, List.setIfInBounds_toArray, List.set_cons_zero, List.set_cons_succ, i64_w, i32_w]
              rfl
             refine pure_ (i := 12) (N := some 22) (v := ?_) (a' := ?_) #[true, true, false, true, true, false, true, true, false, true, true, false, true, false, false, false, false, false] rfl rfl (any_of HT_.out (by kernel_rfl)) (fun _ _ _ h => h) (Or.inl ⟨by rfl, ?_⟩) ?_ ?_
             rotate_left
             ·intro w'
              go_simp
              with_reducible rfl
             rotate_left
             ·simp only [Act.put, List.setIfInBounds_toArray, List.set_cons_zero, List.set_cons_succ, i64_w, i32_w]
              rfl
             refine pure_ (i := 13) (N := some 23) (v := ?_) (a' := ?_) #[true, true, false, true, true, false, true, true, false, true, true, false, true, true, false, false, false, false] rfl rfl (any_of HT_.out (by kernel_rfl)) (fun _ _ _ h => h) (Or.inl ⟨by rfl, ?_⟩) ?_ ?_
             rotate_left
             ·intro w'
              go_simp
              with_reducible rfl
             rotate_left
             ·simp only [Act.put, List.setIfInBounds_toArray, List.set_cons_zero, List.set_cons_succ, i64_w, i32_w]
              rfl
             refine join_ (σ := Nat) 1 #[true, true, true, true, true, true, true, true, true, true, true, true, true, true, true, true, true, false] (fun s_ => [(12, .int .i64 t175), (15, .int .i64 t176), (18, .int .i64 t177), (21, .int .i64 t178), (24, .int .i64 t179), (4, .pointer (some ⟨s_, 0, none⟩)), (25, .agg #[.int .i64 t175, .int .i64 t176, .int .i64 t177, .int .i64 t178, .int .i64 t179])]) (fun s_ w' => (w'.heap[s_]? = some (.cells #[.int .i64 0, .int .i64 0, .int .i64 0, .int .i64 0, .int .i64 0] 64 (0, 0))) ∧ (w.heap.size ≤ s_) ∧ (w.heap.size ≤ s_) ∧ (Below w.heap.size w w')) ?_ ?_
             rotate_left
             ·intro hJ2_5_8_11_14_16
              refine join_ (σ := Unit) 2 #[true, true, true, true, true, true, true, true, true, true, true, true, true, true, true, true, false, false] (fun s_ => [(12, .int .i64 t175), (15, .int .i64 t176), (18, .int .i64 t177), (21, .int .i64 t178), (24, .int .i64 t179), (25, .agg #[.int .i64 t175, .int .i64 t176, .int .i64 t177, .int .i64 t178, .int .i64 t179])]) (fun s_ w' => (Below w.heap.size w w')) ?_ ?_
              rotate_left
              ·intro hJ2_5_8_11_14
               refine join_ (σ := Nat) 3 #[true, true, true, true, true, true, true, true, true, true, true, true, true, true, false, false, true, false] (fun s_ => [(12, .int .i64 t175), (15, .int .i64 t176), (18, .int .i64 t177), (21, .int .i64 t178), (4, .pointer (some ⟨s_, 0, none⟩))]) (fun s_ w' => (w'.heap[s_]? = some (.cells #[.int .i64 0, .int .i64 0, .int .i64 0, .int .i64 0, .int .i64 0] 64 (0, 0))) ∧ (w.heap.size ≤ s_) ∧ (w.heap.size ≤ s_) ∧ (Below w.heap.size w w')) ?_ ?_
               rotate_left
               ·intro hJ2_5_8_11_16
                refine join_ (σ := Unit) 4 #[true, true, true, true, true, true, true, true, true, true, true, true, true, true, false, false, false, false] (fun s_ => [(12, .int .i64 t175), (15, .int .i64 t176), (18, .int .i64 t177), (21, .int .i64 t178)]) (fun s_ w' => (Below w.heap.size w w')) ?_ ?_
                rotate_left
                ·intro hJ2_5_8_11
                 refine join_ (σ := Nat) 4 #[true, true, true, true, true, true, true, true, true, true, true, false, true, true, false, false, true, false] (fun s_ => [(12, .int .i64 t175), (15, .int .i64 t176), (18, .int .i64 t177), (4, .pointer (some ⟨s_, 0, none⟩))]) (fun s_ w' => (w'.heap[s_]? = some (.cells #[.int .i64 0, .int .i64 0, .int .i64 0, .int .i64 0, .int .i64 0] 64 (0, 0))) ∧ (w.heap.size ≤ s_) ∧ (w.heap.size ≤ s_) ∧ (Below w.heap.size w w')) ?_ ?_
                 rotate_left
                 ·intro hJ2_5_8_16
                  refine join_ (σ := Unit) 5 #[true, true, true, true, true, true, true, true, true, true, true, false, true, true, false, false, false, false] (fun s_ => [(12, .int .i64 t175), (15, .int .i64 t176), (18, .int .i64 t177)]) (fun s_ w' => (Below w.heap.size w w')) ?_ ?_
                  rotate_left
                  ·intro hJ2_5_8
                   refine join_ (σ := Nat) 5 #[true, true, true, true, true, true, true, true, false, true, true, false, true, true, false, false, true, false] (fun s_ => [(12, .int .i64 t175), (15, .int .i64 t176), (4, .pointer (some ⟨s_, 0, none⟩))]) (fun s_ w' => (w'.heap[s_]? = some (.cells #[.int .i64 0, .int .i64 0, .int .i64 0, .int .i64 0, .int .i64 0] 64 (0, 0))) ∧ (w.heap.size ≤ s_) ∧ (w.heap.size ≤ s_) ∧ (Below w.heap.size w w')) ?_ ?_
                   rotate_left
                   ·intro hJ2_5_16
                    refine join_ (σ := Unit) 6 #[true, true, true, true, true, true, true, true, false, true, true, false, true, true, false, false, false, false] (fun s_ => [(12, .int .i64 t175), (15, .int .i64 t176)]) (fun s_ w' => (Below w.heap.size w w')) ?_ ?_
                    rotate_left
                    ·intro hJ2_5
                     refine join_ (σ := Nat) 6 #[true, true, true, true, true, false, true, true, false, true, true, false, true, true, false, false, true, false] (fun s_ => [(12, .int .i64 t175), (4, .pointer (some ⟨s_, 0, none⟩))]) (fun s_ w' => (w'.heap[s_]? = some (.cells #[.int .i64 0, .int .i64 0, .int .i64 0, .int .i64 0, .int .i64 0] 64 (0, 0))) ∧ (w.heap.size ≤ s_) ∧ (w.heap.size ≤ s_) ∧ (Below w.heap.size w w')) ?_ ?_
                     rotate_left
                     ·intro hJ2_16
                      refine join_ (σ := Unit) 7 #[true, true, true, true, true, false, true, true, false, true, true, false, true, true, false, false, false, false] (fun s_ => [(12, .int .i64 t175)]) (fun s_ w' => (Below w.heap.size w w')) ?_ ?_
                      rotate_left
                      ·intro hJ2
                       refine join_ (σ := Nat) 7 #[true, true, false, true, true, false, true, true, false, true, true, false, true, true, false, false, true, false] (fun s_ => [(4, .pointer (some ⟨s_, 0, none⟩))]) (fun s_ w' => (w'.heap[s_]? = some (.cells #[.int .i64 0, .int .i64 0, .int .i64 0, .int .i64 0, .int .i64 0] 64 (0, 0))) ∧ (w.heap.size ≤ s_) ∧ (w.heap.size ≤ s_) ∧ (Below w.heap.size w w')) ?_ ?_
                       rotate_left
                       ·intro hJ16
                        refine two_ (i := 2) (j := 16) (Ni := some 12) (Nj := some 4) #[true, true, true, true, true, false, true, true, false, true, true, false, true, true, false, false, false, false] #[true, true, false, true, true, false, true, true, false, true, true, false, true, true, false, false, true, false] rfl rfl rfl rfl (two_of HT_.out (by kernel_rfl)) (by decide) (by decide) (fun K hK => ?_) (fun K hK => ?_)
                        ·skip
                         refine goes_ Tryd.func98 (by kernel_rfl) rfl #[.string (a0.extract 0 4)] (by rfl) rfl rfl (by (try simp only [List.map_toArray, List.map_cons, List.map_nil]); first | done | rfl | (simp only [List.length_drop, List.length_take]; rfl)) ?_
                         with_reducible refine (spec_l2Number.calls k (a0.extract 0 4) t175 _ A5.out).mono ?_
                         rintro e w' ⟨rfl, ⟨nd, rfl⟩⟩
                         refine ⟨_, rfl, ?_⟩
                         refine hK.out _ _ trivial (fun hHeld => ?_)
                         clear hK K
                         refine norm_ (a' := ?_) ?_ ?_
                         rotate_left
                         ·show Act.put _ (some 12) _ = _
                          simp only [Act.put, List.setIfInBounds_toArray, List.set_cons_zero, List.set_cons_succ, i64_w, i32_w]
                          rfl
                         exact norm_ (by first | (simp only [putAll, Act.put, List.setIfInBounds_toArray, List.set_cons_zero, List.set_cons_succ]; done) | (simp only [putAll, Act.put, List.setIfInBounds_toArray, List.set_cons_zero, List.set_cons_succ]; rfl)) (hJ2 () _ (bl HB))
                        ·skip
                         refine box_step ?hg (N := 4) ?hd (cs := #[.int .i64 0, .int .i64 0, .int .i64 0, .int .i64 0, .int .i64 0]) (t := 64) ?hr ?_; (case hd => rfl); (case hg => rfl); (case hr => first | (go_simp; done) | (go_simp; rfl))
                         intro gb180 hg w45 hbox hb
                         have n0_ := am (below_step (bl HB) hb)
                         have n1_ := am (hbox)
                         have n2_ := am ((by rw [hg]; exact (below_size (bl HB)) : w.heap.size ≤ gb180))
                         have n3_ := am ((by rw [hg]; exact (below_size (bl HB)) : w.heap.size ≤ gb180))
                         clear HB
                         have HB := n0_
                         have BK180 := n1_
                         have GW180 := n2_
                         have GE180 := n3_
                         clear n0_ n1_ n2_ n3_
                         clear hb hbox hg
                         refine hK.out _ _ trivial (fun hHeld => ?_)
                         clear hK K
                         refine norm_ (a' := ?_) ?_ ?_
                         rotate_left
                         ·show Act.put _ (some 4) _ = _
                          simp only [Act.put, List.setIfInBounds_toArray, List.set_cons_zero, List.set_cons_succ, i64_w, i32_w]
                          rfl
                         exact norm_ (by first | (simp only [putAll, Act.put, List.setIfInBounds_toArray, List.set_cons_zero, List.set_cons_succ]; done) | (simp only [putAll, Act.put, List.setIfInBounds_toArray, List.set_cons_zero, List.set_cons_succ]; rfl)) (hJ16 (gb180) _ ⟨(pk BK180), GW180.out, GE180.out, (bl HB)⟩)
                       ·skip
                        rintro gb180 w46 ⟨h0_, h1_, h2_, h3_⟩
                        have n0_ : Aside0 (w46.heap[gb180]? = some (.cells #[.int .i64 0, .int .i64 0, .int .i64 0, .int .i64 0, .int .i64 0] 64 (0, 0))) := ⟨h0_⟩
                        have n1_ : Aside0 (w.heap.size ≤ gb180) := ⟨h1_⟩
                        have n2_ : Aside0 (w.heap.size ≤ gb180) := ⟨h2_⟩
                        have n3_ : Aside0 (Below w.heap.size w w46) := ⟨h3_⟩
                        clear HB
                        clear h0_ h1_ h2_ h3_
                        have BK180 := n0_
                        have GW180 := n1_
                        have GE180 := n2_
                        have HB := n3_
                        clear n0_ n1_ n2_ n3_
                        have hHeld := trivial
                        refine norm_ (a' := ?_) ?_ ?_
                        rotate_left
                        ·simp only [putAll, Act.put, List.setIfInBounds_toArray, List.set_cons_zero, List.set_cons_succ]
                         rfl
                        refine one_ (i := 2) (N := some 12) #[true, true, true, true, true, false, true, true, false, true, true, false, true, true, false, false, true, false] rfl rfl (one_of HT_.out (by kernel_rfl)) (by decide) (fun K hK => ?_)
                        refine goes_ Tryd.func98 (by kernel_rfl) rfl #[.string (a0.extract 0 4)] (by rfl) rfl rfl (by (try simp only [List.map_toArray, List.map_cons, List.map_nil]); first | done | rfl | (simp only [List.length_drop, List.length_take]; rfl)) ?_
                        with_reducible refine (spec_l2Number.calls k (a0.extract 0 4) t175 _ A5.out).mono ?_
                        rintro e w' ⟨rfl, ⟨nd, rfl⟩⟩
                        refine ⟨_, rfl, ?_⟩
                        refine hK.out _ _ trivial (fun hHeld => ?_)
                        clear hK K
                        refine norm_ (a' := ?_) ?_ ?_
                        rotate_left
                        ·show Act.put _ (some 12) _ = _
                         simp only [Act.put, List.setIfInBounds_toArray, List.set_cons_zero, List.set_cons_succ, i64_w, i32_w]
                         rfl
                        exact norm_ (by first | (simp only [putAll, Act.put, List.setIfInBounds_toArray, List.set_cons_zero, List.set_cons_succ]; done) | (simp only [putAll, Act.put, List.setIfInBounds_toArray, List.set_cons_zero, List.set_cons_succ]; rfl)) (hJ2_16 (gb180) _ ⟨(pk BK180), GW180.out, GE180.out, (bl HB)⟩)
                      ·skip
                       rintro _ w45 h0_
                       have n0_ : Aside0 (Below w.heap.size w w45) := ⟨h0_⟩
                       clear HB
                       clear h0_
                       have HB := n0_
                       clear n0_
                       have hHeld := trivial
                       refine norm_ (a' := ?_) ?_ ?_
                       rotate_left
                       ·simp only [putAll, Act.put, List.setIfInBounds_toArray, List.set_cons_zero, List.set_cons_succ]
                        rfl
                       refine two_ (i := 5) (j := 16) (Ni := some 15) (Nj := some 4) #[true, true, true, true, true, true, true, true, false, true, true, false, true, true, false, false, false, false] #[true, true, true, true, true, false, true, true, false, true, true, false, true, true, false, false, true, false] rfl rfl rfl rfl (two_of HT_.out (by kernel_rfl)) (by decide) (by decide) (fun K hK => ?_) (fun K hK => ?_)
                       ·skip
                        refine goes_ Tryd.func98 (by kernel_rfl) rfl #[.string (a0.extract 5 7)] (by rfl) rfl rfl (by (try simp only [List.map_toArray, List.map_cons, List.map_nil]); first | done | rfl | (simp only [List.length_drop, List.length_take]; rfl)) ?_
                        with_reducible refine (spec_l2Number.calls k (a0.extract 5 7) t176 _ A8.out).mono ?_
                        rintro e w' ⟨rfl, ⟨nd, rfl⟩⟩
                        refine ⟨_, rfl, ?_⟩
                        refine hK.out _ _ trivial (fun hHeld => ?_)
                        clear hK K
                        refine norm_ (a' := ?_) ?_ ?_
                        rotate_left
                        ·show Act.put _ (some 15) _ = _
                         simp only [Act.put, List.setIfInBounds_toArray, List.set_cons_zero, List.set_cons_succ, i64_w, i32_w]
                         rfl
                        exact norm_ (by first | (simp only [putAll, Act.put, List.setIfInBounds_toArray, List.set_cons_zero, List.set_cons_succ]; done) | (simp only [putAll, Act.put, List.setIfInBounds_toArray, List.set_cons_zero, List.set_cons_succ]; rfl)) (hJ2_5 () _ (bl HB))
                       ·skip
                        refine box_step ?hg (N := 4) ?hd (cs := #[.int .i64 0, .int .i64 0, .int .i64 0, .int .i64 0, .int .i64 0]) (t := 64) ?hr ?_; (case hd => rfl); (case hg => rfl); (case hr => first | (go_simp; done) | (go_simp; rfl))
                        intro gb180 hg w46 hbox hb
                        have n0_ := am (below_step (bl HB) hb)
                        have n1_ := am (hbox)
                        have n2_ := am ((by rw [hg]; exact (below_size (bl HB)) : w.heap.size ≤ gb180))
                        have n3_ := am ((by rw [hg]; exact (below_size (bl HB)) : w.heap.size ≤ gb180))
                        clear HB
                        have HB := n0_
                        have BK180 := n1_
                        have GW180 := n2_
                        have GE180 := n3_
                        clear n0_ n1_ n2_ n3_
                        clear hb hbox hg
                        refine hK.out _ _ trivial (fun hHeld => ?_)
                        clear hK K
                        refine norm_ (a' := ?_) ?_ ?_
                        rotate_left
                        ·show Act.put _ (some 4) _ = _
                         simp only [Act.put, List.setIfInBounds_toArray, List.set_cons_zero, List.set_cons_succ, i64_w, i32_w]
                         rfl
                        exact norm_ (by first | (simp only [putAll, Act.put, List.setIfInBounds_toArray, List.set_cons_zero, List.set_cons_succ]; done) | (simp only [putAll, Act.put, List.setIfInBounds_toArray, List.set_cons_zero, List.set_cons_succ]; rfl)) (hJ2_16 (gb180) _ ⟨(pk BK180), GW180.out, GE180.out, (bl HB)⟩)
                     ·skip
                      rintro gb180 w46 ⟨h0_, h1_, h2_, h3_⟩
                      have n0_ : Aside0 (w46.heap[gb180]? = some (.cells #[.int .i64 0, .int .i64 0, .int .i64 0, .int .i64 0, .int .i64 0] 64 (0, 0))) := ⟨h0_⟩
                      have n1_ : Aside0 (w.heap.size ≤ gb180) := ⟨h1_⟩
                      have n2_ : Aside0 (w.heap.size ≤ gb180) := ⟨h2_⟩
                      have n3_ : Aside0 (Below w.heap.size w w46) := ⟨h3_⟩
                      clear HB
                      clear h0_ h1_ h2_ h3_
                      have BK180 := n0_
                      have GW180 := n1_
                      have GE180 := n2_
                      have HB := n3_
                      clear n0_ n1_ n2_ n3_
                      have hHeld := trivial
                      refine norm_ (a' := ?_) ?_ ?_
                      rotate_left
                      ·simp only [putAll, Act.put, List.setIfInBounds_toArray, List.set_cons_zero, List.set_cons_succ]
                       rfl
                      refine one_ (i := 5) (N := some 15) #[true, true, true, true, true, true, true, true, false, true, true, false, true, true, false, false, true, false] rfl rfl (one_of HT_.out (by kernel_rfl)) (by decide) (fun K hK => ?_)
                      refine goes_ Tryd.func98 (by kernel_rfl) rfl #[.string (a0.extract 5 7)] (by rfl) rfl rfl (by (try simp only [List.map_toArray, List.map_cons, List.map_nil]); first | done | rfl | (simp only [List.length_drop, List.length_take]; rfl)) ?_
                      with_reducible refine (spec_l2Number.calls k (a0.extract 5 7) t176 _ A8.out).mono ?_
                      rintro e w' ⟨rfl, ⟨nd, rfl⟩⟩
                      refine ⟨_, rfl, ?_⟩
                      refine hK.out _ _ trivial (fun hHeld => ?_)
                      clear hK K
                      refine norm_ (a' := ?_) ?_ ?_
                      rotate_left
                      ·show Act.put _ (some 15) _ = _
                       simp only [Act.put, List.setIfInBounds_toArray, List.set_cons_zero, List.set_cons_succ, i64_w, i32_w]
                       rfl
                      exact norm_ (by first | (simp only [putAll, Act.put, List.setIfInBounds_toArray, List.set_cons_zero, List.set_cons_succ]; done) | (simp only [putAll, Act.put, List.setIfInBounds_toArray, List.set_cons_zero, List.set_cons_succ]; rfl)) (hJ2_5_16 (gb180) _ ⟨(pk BK180), GW180.out, GE180.out, (bl HB)⟩)
                    ·skip
                     rintro _ w45 h0_
                     have n0_ : Aside0 (Below w.heap.size w w45) := ⟨h0_⟩
                     clear HB
                     clear h0_
                     have HB := n0_
                     clear n0_
                     have hHeld := trivial
                     refine norm_ (a' := ?_) ?_ ?_
                     rotate_left
                     ·simp only [putAll, Act.put, List.setIfInBounds_toArray, List.set_cons_zero, List.set_cons_succ]
                      rfl
                     refine two_ (i := 8) (j := 16) (Ni := some 18) (Nj := some 4) #[true, true, true, true, true, true, true, true, true, true, true, false, true, true, false, false, false, false] #[true, true, true, true, true, true, true, true, false, true, true, false, true, true, false, false, true, false] rfl rfl rfl rfl (two_of HT_.out (by kernel_rfl)) (by decide) (by decide) (fun K hK => ?_) (fun K hK => ?_)
                     ·skip
                      refine goes_ Tryd.func98 (by kernel_rfl) rfl #[.string (a0.extract 8 10)] (by rfl) rfl rfl (by (try simp only [List.map_toArray, List.map_cons, List.map_nil]); first | done | rfl | (simp only [List.length_drop, List.length_take]; rfl)) ?_
                      with_reducible refine (spec_l2Number.calls k (a0.extract 8 10) t177 _ A11.out).mono ?_
                      rintro e w' ⟨rfl, ⟨nd, rfl⟩⟩
                      refine ⟨_, rfl, ?_⟩
                      refine hK.out _ _ trivial (fun hHeld => ?_)
                      clear hK K
                      refine norm_ (a' := ?_) ?_ ?_
                      rotate_left
                      ·show Act.put _ (some 18) _ = _
                       simp only [Act.put, List.setIfInBounds_toArray, List.set_cons_zero, List.set_cons_succ, i64_w, i32_w]
                       rfl
                      exact norm_ (by first | (simp only [putAll, Act.put, List.setIfInBounds_toArray, List.set_cons_zero, List.set_cons_succ]; done) | (simp only [putAll, Act.put, List.setIfInBounds_toArray, List.set_cons_zero, List.set_cons_succ]; rfl)) (hJ2_5_8 () _ (bl HB))
                     ·skip
                      refine box_step ?hg (N := 4) ?hd (cs := #[.int .i64 0, .int .i64 0, .int .i64 0, .int .i64 0, .int .i64 0]) (t := 64) ?hr ?_; (case hd => rfl); (case hg => rfl); (case hr => first | (go_simp; done) | (go_simp; rfl))
                      intro gb180 hg w46 hbox hb
                      have n0_ := am (below_step (bl HB) hb)
                      have n1_ := am (hbox)
                      have n2_ := am ((by rw [hg]; exact (below_size (bl HB)) : w.heap.size ≤ gb180))
                      have n3_ := am ((by rw [hg]; exact (below_size (bl HB)) : w.heap.size ≤ gb180))
                      clear HB
                      have HB := n0_
                      have BK180 := n1_
                      have GW180 := n2_
                      have GE180 := n3_
                      clear n0_ n1_ n2_ n3_
                      clear hb hbox hg
                      refine hK.out _ _ trivial (fun hHeld => ?_)
                      clear hK K
                      refine norm_ (a' := ?_) ?_ ?_
                      rotate_left
                      ·show Act.put _ (some 4) _ = _
                       simp only [Act.put, List.setIfInBounds_toArray, List.set_cons_zero, List.set_cons_succ, i64_w, i32_w]
                       rfl
                      exact norm_ (by first | (simp only [putAll, Act.put, List.setIfInBounds_toArray, List.set_cons_zero, List.set_cons_succ]; done) | (simp only [putAll, Act.put, List.setIfInBounds_toArray, List.set_cons_zero, List.set_cons_succ]; rfl)) (hJ2_5_16 (gb180) _ ⟨(pk BK180), GW180.out, GE180.out, (bl HB)⟩)
                   ·skip
                    rintro gb180 w46 ⟨h0_, h1_, h2_, h3_⟩
                    have n0_ : Aside0 (w46.heap[gb180]? = some (.cells #[.int .i64 0, .int .i64 0, .int .i64 0, .int .i64 0, .int .i64 0] 64 (0, 0))) := ⟨h0_⟩
                    have n1_ : Aside0 (w.heap.size ≤ gb180) := ⟨h1_⟩
                    have n2_ : Aside0 (w.heap.size ≤ gb180) := ⟨h2_⟩
                    have n3_ : Aside0 (Below w.heap.size w w46) := ⟨h3_⟩
                    clear HB
                    clear h0_ h1_ h2_ h3_
                    have BK180 := n0_
                    have GW180 := n1_
                    have GE180 := n2_
                    have HB := n3_
                    clear n0_ n1_ n2_ n3_
                    have hHeld := trivial
                    refine norm_ (a' := ?_) ?_ ?_
                    rotate_left
                    ·simp only [putAll, Act.put, List.setIfInBounds_toArray, List.set_cons_zero, List.set_cons_succ]
                     rfl
                    refine one_ (i := 8) (N := some 18) #[true, true, true, true, true, true, true, true, true, true, true, false, true, true, false, false, true, false] rfl rfl (one_of HT_.out (by kernel_rfl)) (by decide) (fun K hK => ?_)
                    refine goes_ Tryd.func98 (by kernel_rfl) rfl #[.string (a0.extract 8 10)] (by rfl) rfl rfl (by (try simp only [List.map_toArray, List.map_cons, List.map_nil]); first | done | rfl | (simp only [List.length_drop, List.length_take]; rfl)) ?_
                    with_reducible refine (spec_l2Number.calls k (a0.extract 8 10) t177 _ A11.out).mono ?_
                    rintro e w' ⟨rfl, ⟨nd, rfl⟩⟩
                    refine ⟨_, rfl, ?_⟩
                    refine hK.out _ _ trivial (fun hHeld => ?_)
                    clear hK K
                    refine norm_ (a' := ?_) ?_ ?_
                    rotate_left
                    ·show Act.put _ (some 18) _ = _
                     simp only [Act.put, List.setIfInBounds_toArray, List.set_cons_zero, List.set_cons_succ, i64_w, i32_w]
                     rfl
                    exact norm_ (by first | (simp only [putAll, Act.put, List.setIfInBounds_toArray, List.set_cons_zero, List.set_cons_succ]; done) | (simp only [putAll, Act.put, List.setIfInBounds_toArray, List.set_cons_zero, List.set_cons_succ]; rfl)) (hJ2_5_8_16 (gb180) _ ⟨(pk BK180), GW180.out, GE180.out, (bl HB)⟩)
                  ·skip
                   rintro _ w45 h0_
                   have n0_ : Aside0 (Below w.heap.size w w45) := ⟨h0_⟩
                   clear HB
                   clear h0_
                   have HB := n0_
                   clear n0_
                   have hHeld := trivial
                   refine norm_ (a' := ?_) ?_ ?_
                   rotate_left
                   ·simp only [putAll, Act.put, List.setIfInBounds_toArray, List.set_cons_zero, List.set_cons_succ]
                    rfl
                   refine two_ (i := 11) (j := 16) (Ni := some 21) (Nj := some 4) #[true, true, true, true, true, true, true, true, true, true, true, true, true, true, false, false, false, false] #[true, true, true, true, true, true, true, true, true, true, true, false, true, true, false, false, true, false] rfl rfl rfl rfl (two_of HT_.out (by kernel_rfl)) (by decide) (by decide) (fun K hK => ?_) (fun K hK => ?_)
                   ·skip
                    refine goes_ Tryd.func98 (by kernel_rfl) rfl #[.string (a0.extract 11 13)] (by rfl) rfl rfl (by (try simp only [List.map_toArray, List.map_cons, List.map_nil]); first | done | rfl | (simp only [List.length_drop, List.length_take]; rfl)) ?_
                    with_reducible refine (spec_l2Number.calls k (a0.extract 11 13) t178 _ A14.out).mono ?_
                    rintro e w' ⟨rfl, ⟨nd, rfl⟩⟩
                    refine ⟨_, rfl, ?_⟩
                    refine hK.out _ _ trivial (fun hHeld => ?_)
                    clear hK K
                    refine norm_ (a' := ?_) ?_ ?_
                    rotate_left
                    ·show Act.put _ (some 21) _ = _
                     simp only [Act.put, List.setIfInBounds_toArray, List.set_cons_zero, List.set_cons_succ, i64_w, i32_w]
                     rfl
                    exact norm_ (by first | (simp only [putAll, Act.put, List.setIfInBounds_toArray, List.set_cons_zero, List.set_cons_succ]; done) | (simp only [putAll, Act.put, List.setIfInBounds_toArray, List.set_cons_zero, List.set_cons_succ]; rfl)) (hJ2_5_8_11 () _ (bl HB))
                   ·skip
                    refine box_step ?hg (N := 4) ?hd (cs := #[.int .i64 0, .int .i64 0, .int .i64 0, .int .i64 0, .int .i64 0]) (t := 64) ?hr ?_; (case hd => rfl); (case hg => rfl); (case hr => first | (go_simp; done) | (go_simp; rfl))
                    intro gb180 hg w46 hbox hb
                    have n0_ := am (below_step (bl HB) hb)
                    have n1_ := am (hbox)
                    have n2_ := am ((by rw [hg]; exact (below_size (bl HB)) : w.heap.size ≤ gb180))
                    have n3_ := am ((by rw [hg]; exact (below_size (bl HB)) : w.heap.size ≤ gb180))
                    clear HB
                    have HB := n0_
                    have BK180 := n1_
                    have GW180 := n2_
                    have GE180 := n3_
                    clear n0_ n1_ n2_ n3_
                    clear hb hbox hg
                    refine hK.out _ _ trivial (fun hHeld => ?_)
                    clear hK K
                    refine norm_ (a' := ?_) ?_ ?_
                    rotate_left
                    ·show Act.put _ (some 4) _ = _
                     simp only [Act.put, List.setIfInBounds_toArray, List.set_cons_zero, List.set_cons_succ, i64_w, i32_w]
                     rfl
                    exact norm_ (by first | (simp only [putAll, Act.put, List.setIfInBounds_toArray, List.set_cons_zero, List.set_cons_succ]; done) | (simp only [putAll, Act.put, List.setIfInBounds_toArray, List.set_cons_zero, List.set_cons_succ]; rfl)) (hJ2_5_8_16 (gb180) _ ⟨(pk BK180), GW180.out, GE180.out, (bl HB)⟩)
                 ·skip
                  rintro gb180 w46 ⟨h0_, h1_, h2_, h3_⟩
                  have n0_ : Aside0 (w46.heap[gb180]? = some (.cells #[.int .i64 0, .int .i64 0, .int .i64 0, .int .i64 0, .int .i64 0] 64 (0, 0))) := ⟨h0_⟩
                  have n1_ : Aside0 (w.heap.size ≤ gb180) := ⟨h1_⟩
                  have n2_ : Aside0 (w.heap.size ≤ gb180) := ⟨h2_⟩
                  have n3_ : Aside0 (Below w.heap.size w w46) := ⟨h3_⟩
                  clear HB
                  clear h0_ h1_ h2_ h3_
                  have BK180 := n0_
                  have GW180 := n1_
                  have GE180 := n2_
                  have HB := n3_
                  clear n0_ n1_ n2_ n3_
                  have hHeld := trivial
                  refine norm_ (a' := ?_) ?_ ?_
                  rotate_left
                  ·simp only [putAll, Act.put, List.setIfInBounds_toArray, List.set_cons_zero, List.set_cons_succ]
                   rfl
                  refine one_ (i := 11) (N := some 21) #[true, true, true, true, true, true, true, true, true, true, true, true, true, true, false, false, true, false] rfl rfl (one_of HT_.out (by kernel_rfl)) (by decide) (fun K hK => ?_)
                  refine goes_ Tryd.func98 (by kernel_rfl) rfl #[.string (a0.extract 11 13)] (by rfl) rfl rfl (by (try simp only [List.map_toArray, List.map_cons, List.map_nil]); first | done | rfl | (simp only [List.length_drop, List.length_take]; rfl)) ?_
                  with_reducible refine (spec_l2Number.calls k (a0.extract 11 13) t178 _ A14.out).mono ?_
                  rintro e w' ⟨rfl, ⟨nd, rfl⟩⟩
                  refine ⟨_, rfl, ?_⟩
                  refine hK.out _ _ trivial (fun hHeld => ?_)
                  clear hK K
                  refine norm_ (a' := ?_) ?_ ?_
                  rotate_left
                  ·show Act.put _ (some 21) _ = _
                   simp only [Act.put, List.setIfInBounds_toArray, List.set_cons_zero, List.set_cons_succ, i64_w, i32_w]
                   rfl
                  exact norm_ (by first | (simp only [putAll, Act.put, List.setIfInBounds_toArray, List.set_cons_zero, List.set_cons_succ]; done) | (simp only [putAll, Act.put, List.setIfInBounds_toArray, List.set_cons_zero, List.set_cons_succ]; rfl)) (hJ2_5_8_11_16 (gb180) _ ⟨(pk BK180), GW180.out, GE180.out, (bl HB)⟩)
                ·skip
                 rintro _ w45 h0_
                 have n0_ : Aside0 (Below w.heap.size w w45) := ⟨h0_⟩
                 clear HB
                 clear h0_
                 have HB := n0_
                 clear n0_
                 have hHeld := trivial
                 refine norm_ (a' := ?_) ?_ ?_
                 rotate_left
                 ·simp only [putAll, Act.put, List.setIfInBounds_toArray, List.set_cons_zero, List.set_cons_succ]
                  rfl
                 refine two_ (i := 14) (j := 16) (Ni := some 24) (Nj := some 4) #[true, true, true, true, true, true, true, true, true, true, true, true, true, true, true, false, false, false] #[true, true, true, true, true, true, true, true, true, true, true, true, true, true, false, false, true, false] rfl rfl rfl rfl (two_of HT_.out (by kernel_rfl)) (by decide) (by decide) (fun K hK => ?_) (fun K hK => ?_)
                 ·skip
                  refine goes_ Tryd.func98 (by kernel_rfl) rfl #[.string (a0.extract 14 16)] (by rfl) rfl rfl (by (try simp only [List.map_toArray, List.map_cons, List.map_nil]); first | done | rfl | (simp only [List.length_drop, List.length_take]; rfl)) ?_
                  with_reducible refine (spec_l2Number.calls k (a0.extract 14 16) t179 _ A17.out).mono ?_
                  rintro e w' ⟨rfl, ⟨nd, rfl⟩⟩
                  refine ⟨_, rfl, ?_⟩
                  refine hK.out _ _ trivial (fun hHeld => ?_)
                  clear hK K
                  refine norm_ (a' := ?_) ?_ ?_
                  rotate_left
                  ·show Act.put _ (some 24) _ = _
                   simp only [Act.put, List.setIfInBounds_toArray, List.set_cons_zero, List.set_cons_succ, i64_w, i32_w]
                   rfl
                  refine pure_ (i := 15) (N := some 25) (v := ?_) (a' := ?_) #[true, true, true, true, true, true, true, true, true, true, true, true, true, true, true, true, false, false] rfl rfl (any_of HT_.out (by kernel_rfl)) (fun _ _ _ h => h) (Or.inl ⟨by rfl, ?_⟩) ?_ ?_
                  rotate_left
                  ·intro w'
                   go_simp
                   with_reducible rfl
                  rotate_left
                  ·simp only [Act.put, List.setIfInBounds_toArray, List.set_cons_zero, List.set_cons_succ, i64_w, i32_w]
                   rfl
                  exact norm_ (by first | (simp only [putAll, Act.put, List.setIfInBounds_toArray, List.set_cons_zero, List.set_cons_succ]; done) | (simp only [putAll, Act.put, List.setIfInBounds_toArray, List.set_cons_zero, List.set_cons_succ]; rfl)) (hJ2_5_8_11_14 () _ (bl HB))
                 ·skip
                  refine box_step ?hg (N := 4) ?hd (cs := #[.int .i64 0, .int .i64 0, .int .i64 0, .int .i64 0, .int .i64 0]) (t := 64) ?hr ?_; (case hd => rfl); (case hg => rfl); (case hr => first | (go_simp; done) | (go_simp; rfl))
                  intro gb180 hg w46 hbox hb
                  have n0_ := am (below_step (bl HB) hb)
                  have n1_ := am (hbox)
                  have n2_ := am ((by rw [hg]; exact (below_size (bl HB)) : w.heap.size ≤ gb180))
                  have n3_ := am ((by rw [hg]; exact (below_size (bl HB)) : w.heap.size ≤ gb180))
                  clear HB
                  have HB := n0_
                  have BK180 := n1_
                  have GW180 := n2_
                  have GE180 := n3_
                  clear n0_ n1_ n2_ n3_
                  clear hb hbox hg
                  refine hK.out _ _ trivial (fun hHeld => ?_)
                  clear hK K
                  refine norm_ (a' := ?_) ?_ ?_
                  rotate_left
                  ·show Act.put _ (some 4) _ = _
                   simp only [Act.put, List.setIfInBounds_toArray, List.set_cons_zero, List.set_cons_succ, i64_w, i32_w]
                   rfl
                  exact norm_ (by first | (simp only [putAll, Act.put, List.setIfInBounds_toArray, List.set_cons_zero, List.set_cons_succ]; done) | (simp only [putAll, Act.put, List.setIfInBounds_toArray, List.set_cons_zero, List.set_cons_succ]; rfl)) (hJ2_5_8_11_16 (gb180) _ ⟨(pk BK180), GW180.out, GE180.out, (bl HB)⟩)
               ·skip
                rintro gb180 w46 ⟨h0_, h1_, h2_, h3_⟩
                have n0_ : Aside0 (w46.heap[gb180]? = some (.cells #[.int .i64 0, .int .i64 0, .int .i64 0, .int .i64 0, .int .i64 0] 64 (0, 0))) := ⟨h0_⟩
                have n1_ : Aside0 (w.heap.size ≤ gb180) := ⟨h1_⟩
                have n2_ : Aside0 (w.heap.size ≤ gb180) := ⟨h2_⟩
                have n3_ : Aside0 (Below w.heap.size w w46) := ⟨h3_⟩
                clear HB
                clear h0_ h1_ h2_ h3_
                have BK180 := n0_
                have GW180 := n1_
                have GE180 := n2_
                have HB := n3_
                clear n0_ n1_ n2_ n3_
                have hHeld := trivial
                refine norm_ (a' := ?_) ?_ ?_
                rotate_left
                ·simp only [putAll, Act.put, List.setIfInBounds_toArray, List.set_cons_zero, List.set_cons_succ]
                 rfl
                refine one_ (i := 14) (N := some 24) #[true, true, true, true, true, true, true, true, true, true, true, true, true, true, true, false, true, false] rfl rfl (one_of HT_.out (by kernel_rfl)) (by decide) (fun K hK => ?_)
                refine goes_ Tryd.func98 (by kernel_rfl) rfl #[.string (a0.extract 14 16)] (by rfl) rfl rfl (by (try simp only [List.map_toArray, List.map_cons, List.map_nil]); first | done | rfl | (simp only [List.length_drop, List.length_take]; rfl)) ?_
                with_reducible refine (spec_l2Number.calls k (a0.extract 14 16) t179 _ A17.out).mono ?_
                rintro e w' ⟨rfl, ⟨nd, rfl⟩⟩
                refine ⟨_, rfl, ?_⟩
                refine hK.out _ _ trivial (fun hHeld => ?_)
                clear hK K
                refine norm_ (a' := ?_) ?_ ?_
                rotate_left
                ·show Act.put _ (some 24) _ = _
                 simp only [Act.put, List.setIfInBounds_toArray, List.set_cons_zero, List.set_cons_succ, i64_w, i32_w]
                 rfl
                refine pure_ (i := 15) (N := some 25) (v := ?_) (a' := ?_) #[true, true, true, true, true, true, true, true, true, true, true, true, true, true, true, true, true, false] rfl rfl (any_of HT_.out (by kernel_rfl)) (fun _ _ _ h => h) (Or.inl ⟨by rfl, ?_⟩) ?_ ?_
                rotate_left
                ·intro w'
                 go_simp
                 with_reducible rfl
                rotate_left
                ·simp only [Act.put, List.setIfInBounds_toArray, List.set_cons_zero, List.set_cons_succ, i64_w, i32_w]
                 rfl
                exact norm_ (by first | (simp only [putAll, Act.put, List.setIfInBounds_toArray, List.set_cons_zero, List.set_cons_succ]; done) | (simp only [putAll, Act.put, List.setIfInBounds_toArray, List.set_cons_zero, List.set_cons_succ]; rfl)) (hJ2_5_8_11_14_16 (gb180) _ ⟨(pk BK180), GW180.out, GE180.out, (bl HB)⟩)
              ·skip
               rintro _ w45 h0_
               have n0_ : Aside0 (Below w.heap.size w w45) := ⟨h0_⟩
               clear HB
               clear h0_
               have HB := n0_
               clear n0_
               have hHeld := trivial
               refine norm_ (a' := ?_) ?_ ?_
               rotate_left
               ·simp only [putAll, Act.put, List.setIfInBounds_toArray, List.set_cons_zero, List.set_cons_succ]
                rfl
               refine one_ (i := 16) (N := some 4) #[true, true, true, true, true, true, true, true, true, true, true, true, true, true, true, true, true, false] rfl rfl (one_of HT_.out (by kernel_rfl)) (by decide) (fun K hK => ?_)
               refine box_step ?hg (N := 4) ?hd (cs := #[.int .i64 0, .int .i64 0, .int .i64 0, .int .i64 0, .int .i64 0]) (t := 64) ?hr ?_; (case hd => rfl); (case hg => rfl); (case hr => first | (go_simp; done) | (go_simp; rfl))
               intro gb180 hg w46 hbox hb
               have n0_ := am (below_step (bl HB) hb)
               have n1_ := am (hbox)
               have n2_ := am ((by rw [hg]; exact (below_size (bl HB)) : w.heap.size ≤ gb180))
               have n3_ := am ((by rw [hg]; exact (below_size (bl HB)) : w.heap.size ≤ gb180))
               clear HB
               have HB := n0_
               have BK180 := n1_
               have GW180 := n2_
               have GE180 := n3_
               clear n0_ n1_ n2_ n3_
               clear hb hbox hg
               refine hK.out _ _ trivial (fun hHeld => ?_)
               clear hK K
               refine norm_ (a' := ?_) ?_ ?_
               rotate_left
               ·show Act.put _ (some 4) _ = _
                simp only [Act.put, List.setIfInBounds_toArray, List.set_cons_zero, List.set_cons_succ, i64_w, i32_w]
                rfl
               exact norm_ (by first | (simp only [putAll, Act.put, List.setIfInBounds_toArray, List.set_cons_zero, List.set_cons_succ]; done) | (simp only [putAll, Act.put, List.setIfInBounds_toArray, List.set_cons_zero, List.set_cons_succ]; rfl)) (hJ2_5_8_11_14_16 (gb180) _ ⟨(pk BK180), GW180.out, GE180.out, (bl HB)⟩)
             rintro gb180 w46 ⟨h0_, h1_, h2_, h3_⟩
             have n0_ : Aside0 (w46.heap[gb180]? = some (.cells #[.int .i64 0, .int .i64 0, .int .i64 0, .int .i64 0, .int .i64 0] 64 (0, 0))) := ⟨h0_⟩
             have n1_ : Aside0 (w.heap.size ≤ gb180) := ⟨h1_⟩
             have n2_ : Aside0 (w.heap.size ≤ gb180) := ⟨h2_⟩
             have n3_ : Aside0 (Below w.heap.size w w46) := ⟨h3_⟩
             clear HB
             clear h0_ h1_ h2_ h3_
             have BK180 := n0_
             have GW180 := n1_
             have GE180 := n2_
             have HB := n3_
             clear n0_ n1_ n2_ n3_
             have hHeld := trivial
             refine norm_ (a' := ?_) ?_ ?_
             rotate_left
             ·simp only [putAll, Act.put, List.setIfInBounds_toArray, List.set_cons_zero, List.set_cons_succ]
              rfl
             refine one_ (i := 17) (N := none) #[true, true, true, true, true, true, true, true, true, true, true, true, true, true, true, true, true, true] rfl rfl (one_of HT_.out (by kernel_rfl)) (by decide) (fun K hK => ?_)
             have hs47 : w46.cell? ⟨gb180, 0, none⟩ = some (.int .i64 0) := (blk_cell BK180.out 0).trans rfl
             have hfs47 := blk_frozen BK180.out 0
             have hs48 : w46.cell? ⟨gb180, 1, none⟩ = some (.int .i64 0) := (blk_cell BK180.out 1).trans rfl
             have hfs48 := blk_frozen BK180.out 1
             have hs49 : w46.cell? ⟨gb180, 2, none⟩ = some (.int .i64 0) := (blk_cell BK180.out 2).trans rfl
             have hfs49 := blk_frozen BK180.out 2
             have hs50 : w46.cell? ⟨gb180, 3, none⟩ = some (.int .i64 0) := (blk_cell BK180.out 3).trans rfl
             have hfs50 := blk_frozen BK180.out 3
             have hs51 : w46.cell? ⟨gb180, 4, none⟩ = some (.int .i64 0) := (blk_cell BK180.out 4).trans rfl
             have hfs51 := blk_frozen BK180.out 4
             refine skip_ (w1 := ?_) (by rfl) rfl ?_ ?_
             rotate_left
             ·go_simp
              rfl
             refine hK.out _ _ trivial (fun hHeld => ?_)
             clear hK K
             refine done_ (done_of HT_.out (by kernel_rfl)) ?_
             have hz52 := cells5 BK180
             try go_wp2_with (first | ((with_reducible refine gate_callee (f := 99) rfl ?_); refine goesL_ (some 28) rfl rfl Tryd.func99 (by kernel_rfl) rfl #[.agg #[.int .i64 t175, .int .i64 t176, .int .i64 t177, .int .i64 t178, .int .i64 t179]] rfl (by (try simp only [List.map_toArray, List.map_cons, List.map_nil]); first | done | rfl | (simp only [List.length_drop, List.length_take]; rfl)) ?_; (with_reducible refine (spec_TimeOf.calls k t175 t176 t177 t178 t179 t181 false _ A18.out).mono ?_); rintro e w53 ⟨rfl, hb⟩; refine ⟨_, rfl, ?_⟩; have n0_ := am (blk_below (g := gb180) (o := .cells #[.int .i64 t175, .int .i64 t176, .int .i64 t177, .int .i64 t178, .int .i64 t179] 64 (0, 0)) (by (with_reducible repeat (first | refine blk_drewN ?_ _ | refine blk_drew ?_ | refine blk_alloc ?_ _)); refine blk_put (cs := #[.int .i64 t175, .int .i64 t176, .int .i64 t177, .int .i64 t178, .int .i64 0]) ?_ 4 _ (by first | rfl | simp [bne]); (with_reducible repeat (first | refine blk_drewN ?_ _ | refine blk_drew ?_ | refine blk_alloc ?_ _)); refine blk_put (cs := #[.int .i64 t175, .int .i64 t176, .int .i64 t177, .int .i64 0, .int .i64 0]) ?_ 3 _ (by first | rfl | simp [bne]); (with_reducible repeat (first | refine blk_drewN ?_ _ | refine blk_drew ?_ | refine blk_alloc ?_ _)); refine blk_put (cs := #[.int .i64 t175, .int .i64 t176, .int .i64 0, .int .i64 0, .int .i64 0]) ?_ 2 _ (by first | rfl | simp [bne]); (with_reducible repeat (first | refine blk_drewN ?_ _ | refine blk_drew ?_ | refine blk_alloc ?_ _)); refine blk_put (cs := #[.int .i64 t175, .int .i64 0, .int .i64 0, .int .i64 0, .int .i64 0]) ?_ 1 _ (by first | rfl | simp [bne]); (with_reducible repeat (first | refine blk_drewN ?_ _ | refine blk_drew ?_ | refine blk_alloc ?_ _)); refine blk_put (cs := #[.int .i64 0, .int .i64 0, .int .i64 0, .int .i64 0, .int .i64 0]) ?_ 0 _ (by first | rfl | simp [bne]); (with_reducible repeat (first | refine blk_drewN ?_ _ | refine blk_drew ?_ | refine blk_alloc ?_ _)); exact BK180.out) hb); have n1_ := am (below_step (bl HB) hb); clear BK180; clear HB; have BK180 := n0_; have HB := n1_; clear n0_ n1_; (try clear hb); (try clear hb2); (try clear hk); (try clear hi)))
             go_ret2
             exact ⟨by first | rfl | (simp [errW_none, errW_some] <;> rfl) | (simp [*, errW_none, errW_some] <;> rfl), bl HB⟩
           ·rw [if_neg c16] at H
            exact absurd H (by simp)
          ·rw [if_neg c15] at H
           exact absurd H (by simp)
         ·rw [if_neg c13] at H
          exact absurd H (by simp)
        ·rw [if_neg c12] at H
         exact absurd H (by simp)
       ·rw [if_neg c10] at H
        exact absurd H (by simp)
      ·rw [if_neg c9] at H
       exact absurd H (by simp)
     ·rw [if_neg c7] at H
      exact absurd H (by simp)
    ·rw [if_neg c6] at H
     exact absurd H (by simp)
   ·rw [if_neg c4] at H
    exact absurd H (by simp)
  ·rw [if_neg c3] at H
   exact absurd H (by simp)
 ·rw [if_neg c2] at H
  have c2b0 : ((a0.size : Int) == 17) = false := beq_eq_false_iff_ne.mpr c2
  have c2b1 : ((a0.size : Int) != 17) = true := bne_iff_ne.mpr c2
  simp only [Option.some.injEq, Prod.mk.injEq] at H
  obtain ⟨rfl, rfl⟩ := H
  go_enter Tryd.func43, Tryd.ntmps43
  go_wp2
  go_ret2
  exact ⟨by first | rfl | (simp [errW_none, errW_some] <;> rfl) | (simp [*, errW_none, errW_some] <;> rfl), bl HB⟩

end Go.Proofs.YtmcmkdiefpepnaaDoor.XRS
