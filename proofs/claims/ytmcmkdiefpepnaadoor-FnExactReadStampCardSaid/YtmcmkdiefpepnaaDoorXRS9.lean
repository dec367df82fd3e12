-- By xprint.py, a driver of ours round the kit's printer, out of the translation; Lean checks it.
import Derived.Test.YtmcmkdiefpepnaaDoorXRS0
import Derived.Test.YtmcmkdiefpepnaaDoorXRS5
import Derived.Test.YtmcmkdiefpepnaaDoorXRS8
namespace Go.Proofs.YtmcmkdiefpepnaaDoor.XRS
open Go.Proofs.YtmcmkdiefpepnaaDoor.Ext Go.Proofs.YtmcmkdiefpepnaaDoor.Sq
open Go.RowKit Go.Proofs.YtmcmkdiefpepnaaDoorW.PrintWords Go.Proofs.YtmcmkdiefpepnaaDoorW.PrintLast Go.Proofs.YtmcmkdiefpepnaaDoorW.PrintMore
attribute [local go_sem] max2_int min2_int max_two min_two max_three min_three max_four min_four   -- for this text's walks alone
set_option linter.unusedVariables false
set_option linter.unusedSimpArgs false

/-! ### laws_FnExactReadStamp: function 8 -/
def laws_FnExactReadStamp.f (k : Nat) (a0 : ByteArray) : Option (Bool) := if (a0.size : Int) > 1048576 then (some true) else ((spec_ReadStamp.f k a0).bind fun bt184 => ((impl_ReadStamp.f k a0).bind fun bt186 => (if bt186.1 = bt184.1 then (if (bt186.2 != bt184.2) = true then (some false) else (some true)) else (some false))))
theorem laws_FnExactReadStamp.mono : ∀ a0 k, LeO (laws_FnExactReadStamp.f k a0) (laws_FnExactReadStamp.f (k + 1) a0) := by
 intro a0 k
 unfold laws_FnExactReadStamp.f
 repeat' first
   | (with_reducible exact impl_ReadStamp.mono _ _)
   | (with_reducible exact spec_ReadStamp.mono _ _)
   | (with_reducible exact LeO.refl _)
   | (with_reducible exact LeO.none _)
   | (with_reducible refine LeO.ite ?_ ?_)
   | (with_reducible refine LeO.bind ?_ (fun _ => ?_))
   | exact impl_ReadStamp.mono _ _
   | exact spec_ReadStamp.mono _ _
   | exact LeO.none _
   | refine LeO.ite ?_ ?_
   | refine LeO.bind ?_ (fun _ => ?_)
set_option maxHeartbeats 8000000 in
set_option maxRecDepth 100000 in
theorem laws_FnExactReadStamp.calls (k : Nat) (a0 : ByteArray) (r : Bool) (w : World) (hGpow : Gpow w) (h : laws_FnExactReadStamp.f k a0 = some r) :
  Calls Tryd.prog 8 #[.string a0] w fun e w' => e = .returned (.bool r) ∧ Below w.heap.size w w' := by
 have HGpow := am hGpow
 clear hGpow
 have HB := am (Below.refl w.heap.size w)
 have H : (if (a0.size : Int) > 1048576 then (some true) else ((spec_ReadStamp.f k a0).bind fun bt184 => ((impl_ReadStamp.f k a0).bind fun bt186 => (if bt186.1 = bt184.1 then (if (bt186.2 != bt184.2) = true then (some false) else (some true)) else (some false))))) = some r := h
 clear h
 by_cases c2 : (a0.size : Int) > 1048576
 ·rw [if_pos c2] at H
  have c2b0 : decide (1048576 < (a0.size : Int)) = true := decide_eq_true c2
  have c2b1 : decide (1048576 < a0.size) = true := decide_eq_true (by omega)
  clear c2
  obtain rfl := Option.some.inj H
  go_enter Tryd.func8, Tryd.ntmps8
  go_wp2
  go_ret
  exact ⟨by first | rfl | (simp [errW_none, errW_some] <;> rfl) | (simp [*, errW_none, errW_some] <;> rfl), bl HB⟩
 ·rw [if_neg c2] at H
  have c2b0 : decide (1048576 < (a0.size : Int)) = false := decide_eq_false c2
  have c2b1 : decide (1048576 < a0.size) = false := decide_eq_false (by omega)
  clear c2
  replace H := Option.bind_eq_some_iff.mp H
  obtain ⟨⟨t184, t185⟩, A30, H⟩ := H
  replace H : ((impl_ReadStamp.f k a0).bind fun bt186 => (if bt186.1 = t184 then (if (bt186.2 != t185) = true then (some false) else (some true)) else (some false))) = some r := H
  have A3 := am A30
  clear A30
  replace H := Option.bind_eq_some_iff.mp H
  obtain ⟨⟨t186, t187⟩, A40, H⟩ := H
  replace H : (if t186 = t184 then (if (t187 != t185) = true then (some false) else (some true)) else (some false)) = some r := H
  have A4 := am A40
  clear A40
  by_cases c5 : t186 = t184
  ·rw [if_pos c5] at H
   have c5b0 : (t186 == t184) = true := beq_iff_eq.mpr c5
   have c5b1 : (t186 != t184) = false := bne_eq_false_iff_eq.mpr c5
   clear c5
   by_cases c6 : (t187 != t185) = true
   ·rw [if_pos c6] at H
    have c6b0 : (t187 != t185) = true := c6
    (try (have c6b1 : decide (t187 = t185) = false := by simpa using c6))
    (try (have c6b2 : (t187 == t185) = false := by simpa using c6))
    (try (have c6b3 : ¬ (t187 = t185) := by simpa using c6))
    clear c6
    obtain rfl := Option.some.inj H
    go_enter Tryd.func8, Tryd.ntmps8
    go_wp2_with (first | ((with_reducible refine gate_callee (f := 43) rfl ?_); refine goesL_ (some 12) rfl rfl Tryd.func43 (by kernel_rfl) rfl #[.string a0] rfl (by (try simp only [List.map_toArray, List.map_cons, List.map_nil]); first | done | rfl | (simp only [List.length_drop, List.length_take]; rfl)) ?_; (with_reducible refine (spec_ReadStamp.calls k a0 t184 t185 _ A3.out).mono ?_); rintro e w7 ⟨rfl, hb⟩; refine ⟨_, rfl, ?_⟩; have n0_ := am (below_step (bl HB) hb); clear HB; have HB := n0_; clear n0_; (try clear hb); (try clear hb2); (try clear hk); (try clear hi)) | ((with_reducible refine gate_callee (f := 40) rfl ?_); refine goesL_ (some 17) rfl rfl Tryd.func40 (by kernel_rfl) rfl #[.string a0] rfl (by (try simp only [List.map_toArray, List.map_cons, List.map_nil]); first | done | rfl | (simp only [List.length_drop, List.length_take]; rfl)) ?_; (with_reducible refine (impl_ReadStamp.calls k a0 t186 t187 _ ?side1 A4.out).mono ?_); (case side1 => exact Gpow.below HGpow.out (bl HB)); rintro e w8 ⟨rfl, hb⟩; refine ⟨_, rfl, ?_⟩; have n0_ := am (below_step (bl HB) hb); clear HB; have HB := n0_; clear n0_; (try clear hb); (try clear hb2); (try clear hk); (try clear hi)))
    go_ret
    exact ⟨by first | rfl | (simp [errW_none, errW_some] <;> rfl) | (simp [*, errW_none, errW_some] <;> rfl), bl HB⟩
   ·rw [if_neg c6] at H
    have c6b0 : (t187 != t185) = false := by simpa using c6
    (try (have c6b1 : decide (t187 = t185) = true := by simpa using c6))
    (try (have c6b2 : (t187 == t185) = true := by simpa using c6))
    clear c6
    obtain rfl := Option.some.inj H
    go_enter Tryd.func8, Tryd.ntmps8
    go_wp2_with (first | ((with_reducible refine gate_callee (f := 43) rfl ?_); refine goesL_ (some 12) rfl rfl Tryd.func43 (by kernel_rfl) rfl #[.string a0] rfl (by (try simp only [List.map_toArray, List.map_cons, List.map_nil]); first | done | rfl | (simp only [List.length_drop, List.length_take]; rfl)) ?_; (with_reducible refine (spec_ReadStamp.calls k a0 t184 t185 _ A3.out).mono ?_); rintro e w9 ⟨rfl, hb⟩; refine ⟨_, rfl, ?_⟩; have n0_ := am (below_step (bl HB) hb); clear HB; have HB := n0_; clear n0_; (try clear hb); (try clear hb2); (try clear hk); (try clear hi)) | ((with_reducible refine gate_callee (f := 40) rfl ?_); refine goesL_ (some 17) rfl rfl Tryd.func40 (by kernel_rfl) rfl #[.string a0] rfl (by (try simp only [List.map_toArray, List.map_cons, List.map_nil]); first | done | rfl | (simp only [List.length_drop, List.length_take]; rfl)) ?_; (with_reducible refine (impl_ReadStamp.calls k a0 t186 t187 _ ?side1 A4.out).mono ?_); (case side1 => exact Gpow.below HGpow.out (bl HB)); rintro e w10 ⟨rfl, hb⟩; refine ⟨_, rfl, ?_⟩; have n0_ := am (below_step (bl HB) hb); clear HB; have HB := n0_; clear n0_; (try clear hb); (try clear hb2); (try clear hk); (try clear hi)))
    go_ret
    exact ⟨by first | rfl | (simp [errW_none, errW_some] <;> rfl) | (simp [*, errW_none, errW_some] <;> rfl), bl HB⟩
  ·rw [if_neg c5] at H
   have c5b0 : (t186 == t184) = false := beq_eq_false_iff_ne.mpr c5
   have c5b1 : (t186 != t184) = true := bne_iff_ne.mpr c5
   obtain rfl := Option.some.inj H
   go_enter Tryd.func8, Tryd.ntmps8
   go_wp2_with (first | ((with_reducible refine gate_callee (f := 43) rfl ?_); refine goesL_ (some 12) rfl rfl Tryd.func43 (by kernel_rfl) rfl #[.string a0] rfl (by (try simp only [List.map_toArray, List.map_cons, List.map_nil]); first | done | rfl | (simp only [List.length_drop, List.length_take]; rfl)) ?_; (with_reducible refine (spec_ReadStamp.calls k a0 t184 t185 _ A3.out).mono ?_); rintro e w11 ⟨rfl, hb⟩; refine ⟨_, rfl, ?_⟩; have n0_ := am (below_step (bl HB) hb); clear HB; have HB := n0_; clear n0_; (try clear hb); (try clear hb2); (try clear hk); (try clear hi)) | ((with_reducible refine gate_callee (f := 40) rfl ?_); refine goesL_ (some 17) rfl rfl Tryd.func40 (by kernel_rfl) rfl #[.string a0] rfl (by (try simp only [List.map_toArray, List.map_cons, List.map_nil]); first | done | rfl | (simp only [List.length_drop, List.length_take]; rfl)) ?_; (with_reducible refine (impl_ReadStamp.calls k a0 t186 t187 _ ?side1 A4.out).mono ?_); (case side1 => exact Gpow.below HGpow.out (bl HB)); rintro e w12 ⟨rfl, hb⟩; refine ⟨_, rfl, ?_⟩; have n0_ := am (below_step (bl HB) hb); clear HB; have HB := n0_; clear n0_; (try clear hb); (try clear hb2); (try clear hk); (try clear hi)))
   go_ret
   exact ⟨by first | rfl | (simp [errW_none, errW_some] <;> rfl) | (simp [*, errW_none, errW_some] <;> rfl), bl HB⟩

end Go.Proofs.YtmcmkdiefpepnaaDoor.XRS
