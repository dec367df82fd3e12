-- By xprint.py, a driver of ours round the kit's printer, out of the translation; Lean checks it.
import Derived.Test.YtmcmkdiefpepnaaDoorXRS0
import Derived.Test.YtmcmkdiefpepnaaDoorXRS2
namespace Go.Proofs.YtmcmkdiefpepnaaDoor.XRS
open Go.Proofs.YtmcmkdiefpepnaaDoor.Ext Go.Proofs.YtmcmkdiefpepnaaDoor.Sq
open Go.RowKit Go.Proofs.YtmcmkdiefpepnaaDoorW.PrintWords Go.Proofs.YtmcmkdiefpepnaaDoorW.PrintLast Go.Proofs.YtmcmkdiefpepnaaDoorW.PrintMore
attribute [local go_sem] max2_int min2_int max_two min_two max_three min_three max_four min_four   -- for this text's walks alone
set_option linter.unusedVariables false
set_option linter.unusedSimpArgs false

/-! ### impl_Stamp: function 38 -/
def impl_Stamp.f (k : Nat) (a0 : Int) : Option (ByteArray) := (impl_DateOf.f k a0).bind fun bt113 => (if bt113.2.2.2.2.2 = true then ((impl_fill.f bt113.1 4).bind fun t120 => (if t120.size + 1 ≤ 9223372036854775807 then ((impl_fill.f bt113.2.1 2).bind fun t121 => (if (t120 ++ (⟨#[45]⟩ : ByteArray)).size + t121.size ≤ 9223372036854775807 then (if ((t120 ++ (⟨#[45]⟩ : ByteArray)) ++ t121).size + 1 ≤ 9223372036854775807 then ((impl_fill.f bt113.2.2.1 2).bind fun t122 => (if (((t120 ++ (⟨#[45]⟩ : ByteArray)) ++ t121) ++ (⟨#[45]⟩ : ByteArray)).size + t122.size ≤ 9223372036854775807 then (if ((((t120 ++ (⟨#[45]⟩ : ByteArray)) ++ t121) ++ (⟨#[45]⟩ : ByteArray)) ++ t122).size + 1 ≤ 9223372036854775807 then ((impl_fill.f bt113.2.2.2.1 2).bind fun t123 => (if (((((t120 ++ (⟨#[45]⟩ : ByteArray)) ++ t121) ++ (⟨#[45]⟩ : ByteArray)) ++ t122) ++ (⟨#[84]⟩ : ByteArray)).size + t123.size ≤ 9223372036854775807 then (if ((((((t120 ++ (⟨#[45]⟩ : ByteArray)) ++ t121) ++ (⟨#[45]⟩ : ByteArray)) ++ t122) ++ (⟨#[84]⟩ : ByteArray)) ++ t123).size + 1 ≤ 9223372036854775807 then ((impl_fill.f bt113.2.2.2.2.1 2).bind fun t124 => (if (((((((t120 ++ (⟨#[45]⟩ : ByteArray)) ++ t121) ++ (⟨#[45]⟩ : ByteArray)) ++ t122) ++ (⟨#[84]⟩ : ByteArray)) ++ t123) ++ (⟨#[58]⟩ : ByteArray)).size + t124.size ≤ 9223372036854775807 then (if ((((((((t120 ++ (⟨#[45]⟩ : ByteArray)) ++ t121) ++ (⟨#[45]⟩ : ByteArray)) ++ t122) ++ (⟨#[84]⟩ : ByteArray)) ++ t123) ++ (⟨#[58]⟩ : ByteArray)) ++ t124).size + 1 ≤ 9223372036854775807 then (some (((((((((t120 ++ (⟨#[45]⟩ : ByteArray)) ++ t121) ++ (⟨#[45]⟩ : ByteArray)) ++ t122) ++ (⟨#[84]⟩ : ByteArray)) ++ t123) ++ (⟨#[58]⟩ : ByteArray)) ++ t124) ++ (⟨#[90]⟩ : ByteArray))) else (none)) else (none))) else (none)) else (none))) else (none)) else (none))) else (none)) else (none))) else (none))) else (some (⟨#[]⟩ : ByteArray)))
theorem impl_Stamp.mono : ∀ a0 k, LeO (impl_Stamp.f k a0) (impl_Stamp.f (k + 1) a0) := by
 intro a0 k
 unfold impl_Stamp.f
 repeat' first
   | (with_reducible exact impl_DateOf.mono _ _)
   | (with_reducible exact LeO.refl _)
   | (with_reducible exact LeO.none _)
   | (with_reducible refine LeO.ite ?_ ?_)
   | (with_reducible refine LeO.bind ?_ (fun _ => ?_))
   | exact impl_DateOf.mono _ _
   | exact LeO.none _
   | refine LeO.ite ?_ ?_
   | refine LeO.bind ?_ (fun _ => ?_)
def impl_Stamp.T4 : Bool × List (List Nat × List Nat) := (true, [([], []), ([0], [0]), ([1], [1]), ([2], [2]), ([], []), ([4], [4]), ([5, 2], [5]), ([3, 6], [3, 6]), ([7], [7]), ([], []), ([9], [9]), ([10, 6], [10]), ([8, 11], [8, 11]), ([12], [12]), ([], []), ([14], [14]), ([15, 11], [15]), ([13, 16], [13, 16]), ([17], [17]), ([], []), ([19], [19]), ([20, 16], [20]), ([18, 21], [18, 21]), ([22], [22]), ([23, 21, 0, 1, 2, 3, 4, 5, 6, 7, 8, 9, 10, 11, 12, 13, 14, 15, 16, 17, 18, 19, 20, 21, 22, 23], [23])])
def impl_Stamp.B4 : List Nat := [0, 1, 3, 7, 0, 16, 55, 127, 255, 0, 512, 1655, 4095, 8191, 0, 16384, 52855, 131071, 262143, 0, 524288, 1691255, 4194303, 8388607, 16777215]
theorem impl_Stamp.tab4 : rtab .any (opsOf Tryd.f38 4) = impl_Stamp.T4 := by kernel_rfl
theorem impl_Stamp.bits4 : waitsOk impl_Stamp.T4.2 impl_Stamp.B4 = true := by kernel_rfl
set_option maxHeartbeats 8000000 in
set_option maxRecDepth 100000 in
theorem impl_Stamp.calls (k : Nat) (a0 : Int) (r : ByteArray) (w : World) (hGpow : Gpow w) (h : impl_Stamp.f k a0 = some r) :
  Calls Tryd.prog 38 #[.int .i64 a0] w fun e w' => e = .returned (.string r) ∧ Below w.heap.size w w' := by
 have hu64 := Tryd.underlying64
 have HGpow := am hGpow
 clear hGpow
 have HB := am (Below.refl w.heap.size w)
 have H : ((impl_DateOf.f k a0).bind fun bt113 => (if bt113.2.2.2.2.2 = true then ((impl_fill.f bt113.1 4).bind fun t120 => (if t120.size + 1 ≤ 9223372036854775807 then ((impl_fill.f bt113.2.1 2).bind fun t121 => (if (t120 ++ (⟨#[45]⟩ : ByteArray)).size + t121.size ≤ 9223372036854775807 then (if ((t120 ++ (⟨#[45]⟩ : ByteArray)) ++ t121).size + 1 ≤ 9223372036854775807 then ((impl_fill.f bt113.2.2.1 2).bind fun t122 => (if (((t120 ++ (⟨#[45]⟩ : ByteArray)) ++ t121) ++ (⟨#[45]⟩ : ByteArray)).size + t122.size ≤ 9223372036854775807 then (if ((((t120 ++ (⟨#[45]⟩ : ByteArray)) ++ t121) ++ (⟨#[45]⟩ : ByteArray)) ++ t122).size + 1 ≤ 9223372036854775807 then ((impl_fill.f bt113.2.2.2.1 2).bind fun t123 => (if (((((t120 ++ (⟨#[45]⟩ : ByteArray)) ++ t121) ++ (⟨#[45]⟩ : ByteArray)) ++ t122) ++ (⟨#[84]⟩ : ByteArray)).size + t123.size ≤ 9223372036854775807 then (if ((((((t120 ++ (⟨#[45]⟩ : ByteArray)) ++ t121) ++ (⟨#[45]⟩ : ByteArray)) ++ t122) ++ (⟨#[84]⟩ : ByteArray)) ++ t123).size + 1 ≤ 9223372036854775807 then ((impl_fill.f bt113.2.2.2.2.1 2).bind fun t124 => (if (((((((t120 ++ (⟨#[45]⟩ : ByteArray)) ++ t121) ++ (⟨#[45]⟩ : ByteArray)) ++ t122) ++ (⟨#[84]⟩ : ByteArray)) ++ t123) ++ (⟨#[58]⟩ : ByteArray)).size + t124.size ≤ 9223372036854775807 then (if ((((((((t120 ++ (⟨#[45]⟩ : ByteArray)) ++ t121) ++ (⟨#[45]⟩ : ByteArray)) ++ t122) ++ (⟨#[84]⟩ : ByteArray)) ++ t123) ++ (⟨#[58]⟩ : ByteArray)) ++ t124).size + 1 ≤ 9223372036854775807 then (some (((((((((t120 ++ (⟨#[45]⟩ : ByteArray)) ++ t121) ++ (⟨#[45]⟩ : ByteArray)) ++ t122) ++ (⟨#[84]⟩ : ByteArray)) ++ t123) ++ (⟨#[58]⟩ : ByteArray)) ++ t124) ++ (⟨#[90]⟩ : ByteArray))) else (none)) else (none))) else (none)) else (none))) else (none)) else (none))) else (none)) else (none))) else (none))) else (some (⟨#[]⟩ : ByteArray)))) = some r := h
 clear h
 replace H := Option.bind_eq_some_iff.mp H
 obtain ⟨⟨t113, t114, t115, t116, t117, t118⟩, A20, H⟩ := H
 replace H : (if t118 = true then ((impl_fill.f t113 4).bind fun t120 => (if t120.size + 1 ≤ 9223372036854775807 then ((impl_fill.f t114 2).bind fun t121 => (if (t120 ++ (⟨#[45]⟩ : ByteArray)).size + t121.size ≤ 9223372036854775807 then (if ((t120 ++ (⟨#[45]⟩ : ByteArray)) ++ t121).size + 1 ≤ 9223372036854775807 then ((impl_fill.f t115 2).bind fun t122 => (if (((t120 ++ (⟨#[45]⟩ : ByteArray)) ++ t121) ++ (⟨#[45]⟩ : ByteArray)).size + t122.size ≤ 9223372036854775807 then (if ((((t120 ++ (⟨#[45]⟩ : ByteArray)) ++ t121) ++ (⟨#[45]⟩ : ByteArray)) ++ t122).size + 1 ≤ 9223372036854775807 then ((impl_fill.f t116 2).bind fun t123 => (if (((((t120 ++ (⟨#[45]⟩ : ByteArray)) ++ t121) ++ (⟨#[45]⟩ : ByteArray)) ++ t122) ++ (⟨#[84]⟩ : ByteArray)).size + t123.size ≤ 9223372036854775807 then (if ((((((t120 ++ (⟨#[45]⟩ : ByteArray)) ++ t121) ++ (⟨#[45]⟩ : ByteArray)) ++ t122) ++ (⟨#[84]⟩ : ByteArray)) ++ t123).size + 1 ≤ 9223372036854775807 then ((impl_fill.f t117 2).bind fun t124 => (if (((((((t120 ++ (⟨#[45]⟩ : ByteArray)) ++ t121) ++ (⟨#[45]⟩ : ByteArray)) ++ t122) ++ (⟨#[84]⟩ : ByteArray)) ++ t123) ++ (⟨#[58]⟩ : ByteArray)).size + t124.size ≤ 9223372036854775807 then (if ((((((((t120 ++ (⟨#[45]⟩ : ByteArray)) ++ t121) ++ (⟨#[45]⟩ : ByteArray)) ++ t122) ++ (⟨#[84]⟩ : ByteArray)) ++ t123) ++ (⟨#[58]⟩ : ByteArray)) ++ t124).size + 1 ≤ 9223372036854775807 then (some (((((((((t120 ++ (⟨#[45]⟩ : ByteArray)) ++ t121) ++ (⟨#[45]⟩ : ByteArray)) ++ t122) ++ (⟨#[84]⟩ : ByteArray)) ++ t123) ++ (⟨#[58]⟩ : ByteArray)) ++ t124) ++ (⟨#[90]⟩ : ByteArray))) else (none)) else (none))) else (none)) else (none))) else (none)) else (none))) else (none)) else (none))) else (none))) else (some (⟨#[]⟩ : ByteArray))) = some r := H
 have A2 := am A20
 clear A20
 by_cases c3 : t118 = true
 ·subst c3
  have H1 : ((impl_fill.f t113 4).bind fun t120 => (if t120.size + 1 ≤ 9223372036854775807 then ((impl_fill.f t114 2).bind fun t121 => (if (t120 ++ (⟨#[45]⟩ : ByteArray)).size + t121.size ≤ 9223372036854775807 then (if ((t120 ++ (⟨#[45]⟩ : ByteArray)) ++ t121).size + 1 ≤ 9223372036854775807 then ((impl_fill.f t115 2).bind fun t122 => (if (((t120 ++ (⟨#[45]⟩ : ByteArray)) ++ t121) ++ (⟨#[45]⟩ : ByteArray)).size + t122.size ≤ 9223372036854775807 then (if ((((t120 ++ (⟨#[45]⟩ : ByteArray)) ++ t121) ++ (⟨#[45]⟩ : ByteArray)) ++ t122).size + 1 ≤ 9223372036854775807 then ((impl_fill.f t116 2).bind fun t123 => (if (((((t120 ++ (⟨#[45]⟩ : ByteArray)) ++ t121) ++ (⟨#[45]⟩ : ByteArray)) ++ t122) ++ (⟨#[84]⟩ : ByteArray)).size + t123.size ≤ 9223372036854775807 then (if ((((((t120 ++ (⟨#[45]⟩ : ByteArray)) ++ t121) ++ (⟨#[45]⟩ : ByteArray)) ++ t122) ++ (⟨#[84]⟩ : ByteArray)) ++ t123).size + 1 ≤ 9223372036854775807 then ((impl_fill.f t117 2).bind fun t124 => (if (((((((t120 ++ (⟨#[45]⟩ : ByteArray)) ++ t121) ++ (⟨#[45]⟩ : ByteArray)) ++ t122) ++ (⟨#[84]⟩ : ByteArray)) ++ t123) ++ (⟨#[58]⟩ : ByteArray)).size + t124.size ≤ 9223372036854775807 then (if ((((((((t120 ++ (⟨#[45]⟩ : ByteArray)) ++ t121) ++ (⟨#[45]⟩ : ByteArray)) ++ t122) ++ (⟨#[84]⟩ : ByteArray)) ++ t123) ++ (⟨#[58]⟩ : ByteArray)) ++ t124).size + 1 ≤ 9223372036854775807 then (some (((((((((t120 ++ (⟨#[45]⟩ : ByteArray)) ++ t121) ++ (⟨#[45]⟩ : ByteArray)) ++ t122) ++ (⟨#[84]⟩ : ByteArray)) ++ t123) ++ (⟨#[58]⟩ : ByteArray)) ++ t124) ++ (⟨#[90]⟩ : ByteArray))) else (none)) else (none))) else (none)) else (none))) else (none)) else (none))) else (none)) else (none))) else (none))) = some r := by rw [if_pos rfl] at H; exact H
  clear H
  have H := H1
  clear H1
  replace H := Option.bind_eq_some_iff.mp H
  obtain ⟨t120, A40, H⟩ := H
  replace H : (if t120.size + 1 ≤ 9223372036854775807 then ((impl_fill.f t114 2).bind fun t121 => (if (t120 ++ (⟨#[45]⟩ : ByteArray)).size + t121.size ≤ 9223372036854775807 then (if ((t120 ++ (⟨#[45]⟩ : ByteArray)) ++ t121).size + 1 ≤ 9223372036854775807 then ((impl_fill.f t115 2).bind fun t122 => (if (((t120 ++ (⟨#[45]⟩ : ByteArray)) ++ t121) ++ (⟨#[45]⟩ : ByteArray)).size + t122.size ≤ 9223372036854775807 then (if ((((t120 ++ (⟨#[45]⟩ : ByteArray)) ++ t121) ++ (⟨#[45]⟩ : ByteArray)) ++ t122).size + 1 ≤ 9223372036854775807 then ((impl_fill.f t116 2).bind fun t123 => (if (((((t120 ++ (⟨#[45]⟩ : ByteArray)) ++ t121) ++ (⟨#[45]⟩ : ByteArray)) ++ t122) ++ (⟨#[84]⟩ : ByteArray)).size + t123.size ≤ 9223372036854775807 then (if ((((((t120 ++ (⟨#[45]⟩ : ByteArray)) ++ t121) ++ (⟨#[45]⟩ : ByteArray)) ++ t122) ++ (⟨#[84]⟩ : ByteArray)) ++ t123).size + 1 ≤ 9223372036854775807 then ((impl_fill.f t117 2).bind fun t124 => (if (((((((t120 ++ (⟨#[45]⟩ : ByteArray)) ++ t121) ++ (⟨#[45]⟩ : ByteArray)) ++ t122) ++ (⟨#[84]⟩ : ByteArray)) ++ t123) ++ (⟨#[58]⟩ : ByteArray)).size + t124.size ≤ 9223372036854775807 then (if ((((((((t120 ++ (⟨#[45]⟩ : ByteArray)) ++ t121) ++ (⟨#[45]⟩ : ByteArray)) ++ t122) ++ (⟨#[84]⟩ : ByteArray)) ++ t123) ++ (⟨#[58]⟩ : ByteArray)) ++ t124).size + 1 ≤ 9223372036854775807 then (some (((((((((t120 ++ (⟨#[45]⟩ : ByteArray)) ++ t121) ++ (⟨#[45]⟩ : ByteArray)) ++ t122) ++ (⟨#[84]⟩ : ByteArray)) ++ t123) ++ (⟨#[58]⟩ : ByteArray)) ++ t124) ++ (⟨#[90]⟩ : ByteArray))) else (none)) else (none))) else (none)) else (none))) else (none)) else (none))) else (none)) else (none))) else (none)) = some r := H
  have A4 := am A40
  clear A40
  by_cases c5 : t120.size + 1 ≤ 9223372036854775807
  ·rw [if_pos c5] at H
   have c5b0 := eq_true c5
   have c5b1 : decide (t120.size + 1 ≤ 9223372036854775807) = true := decide_eq_true c5
   try have c5b2 : (9223372036854775807 < t120.size + 1) = False := eq_false (Nat.not_lt.2 c5)
   replace H := Option.bind_eq_some_iff.mp H
   obtain ⟨t121, A60, H⟩ := H
   replace H : (if (t120 ++ (⟨#[45]⟩ : ByteArray)).size + t121.size ≤ 9223372036854775807 then (if ((t120 ++ (⟨#[45]⟩ : ByteArray)) ++ t121).size + 1 ≤ 9223372036854775807 then ((impl_fill.f t115 2).bind fun t122 => (if (((t120 ++ (⟨#[45]⟩ : ByteArray)) ++ t121) ++ (⟨#[45]⟩ : ByteArray)).size + t122.size ≤ 9223372036854775807 then (if ((((t120 ++ (⟨#[45]⟩ : ByteArray)) ++ t121) ++ (⟨#[45]⟩ : ByteArray)) ++ t122).size + 1 ≤ 9223372036854775807 then ((impl_fill.f t116 2).bind fun t123 => (if (((((t120 ++ (⟨#[45]⟩ : ByteArray)) ++ t121) ++ (⟨#[45]⟩ : ByteArray)) ++ t122) ++ (⟨#[84]⟩ : ByteArray)).size + t123.size ≤ 9223372036854775807 then (if ((((((t120 ++ (⟨#[45]⟩ : ByteArray)) ++ t121) ++ (⟨#[45]⟩ : ByteArray)) ++ t122) ++ (⟨#[84]⟩ : ByteArray)) ++ t123).size + 1 ≤ 9223372036854775807 then ((impl_fill.f t117 2).bind fun t124 => (if (((((((t120 ++ (⟨#[45]⟩ : ByteArray)) ++ t121) ++ (⟨#[45]⟩ : ByteArray)) ++ t122) ++ (⟨#[84]⟩ : ByteArray)) ++ t123) ++ (⟨#[58]⟩ : ByteArray)).size + t124.size ≤ 9223372036854775807 then (if ((((((((t120 ++ (⟨#[45]⟩ : ByteArray)) ++ t121) ++ (⟨#[45]⟩ : ByteArray)) ++ t122) ++ (⟨#[84]⟩ : ByteArray)) ++ t123) ++ (⟨#[58]⟩ : ByteArray)) ++ t124).size + 1 ≤ 9223372036854775807 then (some (((((((((t120 ++ (⟨#[45]⟩ : ByteArray)) ++ t121) ++ (⟨#[45]⟩ : ByteArray)) ++ t122) ++ (⟨#[84]⟩ : ByteArray)) ++ t123) ++ (⟨#[58]⟩ : ByteArray)) ++ t124) ++ (⟨#[90]⟩ : ByteArray))) else (none)) else (none))) else (none)) else (none))) else (none)) else (none))) else (none)) else (none)) = some r := H
   have A6 := am A60
   clear A60
   by_cases c7 : (t120 ++ (⟨#[45]⟩ : ByteArray)).size + t121.size ≤ 9223372036854775807
   ·rw [if_pos c7] at H
    have c7b0 := eq_true c7
    have c7b1 : decide ((t120 ++ (⟨#[45]⟩ : ByteArray)).size + t121.size ≤ 9223372036854775807) = true := decide_eq_true c7
    try have c7b2 : (9223372036854775807 < (t120 ++ (⟨#[45]⟩ : ByteArray)).size + t121.size) = False := eq_false (Nat.not_lt.2 c7)
    (try (have c7b3 := c7b2; simp only [ByteArray.size_append, show (⟨#[45]⟩ : ByteArray).size = 1 from rfl] at c7b3))
    by_cases c8 : ((t120 ++ (⟨#[45]⟩ : ByteArray)) ++ t121).size + 1 ≤ 9223372036854775807
    ·rw [if_pos c8] at H
     have c8b0 := eq_true c8
     have c8b1 : decide (((t120 ++ (⟨#[45]⟩ : ByteArray)) ++ t121).size + 1 ≤ 9223372036854775807) = true := decide_eq_true c8
     try have c8b2 : (9223372036854775807 < ((t120 ++ (⟨#[45]⟩ : ByteArray)) ++ t121).size + 1) = False := eq_false (Nat.not_lt.2 c8)
     (try (have c8b3 := c8b2; simp only [ByteArray.size_append, show (⟨#[45]⟩ : ByteArray).size = 1 from rfl] at c8b3))
     replace H := Option.bind_eq_some_iff.mp H
     obtain ⟨t122, A90, H⟩ := H
     replace H : (if (((t120 ++ (⟨#[45]⟩ : ByteArray)) ++ t121) ++ (⟨#[45]⟩ : ByteArray)).size + t122.size ≤ 9223372036854775807 then (if ((((t120 ++ (⟨#[45]⟩ : ByteArray)) ++ t121) ++ (⟨#[45]⟩ : ByteArray)) ++ t122).size + 1 ≤ 9223372036854775807 then ((impl_fill.f t116 2).bind fun t123 => (if (((((t120 ++ (⟨#[45]⟩ : ByteArray)) ++ t121) ++ (⟨#[45]⟩ : ByteArray)) ++ t122) ++ (⟨#[84]⟩ : ByteArray)).size + t123.size ≤ 9223372036854775807 then (if ((((((t120 ++ (⟨#[45]⟩ : ByteArray)) ++ t121) ++ (⟨#[45]⟩ : ByteArray)) ++ t122) ++ (⟨#[84]⟩ : ByteArray)) ++ t123).size + 1 ≤ 9223372036854775807 then ((impl_fill.f t117 2).bind fun t124 => (if (((((((t120 ++ (⟨#[45]⟩ : ByteArray)) ++ t121) ++ (⟨#[45]⟩ : ByteArray)) ++ t122) ++ (⟨#[84]⟩ : ByteArray)) ++ t123) ++ (⟨#[58]⟩ : ByteArray)).size + t124.size ≤ 9223372036854775807 then (if ((((((((t120 ++ (⟨#[45]⟩ : ByteArray)) ++ t121) ++ (⟨#[45]⟩ : ByteArray)) ++ t122) ++ (⟨#[84]⟩ : ByteArray)) ++ t123) ++ (⟨#[58]⟩ : ByteArray)) ++ t124).size + 1 ≤ 9223372036854775807 then (some (((((((((t120 ++ (⟨#[45]⟩ : ByteArray)) ++ t121) ++ (⟨#[45]⟩ : ByteArray)) ++ t122) ++ (⟨#[84]⟩ : ByteArray)) ++ t123) ++ (⟨#[58]⟩ : ByteArray)) ++ t124) ++ (⟨#[90]⟩ : ByteArray))) else (none)) else (none))) else (none)) else (none))) else (none)) else (none)) = some r := H
     have A9 := am A90
     clear A90
     by_cases c10 : (((t120 ++ (⟨#[45]⟩ : ByteArray)) ++ t121) ++ (⟨#[45]⟩ : ByteArray)).size + t122.size ≤ 9223372036854775807
     ·rw [if_pos c10] at H
      have c10b0 := eq_true c10
      have c10b1 : decide ((((t120 ++ (⟨#[45]⟩ : ByteArray)) ++ t121) ++ (⟨#[45]⟩ : ByteArray)).size + t122.size ≤ 9223372036854775807) = true := decide_eq_true c10
      try have c10b2 : (9223372036854775807 < (((t120 ++ (⟨#[45]⟩ : ByteArray)) ++ t121) ++ (⟨#[45]⟩ : ByteArray)).size + t122.size) = False := eq_false (Nat.not_lt.2 c10)
      (try (have c10b3 := c10b2; simp only [ByteArray.size_append, show (⟨#[45]⟩ : ByteArray).size = 1 from rfl] at c10b3))
      by_cases c11 : ((((t120 ++ (⟨#[45]⟩ : ByteArray)) ++ t121) ++ (⟨#[45]⟩ : ByteArray)) ++ t122).size + 1 ≤ 9223372036854775807
      ·rw [if_pos c11] at H
       have c11b0 := eq_true c11
       have c11b1 : decide (((((t120 ++ (⟨#[45]⟩ : ByteArray)) ++ t121) ++ (⟨#[45]⟩ : ByteArray)) ++ t122).size + 1 ≤ 9223372036854775807) = true := decide_eq_true c11
       try have c11b2 : (9223372036854775807 < ((((t120 ++ (⟨#[45]⟩ : ByteArray)) ++ t121) ++ (⟨#[45]⟩ : ByteArray)) ++ t122).size + 1) = False := eq_false (Nat.not_lt.2 c11)
       (try (have c11b3 := c11b2; simp only [ByteArray.size_append, show (⟨#[45]⟩ : ByteArray).size = 1 from rfl] at c11b3))
       replace H := Option.bind_eq_some_iff.mp H
       obtain ⟨t123, A120, H⟩ := H
       replace H : (if (((((t120 ++ (⟨#[45]⟩ : ByteArray)) ++ t121) ++ (⟨#[45]⟩ : ByteArray)) ++ t122) ++ (⟨#[84]⟩ : ByteArray)).size + t123.size ≤ 9223372036854775807 then (if ((((((t120 ++ (⟨#[45]⟩ : ByteArray)) ++ t121) ++ (⟨#[45]⟩ : ByteArray)) ++ t122) ++ (⟨#[84]⟩ : ByteArray)) ++ t123).size + 1 ≤ 9223372036854775807 then ((impl_fill.f t117 2).bind fun t124 => (if (((((((t120 ++ (⟨#[45]⟩ : ByteArray)) ++ t121) ++ (⟨#[45]⟩ : ByteArray)) ++ t122) ++ (⟨#[84]⟩ : ByteArray)) ++ t123) ++ (⟨#[58]⟩ : ByteArray)).size + t124.size ≤ 9223372036854775807 then (if ((((((((t120 ++ (⟨#[45]⟩ : ByteArray)) ++ t121) ++ (⟨#[45]⟩ : ByteArray)) ++ t122) ++ (⟨#[84]⟩ : ByteArray)) ++ t123) ++ (⟨#[58]⟩ : ByteArray)) ++ t124).size + 1 ≤ 9223372036854775807 then (some (((((((((t120 ++ (⟨#[45]⟩ : ByteArray)) ++ t121) ++ (⟨#[45]⟩ : ByteArray)) ++ t122) ++ (⟨#[84]⟩ : ByteArray)) ++ t123) ++ (⟨#[58]⟩ : ByteArray)) ++ t124) ++ (⟨#[90]⟩ : ByteArray))) else (none)) else (none))) else (none)) else (none)) = some r := H
       have A12 := am A120
       clear A120
       by_cases c13 : (((((t120 ++ (⟨#[45]⟩ : ByteArray)) ++ t121) ++ (⟨#[45]⟩ : ByteArray)) ++ t122) ++ (⟨#[84]⟩ : ByteArray)).size + t123.size ≤ 9223372036854775807
       ·rw [if_pos c13] at H
        have c13b0 := eq_true c13
        have c13b1 : decide ((((((t120 ++ (⟨#[45]⟩ : ByteArray)) ++ t121) ++ (⟨#[45]⟩ : ByteArray)) ++ t122) ++ (⟨#[84]⟩ : ByteArray)).size + t123.size ≤ 9223372036854775807) = true := decide_eq_true c13
        try have c13b2 : (9223372036854775807 < (((((t120 ++ (⟨#[45]⟩ : ByteArray)) ++ t121) ++ (⟨#[45]⟩ : ByteArray)) ++ t122) ++ (⟨#[84]⟩ : ByteArray)).size + t123.size) = False := eq_false (Nat.not_lt.2 c13)
        (try (have c13b3 := c13b2; simp only [ByteArray.size_append, show (⟨#[45]⟩ : ByteArray).size = 1 from rfl, show (⟨#[84]⟩ : ByteArray).size = 1 from rfl] at c13b3))
        by_cases c14 : ((((((t120 ++ (⟨#[45]⟩ : ByteArray)) ++ t121) ++ (⟨#[45]⟩ : ByteArray)) ++ t122) ++ (⟨#[84]⟩ : ByteArray)) ++ t123).size + 1 ≤ 9223372036854775807
        ·rw [if_pos c14] at H
         have c14b0 := eq_true c14
         have c14b1 : decide (((((((t120 ++ (⟨#[45]⟩ : ByteArray)) ++ t121) ++ (⟨#[45]⟩ : ByteArray)) ++ t122) ++ (⟨#[84]⟩ : ByteArray)) ++ t123).size + 1 ≤ 9223372036854775807) = true := decide_eq_true c14
         try have c14b2 : (9223372036854775807 < ((((((t120 ++ (⟨#[45]⟩ : ByteArray)) ++ t121) ++ (⟨#[45]⟩ : ByteArray)) ++ t122) ++ (⟨#[84]⟩ : ByteArray)) ++ t123).size + 1) = False := eq_false (Nat.not_lt.2 c14)
         (try (have c14b3 := c14b2; simp only [ByteArray.size_append, show (⟨#[45]⟩ : ByteArray).size = 1 from rfl, show (⟨#[84]⟩ : ByteArray).size = 1 from rfl] at c14b3))
         replace H := Option.bind_eq_some_iff.mp H
         obtain ⟨t124, A150, H⟩ := H
         replace H : (if (((((((t120 ++ (⟨#[45]⟩ : ByteArray)) ++ t121) ++ (⟨#[45]⟩ : ByteArray)) ++ t122) ++ (⟨#[84]⟩ : ByteArray)) ++ t123) ++ (⟨#[58]⟩ : ByteArray)).size + t124.size ≤ 9223372036854775807 then (if ((((((((t120 ++ (⟨#[45]⟩ : ByteArray)) ++ t121) ++ (⟨#[45]⟩ : ByteArray)) ++ t122) ++ (⟨#[84]⟩ : ByteArray)) ++ t123) ++ (⟨#[58]⟩ : ByteArray)) ++ t124).size + 1 ≤ 9223372036854775807 then (some (((((((((t120 ++ (⟨#[45]⟩ : ByteArray)) ++ t121) ++ (⟨#[45]⟩ : ByteArray)) ++ t122) ++ (⟨#[84]⟩ : ByteArray)) ++ t123) ++ (⟨#[58]⟩ : ByteArray)) ++ t124) ++ (⟨#[90]⟩ : ByteArray))) else (none)) else (none)) = some r := H
         have A15 := am A150
         clear A150
         by_cases c16 : (((((((t120 ++ (⟨#[45]⟩ : ByteArray)) ++ t121) ++ (⟨#[45]⟩ : ByteArray)) ++ t122) ++ (⟨#[84]⟩ : ByteArray)) ++ t123) ++ (⟨#[58]⟩ : ByteArray)).size + t124.size ≤ 9223372036854775807
         ·rw [if_pos c16] at H
          have c16b0 := eq_true c16
          have c16b1 : decide ((((((((t120 ++ (⟨#[45]⟩ : ByteArray)) ++ t121) ++ (⟨#[45]⟩ : ByteArray)) ++ t122) ++ (⟨#[84]⟩ : ByteArray)) ++ t123) ++ (⟨#[58]⟩ : ByteArray)).size + t124.size ≤ 9223372036854775807) = true := decide_eq_true c16
          try have c16b2 : (9223372036854775807 < (((((((t120 ++ (⟨#[45]⟩ : ByteArray)) ++ t121) ++ (⟨#[45]⟩ : ByteArray)) ++ t122) ++ (⟨#[84]⟩ : ByteArray)) ++ t123) ++ (⟨#[58]⟩ : ByteArray)).size + t124.size) = False := eq_false (Nat.not_lt.2 c16)
          (try (have c16b3 := c16b2; simp only [ByteArray.size_append, show (⟨#[45]⟩ : ByteArray).size = 1 from rfl, show (⟨#[58]⟩ : ByteArray).size = 1 from rfl, show (⟨#[84]⟩ : ByteArray).size = 1 from rfl] at c16b3))
          by_cases c17 : ((((((((t120 ++ (⟨#[45]⟩ : ByteArray)) ++ t121) ++ (⟨#[45]⟩ : ByteArray)) ++ t122) ++ (⟨#[84]⟩ : ByteArray)) ++ t123) ++ (⟨#[58]⟩ : ByteArray)) ++ t124).size + 1 ≤ 9223372036854775807
          ·rw [if_pos c17] at H
           have c17b0 := eq_true c17
           have c17b1 : decide (((((((((t120 ++ (⟨#[45]⟩ : ByteArray)) ++ t121) ++ (⟨#[45]⟩ : ByteArray)) ++ t122) ++ (⟨#[84]⟩ : ByteArray)) ++ t123) ++ (⟨#[58]⟩ : ByteArray)) ++ t124).size + 1 ≤ 9223372036854775807) = true := decide_eq_true c17
           try have c17b2 : (9223372036854775807 < ((((((((t120 ++ (⟨#[45]⟩ : ByteArray)) ++ t121) ++ (⟨#[45]⟩ : ByteArray)) ++ t122) ++ (⟨#[84]⟩ : ByteArray)) ++ t123) ++ (⟨#[58]⟩ : ByteArray)) ++ t124).size + 1) = False := eq_false (Nat.not_lt.2 c17)
           (try (have c17b3 := c17b2; simp only [ByteArray.size_append, show (⟨#[45]⟩ : ByteArray).size = 1 from rfl, show (⟨#[58]⟩ : ByteArray).size = 1 from rfl, show (⟨#[84]⟩ : ByteArray).size = 1 from rfl] at c17b3))
           obtain rfl := Option.some.inj H
           go_enter Tryd.func38, Tryd.ntmps38
           try go_wp2_with (first | ((with_reducible refine gate_callee (f := 37) rfl ?_); refine goesL_ (some 7) rfl rfl Tryd.func37 (by kernel_rfl) rfl #[.int .i64 a0] rfl (by (try simp only [List.map_toArray, List.map_cons, List.map_nil]); first | done | rfl | (simp only [List.length_drop, List.length_take]; rfl)) ?_; (with_reducible refine (impl_DateOf.calls k a0 t113 t114 t115 t116 t117 true _ A2.out).mono ?_); rintro e w18 ⟨rfl, hb⟩; refine ⟨_, rfl, ?_⟩; have n0_ := am (below_step (bl HB) hb); clear HB; have HB := n0_; clear n0_; (try clear hb); (try clear hb2); (try clear hk); (try clear hi)) | ((with_reducible refine gate_dst (N := 3) rfl ?_); refine box_event ?hg (N := 3) ?hd (cs := #[.int .i64 0, .int .i64 0, .int .i64 0, .int .i64 0, .int .i64 0]) (t := 64) ?hr ?_; (case hd => rfl); (case hg => rfl); (case hr => first | (go_simp; done) | (go_simp; rfl)); intro gb119 hg w19 hbox hb; have n0_ := am (below_step (bl HB) hb); have n1_ := am (hbox); have n2_ := am ((by rw [hg]; exact (below_size (bl HB)) : w.heap.size ≤ gb119)); have n3_ := am ((by rw [hg]; exact (below_size (bl HB)) : w.heap.size ≤ gb119)); clear HB; have HB := n0_; have BK119 := n1_; have GW119 := n2_; have GE119 := n3_; clear n0_ n1_ n2_ n3_; clear hb hbox hg; have hz20 := cells5 BK119))
           have n0_ : Aside0 ((((((w19.setCell ⟨gb119, 0, none⟩ (.int .i64 t113)).setCell ⟨gb119, 1, none⟩ (.int .i64 t114)).setCell ⟨gb119, 2, none⟩ (.int .i64 t115)).setCell ⟨gb119, 3, none⟩ (.int .i64 t116)).setCell ⟨gb119, 4, none⟩ (.int .i64 t117)).heap[gb119]? = some (.cells #[.int .i64 t113, .int .i64 t114, .int .i64 t115, .int .i64 t116, .int .i64 t117] 64 (0, 0))) := ⟨by (with_reducible repeat (first | refine blk_drewN ?_ _ | refine blk_drew ?_ | refine blk_alloc ?_ _)); refine blk_put (cs := #[.int .i64 t113, .int .i64 t114, .int .i64 t115, .int .i64 t116, .int .i64 0]) ?_ 4 _ (by first | rfl | simp [bne]); (with_reducible repeat (first | refine blk_drewN ?_ _ | refine blk_drew ?_ | refine blk_alloc ?_ _)); refine blk_put (cs := #[.int .i64 t113, .int .i64 t114, .int .i64 t115, .int .i64 0, .int .i64 0]) ?_ 3 _ (by first | rfl | simp [bne]); (with_reducible repeat (first | refine blk_drewN ?_ _ | refine blk_drew ?_ | refine blk_alloc ?_ _)); refine blk_put (cs := #[.int .i64 t113, .int .i64 t114, .int .i64 0, .int .i64 0, .int .i64 0]) ?_ 2 _ (by first | rfl | simp [bne]); (with_reducible repeat (first | refine blk_drewN ?_ _ | refine blk_drew ?_ | refine blk_alloc ?_ _)); refine blk_put (cs := #[.int .i64 t113, .int .i64 0, .int .i64 0, .int .i64 0, .int .i64 0]) ?_ 1 _ (by first | rfl | simp [bne]); (with_reducible repeat (first | refine blk_drewN ?_ _ | refine blk_drew ?_ | refine blk_alloc ?_ _)); refine blk_put (cs := #[.int .i64 0, .int .i64 0, .int .i64 0, .int .i64 0, .int .i64 0]) ?_ 0 _ (by first | rfl | simp [bne]); (with_reducible repeat (first | refine blk_drewN ?_ _ | refine blk_drew ?_ | refine blk_alloc ?_ _)); exact BK119.out⟩
           have n1_ : Aside0 (Below w.heap.size w (((((w19.setCell ⟨gb119, 0, none⟩ (.int .i64 t113)).setCell ⟨gb119, 1, none⟩ (.int .i64 t114)).setCell ⟨gb119, 2, none⟩ (.int .i64 t115)).setCell ⟨gb119, 3, none⟩ (.int .i64 t116)).setCell ⟨gb119, 4, none⟩ (.int .i64 t117))) := ⟨bl HB⟩
           (try clear BK119)
           (try clear HB)
           generalize (((((w19.setCell ⟨gb119, 0, none⟩ (.int .i64 t113)).setCell ⟨gb119, 1, none⟩ (.int .i64 t114)).setCell ⟨gb119, 2, none⟩ (.int .i64 t115)).setCell ⟨gb119, 3, none⟩ (.int .i64 t116)).setCell ⟨gb119, 4, none⟩ (.int .i64 t117)) = w21 at n0_ n1_ ⊢
           have BK119 := n0_
           have HB := n1_
           clear n0_ n1_
           have n0_ := am (blk_drew BK119.out)
           have n1_ := am (below_drew1 HB.out)
           clear BK119
           clear HB
           have BK119 := n0_
           have HB := n1_
           clear n0_ n1_
           refine start_ (n := 25) (S := fun w' => w'.cell? ⟨gb119, 0, none⟩ = some (.int .i64 t113) ∧ w'.cell? ⟨gb119, 1, none⟩ = some (.int .i64 t114) ∧ w'.cell? ⟨gb119, 2, none⟩ = some (.int .i64 t115) ∧ w'.cell? ⟨gb119, 3, none⟩ = some (.int .i64 t116) ∧ w'.cell? ⟨gb119, 4, none⟩ = some (.int .i64 t117)) (ds := []) #[false, false, false, false, false, false, false, false, false, false, false, false, false, false, false, false, false, false, false, false, false, false, false, false, false] (by kernel_rfl) rfl rfl ⟨(blk_cell BK119.out 0).trans rfl, (blk_cell BK119.out 1).trans rfl, (blk_cell BK119.out 2).trans rfl, (blk_cell BK119.out 3).trans rfl, (blk_cell BK119.out 4).trans rfl⟩ (fun hHeld => ?_); refine with_tabW impl_Stamp.tab4 impl_Stamp.bits4 (fun HT_ HW_ => ?_)
           generalize w21.drew = w22 at BK119 HB hHeld ⊢
           refine pure_ (i := 0) (N := some 12) (v := ?_) (a' := ?_) #[true, false, false, false, false, false, false, false, false, false, false, false, false, false, false, false, false, false, false, false, false, false, false, false, false] rfl rfl (any_of HT_.out (by kernel_rfl)) (fun _ _ _ h => h) (Or.inl ⟨by rfl, ?_⟩) ?_ ?_
           rotate_left
           ·intro w'
            go_simp
            with_reducible rfl
           rotate_left
           ·simp only [Act.put, List.setIfInBounds_toArray, List.set_cons_zero, List.set_cons_succ, i64_w, i32_w]
            rfl
           refine pure_ (i := 4) (N := some 16) (v := ?_) (a' := ?_) #[true, false, false, false, true, false, false, false, false, false, false, false, false, false, false, false, false, false, false, false, false, false, false, false, false] rfl rfl (any_of HT_.out (by kernel_rfl)) (fun _ _ _ h => h) (Or.inl ⟨by rfl, ?_⟩) ?_ ?_
           rotate_left
           ·intro w'
            go_simp
            with_reducible rfl
           rotate_left
           ·simp only [Act.put, List.setIfInBounds_toArray, List.set_cons_zero, List.set_cons_succ, i64_w, i32_w]
            rfl
           refine pure_ (i := 9) (N := some 21) (v := ?_) (a' := ?_) #[true, false, false, false, true, false, false, false, false, true, false, false, false, false, false, false, false, false, false, false, false, false, false, false, false] rfl rfl (any_of HT_.out (by kernel_rfl)) (fun _ _ _ h => h) (Or.inl ⟨by rfl, ?_⟩) ?_ ?_
           rotate_left
           ·intro w'
            go_simp
            with_reducible rfl
           rotate_left
           ·simp only [Act.put, List.setIfInBounds_toArray, List.set_cons_zero, List.set_cons_succ, i64_w, i32_w]
            rfl
           refine pure_ (i := 14) (N := some 26) (v := ?_) (a' := ?_) #[true, false, false, false, true, false, false, false, false, true, false, false, false, false, true, false, false, false, false, false, false, false, false, false, false] rfl rfl (any_of HT_.out (by kernel_rfl)) (fun _ _ _ h => h) (Or.inl ⟨by rfl, ?_⟩) ?_ ?_
           rotate_left
           ·intro w'
            go_simp
            with_reducible rfl
           rotate_left
           ·simp only [Act.put, List.setIfInBounds_toArray, List.set_cons_zero, List.set_cons_succ, i64_w, i32_w]
            rfl
           refine pure_ (i := 19) (N := some 31) (v := ?_) (a' := ?_) #[true, false, false, false, true, false, false, false, false, true, false, false, false, false, true, false, false, false, false, true, false, false, false, false, false] rfl rfl (any_of HT_.out (by kernel_rfl)) (fun _ _ _ h => h) (Or.inl ⟨by rfl, ?_⟩) ?_ ?_
           rotate_left
           ·intro w'
            go_simp
            with_reducible rfl
           rotate_left
           ·simp only [Act.put, List.setIfInBounds_toArray, List.set_cons_zero, List.set_cons_succ, i64_w, i32_w]
            rfl
           refine take_ (i := 1) (N := some 13) (v := ?_) (a' := ?_) #[true, true, false, false, true, false, false, false, false, true, false, false, false, false, true, false, false, false, false, true, false, false, false, false, false] rfl rfl (take_ofW HT_.out HW_.out (by kernel_rfl)) (fun _ _ _ h => h) (Or.inl ⟨by rfl, ?_⟩) hHeld ?_ ?_
           rotate_left
           ·rintro w' ⟨s0, s1, s2, s3, s4⟩
            go_simp
            with_reducible rfl
           rotate_left
           ·simp only [Act.put, List.setIfInBounds_toArray, List.set_cons_zero, List.set_cons_succ, i64_w, i32_w]
            rfl
           refine take_ (i := 5) (N := some 17) (v := ?_) (a' := ?_) #[true, true, false, false, true, true, false, false, false, true, false, false, false, false, true, false, false, false, false, true, false, false, false, false, false] rfl rfl (take_ofW HT_.out HW_.out (by kernel_rfl)) (fun _ _ _ h => h) (Or.inl ⟨by rfl, ?_⟩) hHeld ?_ ?_
           rotate_left
           ·rintro w' ⟨s0, s1, s2, s3, s4⟩
            go_simp
            with_reducible rfl
           rotate_left
           ·simp only [Act.put, List.setIfInBounds_toArray, List.set_cons_zero, List.set_cons_succ, i64_w, i32_w]
            rfl
           refine take_ (i := 10) (N := some 22) (v := ?_) (a' := ?_) #[true, true, false, false, true, true, false, false, false, true, true, false, false, false, true, false, false, false, false, true, false, false, false, false, false] rfl rfl (take_ofW HT_.out HW_.out (by kernel_rfl)) (fun _ _ _ h => h) (Or.inl ⟨by rfl, ?_⟩) hHeld ?_ ?_
           rotate_left
           ·rintro w' ⟨s0, s1, s2, s3, s4⟩
            go_simp
            with_reducible rfl
           rotate_left
           ·simp only [Act.put, List.setIfInBounds_toArray, List.set_cons_zero, List.set_cons_succ, i64_w, i32_w]
            rfl
           refine take_ (i := 15) (N := some 27) (v := ?_) (a' := ?_) #[true, true, false, false, true, true, false, false, false, true, true, false, false, false, true, true, false, false, false, true, false, false, false, false, false] rfl rfl (take_ofW HT_.out HW_.out (by kernel_rfl)) (fun _ _ _ h => h) (Or.inl ⟨by rfl, ?_⟩) hHeld ?_ ?_
           rotate_left
           ·rintro w' ⟨s0, s1, s2, s3, s4⟩
            go_simp
            with_reducible rfl
           rotate_left
           ·simp only [Act.put, List.setIfInBounds_toArray, List.set_cons_zero, List.set_cons_succ, i64_w, i32_w]
            rfl
           refine take_ (i := 20) (N := some 32) (v := ?_) (a' := ?_) #[true, true, false, false, true, true, false, false, false, true, true, false, false, false, true, true, false, false, false, true, true, false, false, false, false] rfl rfl (take_ofW HT_.out HW_.out (by kernel_rfl)) (fun _ _ _ h => h) (Or.inl ⟨by rfl, ?_⟩) hHeld ?_ ?_
           rotate_left
           ·rintro w' ⟨s0, s1, s2, s3, s4⟩
            go_simp
            with_reducible rfl
           rotate_left
           ·simp only [Act.put, List.setIfInBounds_toArray, List.set_cons_zero, List.set_cons_succ, i64_w, i32_w]
            rfl
           refine one_ (i := 2) (N := some 14) #[true, true, true, false, true, true, false, false, false, true, true, false, false, false, true, true, false, false, false, true, true, false, false, false, false] rfl rfl (one_of HT_.out (by kernel_rfl)) (by decide) (fun K hK => ?_)
           refine goes_ Tryd.func79 (by kernel_rfl) rfl #[.int .i64 t113, .int .i64 4] (by rfl) rfl rfl (by (try simp only [List.map_toArray, List.map_cons, List.map_nil]); first | done | rfl | (simp only [List.length_drop, List.length_take]; rfl)) ?_
           with_reducible refine (impl_fill.calls t113 4 t120 _ ?side1 A4.out).mono ?_
           (case side1 => exact Gpow.below HGpow.out (bl HB))
           rintro e w23 ⟨rfl, hb⟩
           refine ⟨_, rfl, ?_⟩
           have n0_ := am (blk_below (pk BK119) hb)
           have n1_ := am (below_step (bl HB) hb)
           clear BK119
           clear HB
           have BK119 := n0_
           have HB := n1_
           clear n0_ n1_
           (try clear hb)
           (try clear hb2)
           (try clear hk)
           (try clear hi)
           refine hK.out _ _ ⟨(blk_cell BK119.out 0).trans rfl, (blk_cell BK119.out 1).trans rfl, (blk_cell BK119.out 2).trans rfl, (blk_cell BK119.out 3).trans rfl, (blk_cell BK119.out 4).trans rfl⟩ (fun hHeld => ?_)
           clear hK K
           refine norm_ (a' := ?_) ?_ ?_
           rotate_left
           ·show Act.put _ (some 14) _ = _
            simp only [Act.put, List.setIfInBounds_toArray, List.set_cons_zero, List.set_cons_succ, i64_w, i32_w]
            rfl
           refine pure_ (i := 3) (N := some 15) (v := ?_) (a' := ?_) #[true, true, true, true, true, true, false, false, false, true, true, false, false, false, true, true, false, false, false, true, true, false, false, false, false] rfl rfl (any_of HT_.out (by kernel_rfl)) (fun _ _ _ h => h) (Or.inl ⟨by rfl, ?_⟩) ?_ ?_
           rotate_left
           ·intro w'
            go_simp
            with_reducible rfl
           rotate_left
           ·simp only [Act.put, List.setIfInBounds_toArray, List.set_cons_zero, List.set_cons_succ, i64_w, i32_w]
            rfl
           refine one_ (i := 6) (N := some 18) #[true, true, true, true, true, true, true, false, false, true, true, false, false, false, true, true, false, false, false, true, true, false, false, false, false] rfl rfl (one_of HT_.out (by kernel_rfl)) (by decide) (fun K hK => ?_)
           refine goes_ Tryd.func79 (by kernel_rfl) rfl #[.int .i64 t114, .int .i64 2] (by rfl) rfl rfl (by (try simp only [List.map_toArray, List.map_cons, List.map_nil]); first | done | rfl | (simp only [List.length_drop, List.length_take]; rfl)) ?_
           with_reducible refine (impl_fill.calls t114 2 t121 _ ?side1 A6.out).mono ?_
           (case side1 => exact Gpow.below HGpow.out (bl HB))
           rintro e w24 ⟨rfl, hb⟩
           refine ⟨_, rfl, ?_⟩
           have n0_ := am (blk_below (pk BK119) hb)
           have n1_ := am (below_step (bl HB) hb)
           clear BK119
           clear HB
           have BK119 := n0_
           have HB := n1_
           clear n0_ n1_
           (try clear hb)
           (try clear hb2)
           (try clear hk)
           (try clear hi)
           refine hK.out _ _ ⟨(blk_cell BK119.out 0).trans rfl, (blk_cell BK119.out 1).trans rfl, (blk_cell BK119.out 2).trans rfl, (blk_cell BK119.out 3).trans rfl, (blk_cell BK119.out 4).trans rfl⟩ (fun hHeld => ?_)
           clear hK K
           refine norm_ (a' := ?_) ?_ ?_
           rotate_left
           ·show Act.put _ (some 18) _ = _
            simp only [Act.put, List.setIfInBounds_toArray, List.set_cons_zero, List.set_cons_succ, i64_w, i32_w]
            rfl
           refine pure_ (i := 7) (N := some 19) (v := ?_) (a' := ?_) #[true, true, true, true, true, true, true, true, false, true, true, false, false, false, true, true, false, false, false, true, true, false, false, false, false] rfl rfl (any_of HT_.out (by kernel_rfl)) (fun _ _ _ h => h) (Or.inl ⟨by rfl, ?_⟩) ?_ ?_
           rotate_left
           ·intro w'
            go_simp
            with_reducible rfl
           rotate_left
           ·simp only [Act.put, List.setIfInBounds_toArray, List.set_cons_zero, List.set_cons_succ, i64_w, i32_w]
            rfl
           refine pure_ (i := 8) (N := some 20) (v := ?_) (a' := ?_) #[true, true, true, true, true, true, true, true, true, true, true, false, false, false, true, true, false, false, false, true, true, false, false, false, false] rfl rfl (any_of HT_.out (by kernel_rfl)) (fun _ _ _ h => h) (Or.inl ⟨by rfl, ?_⟩) ?_ ?_
           rotate_left
           ·intro w'
            go_simp
            with_reducible rfl
           rotate_left
           ·simp only [Act.put, List.setIfInBounds_toArray, List.set_cons_zero, List.set_cons_succ, i64_w, i32_w]
            rfl
           refine one_ (i := 11) (N := some 23) #[true, true, true, true, true, true, true, true, true, true, true, true, false, false, true, true, false, false, false, true, true, false, false, false, false] rfl rfl (one_of HT_.out (by kernel_rfl)) (by decide) (fun K hK => ?_)
           refine goes_ Tryd.func79 (by kernel_rfl) rfl #[.int .i64 t115, .int .i64 2] (by rfl) rfl rfl (by (try simp only [List.map_toArray, List.map_cons, List.map_nil]); first | done | rfl | (simp only [List.length_drop, List.length_take]; rfl)) ?_
           with_reducible refine (impl_fill.calls t115 2 t122 _ ?side1 A9.out).mono ?_
           (case side1 => exact Gpow.below HGpow.out (bl HB))
           rintro e w25 ⟨rfl, hb⟩
           refine ⟨_, rfl, ?_⟩
           have n0_ := am (blk_below (pk BK119) hb)
           have n1_ := am (below_step (bl HB) hb)
           clear BK119
           clear HB
           have BK119 := n0_
           have HB := n1_
           clear n0_ n1_
           (try clear hb)
           (try clear hb2)
           (try clear hk)
           (try clear hi)
           refine hK.out _ _ ⟨(blk_cell BK119.out 0).trans rfl, (blk_cell BK119.out 1).trans rfl, (blk_cell BK119.out 2).trans rfl, (blk_cell BK119.out 3).trans rfl, (blk_cell BK119.out 4).trans rfl⟩ (fun hHeld => ?_)
           clear hK K
           refine norm_ (a' := ?_) ?_ ?_
           rotate_left
           ·show Act.put _ (some 23) _ = _
            simp only [Act.put, List.setIfInBounds_toArray, List.set_cons_zero, List.set_cons_succ, i64_w, i32_w]
            rfl
           refine pure_ (i := 12) (N := some 24) (v := ?_) (a' := ?_) #[true, true, true, true, true, true, true, true, true, true, true, true, true, false, true, true, false, false, false, true, true, false, false, false, false] rfl rfl (any_of HT_.out (by kernel_rfl)) (fun _ _ _ h => h) (Or.inl ⟨by rfl, ?_⟩) ?_ ?_
           rotate_left
           ·intro w'
            go_simp
            with_reducible rfl
           rotate_left
           ·simp only [Act.put, List.setIfInBounds_toArray, List.set_cons_zero, List.set_cons_succ, i64_w, i32_w]
            rfl
           refine pure_ (i := 13) (N := some 25) (v := ?_) (a' := ?_) #[true, true, true, true, true, true, true, true, true, true, true, true, true, true, true, true, false, false, false, true, true, false, false, false, false] rfl rfl (any_of HT_.out (by kernel_rfl)) (fun _ _ _ h => h) (Or.inl ⟨by rfl, ?_⟩) ?_ ?_
           rotate_left
           ·intro w'
            go_simp
            with_reducible rfl
           rotate_left
           ·simp only [Act.put, List.setIfInBounds_toArray, List.set_cons_zero, List.set_cons_succ, i64_w, i32_w]
            rfl
           refine one_ (i := 16) (N := some 28) #[true, true, true, true, true, true, true, true, true, true, true, true, true, true, true, true, true, false, false, true, true, false, false, false, false] rfl rfl (one_of HT_.out (by kernel_rfl)) (by decide) (fun K hK => ?_)
           refine goes_ Tryd.func79 (by kernel_rfl) rfl #[.int .i64 t116, .int .i64 2] (by rfl) rfl rfl (by (try simp only [List.map_toArray, List.map_cons, List.map_nil]); first | done | rfl | (simp only [List.length_drop, List.length_take]; rfl)) ?_
           with_reducible refine (impl_fill.calls t116 2 t123 _ ?side1 A12.out).mono ?_
           (case side1 => exact Gpow.below HGpow.out (bl HB))
           rintro e w26 ⟨rfl, hb⟩
           refine ⟨_, rfl, ?_⟩
           have n0_ := am (blk_below (pk BK119) hb)
           have n1_ := am (below_step (bl HB) hb)
           clear BK119
           clear HB
           have BK119 := n0_
           have HB := n1_
           clear n0_ n1_
           (try clear hb)
           (try clear hb2)
           (try clear hk)
           (try clear hi)
           refine hK.out _ _ ⟨(blk_cell BK119.out 0).trans rfl, (blk_cell BK119.out 1).trans rfl, (blk_cell BK119.out 2).trans rfl, (blk_cell BK119.out 3).trans rfl, (blk_cell BK119.out 4).trans rfl⟩ (fun hHeld => ?_)
           clear hK K
           refine norm_ (a' := ?_) ?_ ?_
           rotate_left
           ·show Act.put _ (some 28) _ = _
            simp only [Act.put, List.setIfInBounds_toArray, List.set_cons_zero, List.set_cons_succ, i64_w, i32_w]
            rfl
           refine pure_ (i := 17) (N := some 29) (v := ?_) (a' := ?_) #[true, true, true, true, true, true, true, true, true, true, true, true, true, true, true, true, true, true, false, true, true, false, false, false, false] rfl rfl (any_of HT_.out (by kernel_rfl)) (fun _ _ _ h => h) (Or.inl ⟨by rfl, ?_⟩) ?_ ?_
           rotate_left
           ·intro w'
            go_simp
            with_reducible rfl
           rotate_left
           ·simp only [Act.put, List.setIfInBounds_toArray, List.set_cons_zero, List.set_cons_succ, i64_w, i32_w]
            rfl
           refine pure_ (i := 18) (N := some 30) (v := ?_) (a' := ?_) #[true, true, true, true, true, true, true, true, true, true, true, true, true, true, true, true, true, true, true, true, true, false, false, false, false] rfl rfl (any_of HT_.out (by kernel_rfl)) (fun _ _ _ h => h) (Or.inl ⟨by rfl, ?_⟩) ?_ ?_
           rotate_left
           ·intro w'
            go_simp
            with_reducible rfl
           rotate_left
           ·simp only [Act.put, List.setIfInBounds_toArray, List.set_cons_zero, List.set_cons_succ, i64_w, i32_w]
            rfl
           refine one_ (i := 21) (N := some 33) #[true, true, true, true, true, true, true, true, true, true, true, true, true, true, true, true, true, true, true, true, true, true, false, false, false] rfl rfl (one_of HT_.out (by kernel_rfl)) (by decide) (fun K hK => ?_)
           refine goes_ Tryd.func79 (by kernel_rfl) rfl #[.int .i64 t117, .int .i64 2] (by rfl) rfl rfl (by (try simp only [List.map_toArray, List.map_cons, List.map_nil]); first | done | rfl | (simp only [List.length_drop, List.length_take]; rfl)) ?_
           with_reducible refine (impl_fill.calls t117 2 t124 _ ?side1 A15.out).mono ?_
           (case side1 => exact Gpow.below HGpow.out (bl HB))
           rintro e w27 ⟨rfl, hb⟩
           refine ⟨_, rfl, ?_⟩
           have n0_ := am (blk_below (pk BK119) hb)
           have n1_ := am (below_step (bl HB) hb)
           clear BK119
           clear HB
           have BK119 := n0_
           have HB := n1_
           clear n0_ n1_
           (try clear hb)
           (try clear hb2)
           (try clear hk)
           (try clear hi)
           refine hK.out _ _ ⟨(blk_cell BK119.out 0).trans rfl, (blk_cell BK119.out 1).trans rfl, (blk_cell BK119.out 2).trans rfl, (blk_cell BK119.out 3).trans rfl, (blk_cell BK119.out 4).trans rfl⟩ (fun hHeld => ?_)
           clear hK K
           refine norm_ (a' := ?_) ?_ ?_
           rotate_left
           ·show Act.put _ (some 33) _ = _
            simp only [Act.put, List.setIfInBounds_toArray, List.set_cons_zero, List.set_cons_succ, i64_w, i32_w]
            rfl
           refine pure_ (i := 22) (N := some 34) (v := ?_) (a' := ?_) #[true, true, true, true, true, true, true, true, true, true, true, true, true, true, true, true, true, true, true, true, true, true, true, false, false] rfl rfl (any_of HT_.out (by kernel_rfl)) (fun _ _ _ h => h) (Or.inl ⟨by rfl, ?_⟩) ?_ ?_
           rotate_left
           ·intro w'
            go_simp
            with_reducible rfl
           rotate_left
           ·simp only [Act.put, List.setIfInBounds_toArray, List.set_cons_zero, List.set_cons_succ, i64_w, i32_w]
            rfl
           refine pure_ (i := 23) (N := some 35) (v := ?_) (a' := ?_) #[true, true, true, true, true, true, true, true, true, true, true, true, true, true, true, true, true, true, true, true, true, true, true, true, false] rfl rfl (any_of HT_.out (by kernel_rfl)) (fun _ _ _ h => h) (Or.inl ⟨by rfl, ?_⟩) ?_ ?_
           rotate_left
           ·intro w'
            go_simp
            with_reducible rfl
           rotate_left
           ·simp only [Act.put, List.setIfInBounds_toArray, List.set_cons_zero, List.set_cons_succ, i64_w, i32_w]
            rfl
           refine pure_ (i := 24) (N := some 2) (v := ?_) (a' := ?_) #[true, true, true, true, true, true, true, true, true, true, true, true, true, true, true, true, true, true, true, true, true, true, true, true, true] rfl rfl (any_of HT_.out (by kernel_rfl)) (fun _ _ _ h => h) (Or.inl ⟨by rfl, ?_⟩) ?_ ?_
           rotate_left
           ·intro w'
            go_simp
            with_reducible rfl
           rotate_left
           ·simp only [Act.put, List.setIfInBounds_toArray, List.set_cons_zero, List.set_cons_succ, i64_w, i32_w]
            rfl
           refine done_ (done_of HT_.out (by kernel_rfl)) ?_
           try go_wp2
           go_ret
           exact ⟨by first | rfl | (simp [errW_none, errW_some] <;> rfl) | (simp [*, errW_none, errW_some] <;> rfl), bl HB⟩
          ·rw [if_neg c17] at H
           exact absurd H (by simp)
         ·rw [if_neg c16] at H
          exact absurd H (by simp)
        ·rw [if_neg c14] at H
         exact absurd H (by simp)
       ·rw [if_neg c13] at H
        exact absurd H (by simp)
      ·rw [if_neg c11] at H
       exact absurd H (by simp)
     ·rw [if_neg c10] at H
      exact absurd H (by simp)
    ·rw [if_neg c8] at H
     exact absurd H (by simp)
   ·rw [if_neg c7] at H
    exact absurd H (by simp)
  ·rw [if_neg c5] at H
   exact absurd H (by simp)
 ·replace c3 := Bool.eq_false_iff.mpr c3
  subst c3
  have H1 : (some (⟨#[]⟩ : ByteArray)) = some r := by rw [if_neg (show ¬ (false = true) by decide)] at H; exact H
  clear H
  have H := H1
  clear H1
  obtain rfl := Option.some.inj H
  go_enter Tryd.func38, Tryd.ntmps38
  go_wp2_with (first | ((with_reducible refine gate_callee (f := 37) rfl ?_); refine goesL_ (some 7) rfl rfl Tryd.func37 (by kernel_rfl) rfl #[.int .i64 a0] rfl (by (try simp only [List.map_toArray, List.map_cons, List.map_nil]); first | done | rfl | (simp only [List.length_drop, List.length_take]; rfl)) ?_; (with_reducible refine (impl_DateOf.calls k a0 t113 t114 t115 t116 t117 false _ A2.out).mono ?_); rintro e w28 ⟨rfl, hb⟩; refine ⟨_, rfl, ?_⟩; have n0_ := am (below_step (bl HB) hb); clear HB; have HB := n0_; clear n0_; (try clear hb); (try clear hb2); (try clear hk); (try clear hi)) | ((with_reducible refine gate_dst (N := 3) rfl ?_); refine box_event ?hg (N := 3) ?hd (cs := #[.int .i64 0, .int .i64 0, .int .i64 0, .int .i64 0, .int .i64 0]) (t := 64) ?hr ?_; (case hd => rfl); (case hg => rfl); (case hr => first | (go_simp; done) | (go_simp; rfl)); intro gb119 hg w29 hbox hb; have n0_ := am (below_step (bl HB) hb); have n1_ := am (hbox); have n2_ := am ((by rw [hg]; exact (below_size (bl HB)) : w.heap.size ≤ gb119)); have n3_ := am ((by rw [hg]; exact (below_size (bl HB)) : w.heap.size ≤ gb119)); clear HB; have HB := n0_; have BK119 := n1_; have GW119 := n2_; have GE119 := n3_; clear n0_ n1_ n2_ n3_; clear hb hbox hg; have hz30 := cells5 BK119))
  go_ret
  exact ⟨by first | rfl | (simp [errW_none, errW_some] <;> rfl) | (simp [*, errW_none, errW_some] <;> rfl), bl HB⟩

end Go.Proofs.YtmcmkdiefpepnaaDoor.XRS
