/-
  Part of a proof by the engine: texts that a program of ours printed, or plain lemmas on them. No condition but what each theorem says.
-/
import Derived.Test.YtgkejafaggaocaaLH
import Derived.Test.YtgkejafaggaocaaFT
set_option linter.unusedVariables false
set_option linter.unusedSimpArgs false
namespace Go.Proofs.Ytgkejafaggaocaa.LH
open Go Go.Eng Go.FT 
theorem marks_step {α : Type} (f : Nat → α) (xs : List α) {n : Nat} (h : n < xs.length) : (((List.range n).map f) ++ xs.drop n).set n (f n) = (List.range (n + 1)).map f ++ xs.drop (n + 1) := by
  rw [List.set_append_right _ _ (by simp), List.range_succ, List.map_append, List.append_assoc]
  have : (xs.drop n).set 0 (f n) = f n :: xs.drop (n + 1) := by rw [drop_cons h]; rfl
  simp [this]
theorem marks_len {α : Type} (f : Nat → α) (xs : List α) {n : Nat} (h : n ≤ xs.length) : (((List.range n).map f) ++ xs.drop n).length = xs.length := by simp; omega
theorem same_self (x : Nat) : laws_sameFloat x x = some true := by
  unfold laws_sameFloat
  cases h : feq x x
  · rfl
  · cases h0 : feq x 0
    · rfl
    · simp
theorem toInt64S_eq (xs : List Int) (hx : xs.length ≤ 1048576) : laws_toInt64S xs = some xs := by
  refine evF_eq ?_
  have hmax : 1048576 ≤ maxBytes / 8 := by decide
  simp only [laws_toInt64S_F, Int.le_refl, decide_true, cond_true, Int.toNat_natCast, show xs.length ≤ maxBytes / 8 by omega]
  have h0 := ev_upto (l := fun k n => laws_toInt64S_L3 k xs (n : Int) (xs.take n ++ List.replicate (xs.length - n) 0)) (N := xs.length) (r := xs) (fun n hn k => by
    have hl := copy_len (z := (0 : Int)) (Nat.le_of_lt hn)
    simp only [laws_toInt64S_L3, show (n : Int) < (xs.length : Int) by omega, show (0 : Int) ≤ (n : Int) by omega, decide_true, cond_true, hl, rd_nat (k := .int .i64) hn, wsucc (show n < 9223372036854775807 by omega)]
    rw [setW_nat (by rw [hl]; exact hn), Option.bind_some, copy_step hn]) (ev_succ (by
    simp only [laws_toInt64S_L3, Int.lt_irrefl, decide_false, cond_false]
    exact ev_eq (ev_now _) (by simp)))
  simpa using h0
theorem eqInt64S_self (xs : List Int) (hx : xs.length ≤ 1048576) : laws_eqInt64S xs xs = some true := by
  refine evF_eq ?_
  simp only [laws_eqInt64S_F, bne_self_eq_false, cond_false]
  exact ev_upto (l := fun k n => laws_eqInt64S_L4 k xs xs (n : Int)) (N := xs.length) (fun n hn k => by
    simp only [laws_eqInt64S_L4, show (n : Int) < (xs.length : Int) by omega, show (0 : Int) ≤ (n : Int) by omega, decide_true, cond_true, bne_self_eq_false, wsucc (show n < 9223372036854775807 by omega), cond_false, Option.bind_some, Bool.not_true]) (ev_succ (by
    simp only [laws_eqInt64S_L4, Int.lt_irrefl, decide_false, cond_false]
    exact ev_now _))
def marksInt64 (k : Int) (n : Nat) : List Int := (List.range n).map fun i : Nat => k + (i : Int)
theorem markInt64S_eq (xs : List Int) (hx : xs.length ≤ 1048576) (k : Int) (hk : 0 ≤ k ∧ k ≤ 1000000000000) : laws_markInt64S k xs = some (k + (xs.length : Int), marksInt64 k xs.length) := by
  refine evF_eq ?_
  have h0 := ev_upto (l := fun q n => laws_markInt64S_L2 q (k + (n : Int)) (n : Int) ((List.range n).map (fun i : Nat => k + (i : Int)) ++ xs.drop n)) (N := xs.length) (r := (k + (xs.length : Int), marksInt64 k xs.length)) (fun n hn q => by
    have hl := marks_len (fun i : Nat => k + (i : Int)) xs (Nat.le_of_lt hn)
    have e1 : IntKind.i64.wrap (k + (n : Int) + 1) = k + ((n + 1 : Nat) : Int) := by rw [w64 (by omega) (by omega)]; omega
    simp only [laws_markInt64S_L2, e1, hl, show (n : Int) < (xs.length : Int) by omega, show (0 : Int) ≤ (n : Int) by omega, decide_true, cond_true, wsucc (show n < 9223372036854775807 by omega)]
    rw [setW_nat (by rw [hl]; exact hn), Option.bind_some, marks_step (fun i : Nat => k + (i : Int)) xs hn]) (ev_succ (by
    have hl := marks_len (fun i : Nat => k + (i : Int)) xs (Nat.le_refl _)
    simp only [laws_markInt64S_L2, hl, Int.lt_irrefl, decide_false, cond_false]
    exact ev_eq (ev_now _) (by simp [marksInt64])))
  simpa [laws_markInt64S_F] using h0
theorem toByteS_eq (xs : List Int) (hx : xs.length ≤ 1048576) : laws_toByteS xs = some xs := by
  refine evF_eq ?_
  have hmax : 1048576 ≤ maxBytes / 1 := by decide
  simp only [laws_toByteS_F, Int.le_refl, decide_true, cond_true, Int.toNat_natCast, show xs.length ≤ maxBytes / 1 by omega]
  have h0 := ev_upto (l := fun k n => laws_toByteS_L3 k xs (n : Int) (xs.take n ++ List.replicate (xs.length - n) 0)) (N := xs.length) (r := xs) (fun n hn k => by
    have hl := copy_len (z := (0 : Int)) (Nat.le_of_lt hn)
    simp only [laws_toByteS_L3, show (n : Int) < (xs.length : Int) by omega, show (0 : Int) ≤ (n : Int) by omega, decide_true, cond_true, hl, rd_nat (k := .int .u8) hn, wsucc (show n < 9223372036854775807 by omega)]
    rw [setW_nat (by rw [hl]; exact hn), Option.bind_some, copy_step hn]) (ev_succ (by
    simp only [laws_toByteS_L3, Int.lt_irrefl, decide_false, cond_false]
    exact ev_eq (ev_now _) (by simp)))
  simpa using h0
theorem eqByteS_self (xs : List Int) (hx : xs.length ≤ 1048576) : laws_eqByteS xs xs = some true := by
  refine evF_eq ?_
  simp only [laws_eqByteS_F, bne_self_eq_false, cond_false]
  exact ev_upto (l := fun k n => laws_eqByteS_L4 k xs xs (n : Int)) (N := xs.length) (fun n hn k => by
    simp only [laws_eqByteS_L4, show (n : Int) < (xs.length : Int) by omega, show (0 : Int) ≤ (n : Int) by omega, decide_true, cond_true, bne_self_eq_false, wsucc (show n < 9223372036854775807 by omega), cond_false, Option.bind_some, Bool.not_true]) (ev_succ (by
    simp only [laws_eqByteS_L4, Int.lt_irrefl, decide_false, cond_false]
    exact ev_now _))
def marksByte (k : Int) (n : Nat) : List Int := (List.range n).map fun i : Nat => IntKind.u8.wrap (k + (i : Int))
theorem markByteS_eq (xs : List Int) (hx : xs.length ≤ 1048576) (k : Int) (hk : 0 ≤ k ∧ k ≤ 1000000000000) : laws_markByteS k xs = some (k + (xs.length : Int), marksByte k xs.length) := by
  refine evF_eq ?_
  have h0 := ev_upto (l := fun q n => laws_markByteS_L2 q (k + (n : Int)) (n : Int) ((List.range n).map (fun i : Nat => IntKind.u8.wrap (k + (i : Int))) ++ xs.drop n)) (N := xs.length) (r := (k + (xs.length : Int), marksByte k xs.length)) (fun n hn q => by
    have hl := marks_len (fun i : Nat => IntKind.u8.wrap (k + (i : Int))) xs (Nat.le_of_lt hn)
    have e1 : IntKind.i64.wrap (k + (n : Int) + 1) = k + ((n + 1 : Nat) : Int) := by rw [w64 (by omega) (by omega)]; omega
    simp only [laws_markByteS_L2, e1, hl, show (n : Int) < (xs.length : Int) by omega, show (0 : Int) ≤ (n : Int) by omega, decide_true, cond_true, wsucc (show n < 9223372036854775807 by omega)]
    rw [setW_nat (by rw [hl]; exact hn), Option.bind_some, marks_step (fun i : Nat => IntKind.u8.wrap (k + (i : Int))) xs hn]) (ev_succ (by
    have hl := marks_len (fun i : Nat => IntKind.u8.wrap (k + (i : Int))) xs (Nat.le_refl _)
    simp only [laws_markByteS_L2, hl, Int.lt_irrefl, decide_false, cond_false]
    exact ev_eq (ev_now _) (by simp [marksByte])))
  simpa [laws_markByteS_F] using h0
theorem heldByteS_eq (n0 : Nat) (hx : n0 ≤ 1048576) (k : Int) (hk : 0 ≤ k ∧ k ≤ 1000000000000) : laws_heldByteS (marksByte k n0) k = some (k + (n0 : Int)) := by
  refine evF_eq ?_
  have hl : (marksByte k n0).length = n0 := by simp [marksByte]
  have h0 := ev_upto (l := fun q n => laws_heldByteS_L2 q (marksByte k n0) (k + (n : Int)) (n : Int)) (N := n0) (r := k + (n0 : Int)) (fun n hn q => by
    have hn' : n < (marksByte k n0).length := by omega
    have e1 : IntKind.i64.wrap (k + (n : Int) + 1) = k + ((n + 1 : Nat) : Int) := by rw [w64 (by omega) (by omega)]; omega
    have e2 : (marksByte k n0)[n] = IntKind.u8.wrap (k + (n : Int)) := by simp [marksByte]
    skip
    simp only [laws_heldByteS_L2, e1, rd_nat (k := .int .u8) hn', e2, show (n : Int) < ((marksByte k n0).length : Int) by omega, show (0 : Int) ≤ (n : Int) by omega, decide_true, cond_true, bne_self_eq_false, cond_false, wsucc (show n < 9223372036854775807 by omega)]) (ev_succ (by
    simp only [laws_heldByteS_L2, hl, Int.lt_irrefl, decide_false, cond_false]
    exact ev_now _))
  simpa [laws_heldByteS_F] using h0
theorem toFloat64S_eq (xs : List Nat) (hx : xs.length ≤ 1048576) : laws_toFloat64S xs = some xs := by
  refine evF_eq ?_
  have hmax : 1048576 ≤ maxBytes / 8 := by decide
  simp only [laws_toFloat64S_F, Int.le_refl, decide_true, cond_true, Int.toNat_natCast, show xs.length ≤ maxBytes / 8 by omega]
  have h0 := ev_upto (l := fun k n => laws_toFloat64S_L3 k xs (n : Int) (xs.take n ++ List.replicate (xs.length - n) 0)) (N := xs.length) (r := xs) (fun n hn k => by
    have hl := copy_len (z := (0 : Nat)) (Nat.le_of_lt hn)
    simp only [laws_toFloat64S_L3, show (n : Int) < (xs.length : Int) by omega, show (0 : Int) ≤ (n : Int) by omega, decide_true, cond_true, hl, rd_nat (k := .flt) hn, wsucc (show n < 9223372036854775807 by omega)]
    rw [setW_nat (by rw [hl]; exact hn), Option.bind_some, copy_step hn]) (ev_succ (by
    simp only [laws_toFloat64S_L3, Int.lt_irrefl, decide_false, cond_false]
    exact ev_eq (ev_now _) (by simp)))
  simpa using h0
theorem eqFloat64S_self (xs : List Nat) (hx : xs.length ≤ 1048576) : laws_eqFloat64S xs xs = some true := by
  refine evF_eq ?_
  simp only [laws_eqFloat64S_F, bne_self_eq_false, cond_false]
  exact ev_upto (l := fun k n => laws_eqFloat64S_L4 k xs xs (n : Int)) (N := xs.length) (fun n hn k => by
    simp only [laws_eqFloat64S_L4, show (n : Int) < (xs.length : Int) by omega, show (0 : Int) ≤ (n : Int) by omega, decide_true, cond_true, bne_self_eq_false, same_self, wsucc (show n < 9223372036854775807 by omega), cond_false, Option.bind_some, Bool.not_true]) (ev_succ (by
    simp only [laws_eqFloat64S_L4, Int.lt_irrefl, decide_false, cond_false]
    exact ev_now _))
def marksFloat64 (k : Int) (n : Nat) : List Nat := (List.range n).map fun i : Nat => fofi (k + (i : Int))
theorem markFloat64S_eq (xs : List Nat) (hx : xs.length ≤ 1048576) (k : Int) (hk : 0 ≤ k ∧ k ≤ 1000000000000) : laws_markFloat64S k xs = some (k + (xs.length : Int), marksFloat64 k xs.length) := by
  refine evF_eq ?_
  have h0 := ev_upto (l := fun q n => laws_markFloat64S_L2 q (k + (n : Int)) (n : Int) ((List.range n).map (fun i : Nat => fofi (k + (i : Int))) ++ xs.drop n)) (N := xs.length) (r := (k + (xs.length : Int), marksFloat64 k xs.length)) (fun n hn q => by
    have hl := marks_len (fun i : Nat => fofi (k + (i : Int))) xs (Nat.le_of_lt hn)
    have e1 : IntKind.i64.wrap (k + (n : Int) + 1) = k + ((n + 1 : Nat) : Int) := by rw [w64 (by omega) (by omega)]; omega
    simp only [laws_markFloat64S_L2, e1, hl, show (n : Int) < (xs.length : Int) by omega, show (0 : Int) ≤ (n : Int) by omega, decide_true, cond_true, wsucc (show n < 9223372036854775807 by omega)]
    rw [setW_nat (by rw [hl]; exact hn), Option.bind_some, marks_step (fun i : Nat => fofi (k + (i : Int))) xs hn]) (ev_succ (by
    have hl := marks_len (fun i : Nat => fofi (k + (i : Int))) xs (Nat.le_refl _)
    simp only [laws_markFloat64S_L2, hl, Int.lt_irrefl, decide_false, cond_false]
    exact ev_eq (ev_now _) (by simp [marksFloat64])))
  simpa [laws_markFloat64S_F] using h0
theorem heldFloat64S_eq (n0 : Nat) (hx : n0 ≤ 1048576) (k : Int) (hk : 0 ≤ k ∧ k ≤ 1000000000000) : laws_heldFloat64S (marksFloat64 k n0) k = some (k + (n0 : Int)) := by
  refine evF_eq ?_
  have hl : (marksFloat64 k n0).length = n0 := by simp [marksFloat64]
  have h0 := ev_upto (l := fun q n => laws_heldFloat64S_L2 q (marksFloat64 k n0) (k + (n : Int)) (n : Int)) (N := n0) (r := k + (n0 : Int)) (fun n hn q => by
    have hn' : n < (marksFloat64 k n0).length := by omega
    have e1 : IntKind.i64.wrap (k + (n : Int) + 1) = k + ((n + 1 : Nat) : Int) := by rw [w64 (by omega) (by omega)]; omega
    have e2 : (marksFloat64 k n0)[n] = fofi (k + (n : Int)) := by simp [marksFloat64]
    have e3 := self_fin (fin_of (n := k + (n : Int)) (by omega))
    simp only [laws_heldFloat64S_L2, e1, rd_nat (k := .flt) hn', e2, e3, Bool.not_true, show (n : Int) < ((marksFloat64 k n0).length : Int) by omega, show (0 : Int) ≤ (n : Int) by omega, decide_true, cond_true, bne_self_eq_false, cond_false, wsucc (show n < 9223372036854775807 by omega)]) (ev_succ (by
    simp only [laws_heldFloat64S_L2, hl, Int.lt_irrefl, decide_false, cond_false]
    exact ev_now _))
  simpa [laws_heldFloat64S_F] using h0
theorem toElemS_eq (xs : List (Int × Int × Int × Int)) (hx : xs.length ≤ 1048576) : laws_toElemS xs = some xs := by
  refine evF_eq ?_
  have hmax : 1048576 ≤ maxBytes / 32 := by decide
  simp only [laws_toElemS_F, Int.le_refl, decide_true, cond_true, Int.toNat_natCast, show xs.length ≤ maxBytes / 32 by omega]
  have h0 := ev_upto (l := fun k n => laws_toElemS_L3 k xs (n : Int) (xs.take n ++ List.replicate (xs.length - n) (0, 0, 0, 0))) (N := xs.length) (r := xs) (fun n hn k => by
    have hl := copy_len (z := ((0, 0, 0, 0) : Int × Int × Int × Int)) (Nat.le_of_lt hn)
    simp only [laws_toElemS_L3, show (n : Int) < (xs.length : Int) by omega, show (0 : Int) ≤ (n : Int) by omega, decide_true, cond_true, hl, laws_toElem, Option.bind_some, wsucc (show n < 9223372036854775807 by omega)]
    rw [setW_nat (by rw [hl]; exact hn), Option.bind_some]
    rw [show ((rd K4_0 xs (n : Int)).fst, (rd K4_0 xs (n : Int)).snd.fst, (rd K4_0 xs (n : Int)).snd.snd.fst, (rd K4_0 xs (n : Int)).snd.snd.snd) = xs[n] by rw [rd_nat (k := K4_0) hn]]
    rw [copy_step hn]) (ev_succ (by
    simp only [laws_toElemS_L3, Int.lt_irrefl, decide_false, cond_false]
    exact ev_eq (ev_now _) (by simp)))
  simpa using h0
theorem eqElemS_self (xs : List (Int × Int × Int × Int)) (hx : xs.length ≤ 1048576) : laws_eqElemS xs xs = some true := by
  refine evF_eq ?_
  simp only [laws_eqElemS_F, bne_self_eq_false, cond_false]
  exact ev_upto (l := fun k n => laws_eqElemS_L4 k xs xs (n : Int)) (N := xs.length) (fun n hn k => by
    simp only [laws_eqElemS_L4, laws_eqElem, show (n : Int) < (xs.length : Int) by omega, show (0 : Int) ≤ (n : Int) by omega, decide_true, cond_true, bne_self_eq_false, wsucc (show n < 9223372036854775807 by omega), cond_false, Option.bind_some, Bool.not_true]) (ev_succ (by
    simp only [laws_eqElemS_L4, Int.lt_irrefl, decide_false, cond_false]
    exact ev_now _))
theorem pElem0 (x : Int × Int × Int × Int) (v : Int) : putK K4_0 0 [.int .i64 v] x = some (v, x.2.1, x.2.2.1, x.2.2.2) := rfl
theorem pElem1 (x : Int × Int × Int × Int) (v : Int) : putK K4_0 1 [.int .i64 v] x = some (x.1, v, x.2.2.1, x.2.2.2) := rfl
theorem pElem2 (x : Int × Int × Int × Int) (v : Int) : putK K4_0 2 [.int .i64 v] x = some (x.1, x.2.1, v, x.2.2.2) := rfl
theorem pElem3 (x : Int × Int × Int × Int) (v : Int) : putK K4_0 3 [.int .i64 v] x = some (x.1, x.2.1, x.2.2.1, v) := rfl
theorem markElemS_some (xs : List (Int × Int × Int × Int)) (hx : xs.length ≤ 1048576) (k : Int) (hk : 0 ≤ k ∧ k ≤ 1000000000000) : ∃ ys : List (Int × Int × Int × Int), laws_markElemS k xs = some (k + 4 * (xs.length : Int), ys) := by
  have loop : ∀ (m n : Nat) (ys : List (Int × Int × Int × Int)), ys.length - n = m → n ≤ ys.length → ys.length ≤ 1048576 → ∃ zs, Ev (fun q => laws_markElemS_L2 q (k + 4 * (n : Int)) (n : Int) ys) (k + 4 * (ys.length : Int), zs) := by
    intro m
    induction m with
    | zero =>
      intro n ys hm hn hl
      obtain rfl : n = ys.length := by omega
      refine ⟨ys, ?_⟩
      apply ev_succ
      simp only [laws_markElemS_L2, Int.lt_irrefl, decide_false, cond_false]
      exact ev_now _
    | succ m ih =>
      intro n ys hm hn hl
      have hlt : n < ys.length := by omega
      have w1 : IntKind.i64.wrap (k + 4 * (n : Int) + 1) = k + 4 * (n : Int) + 1 := w64 (by omega) (by omega)
      have w2 : IntKind.i64.wrap (k + 4 * (n : Int) + 1 + 1) = k + 4 * (n : Int) + 1 + 1 := w64 (by omega) (by omega)
      have w3 : IntKind.i64.wrap (k + 4 * (n : Int) + 1 + 1 + 1) = k + 4 * (n : Int) + 1 + 1 + 1 := w64 (by omega) (by omega)
      have w4 : IntKind.i64.wrap (k + 4 * (n : Int) + 1 + 1 + 1 + 1) = k + 4 * ((n + 1 : Nat) : Int) := by rw [w64 (by omega) (by omega)]; omega
      have hS : ∀ (o : Nat) (cs : List Cell) (ys : List (Int × Int × Int × Int)) (h : n < ys.length), setO K4_0 o cs ys (n : Int) = (putK K4_0 o cs ys[n]).map fun y => ys.set n y := fun o cs ys h => setO_put h
      obtain ⟨zs, hz⟩ := ih (n + 1) ((((ys.set n (k + 4 * (n : Int), ys[n].2.1, ys[n].2.2.1, ys[n].2.2.2)).set n (k + 4 * (n : Int), k + 4 * (n : Int) + 1, ys[n].2.2.1, ys[n].2.2.2)).set n (k + 4 * (n : Int), k + 4 * (n : Int) + 1, k + 4 * (n : Int) + 1 + 1, ys[n].2.2.2)).set n (k + 4 * (n : Int), k + 4 * (n : Int) + 1, k + 4 * (n : Int) + 1 + 1, k + 4 * (n : Int) + 1 + 1 + 1)) (by simp; omega) (by simp; omega) (by simp; omega)
      refine ⟨zs, ?_⟩
      apply ev_succ
      simp only [List.length_set] at hz
      simp only [laws_markElemS_L2, w1, w2, w3, w4, show (n : Int) < (ys.length : Int) by omega, show (0 : Int) ≤ (n : Int) by omega, decide_true, cond_true, hS, hlt, List.length_set, pElem0, pElem1, pElem2, pElem3, Option.map_some, Option.bind_some, List.getElem_set_self, wsucc (show n < 9223372036854775807 by omega)]
      exact hz
  obtain ⟨zs, hz⟩ := loop xs.length 0 xs (by omega) (by omega) hx
  refine ⟨zs, evF_eq ?_⟩
  simpa [laws_markElemS_F] using hz
end Go.Proofs.Ytgkejafaggaocaa.LH
