/-
  Part of a proof by the engine: texts that a program of ours printed, or plain lemmas on them. No condition but what each theorem says.
-/
import Derived.Test.YtmcmkdiefpepnaaDoorTMP2
set_option linter.unusedVariables false
set_option linter.unusedSimpArgs false
namespace Go.Proofs.YtmcmkdiefpepnaaDoor.TM
open Go Go.Eng Go.Proofs.YtmcmkdiefpepnaaDoor.DT Go.Proofs.YtmcmkdiefpepnaaDoor.EX
def stL (y m d h i : Nat) : List UInt8 := d4 y ++ [45] ++ d2 m ++ [45] ++ d2 d ++ [84] ++ d2 h ++ [58] ++ d2 i ++ [90]
/-- The fields of minute t in month j. -/
def fY (j : Nat) : Nat := 2000 + j / 12
def fM (j : Nat) : Nat := j % 12 + 1
def fD (t j : Nat) : Nat := t / 1440 - Sm j + 1
theorem fields (t j : Nat) : dateV t j = (((fY j : Nat) : Int), ((fM j : Nat) : Int), ((fD t j : Nat) : Int), ((t / 60 % 24 : Nat) : Int), ((t % 60 : Nat) : Int), true) := by
  unfold dateV fY fM fD
  rw [show (2000 + ((j / 12 : Nat) : Int)) = ((2000 + j / 12 : Nat) : Int) by omega, show (((j % 12 : Nat) : Int) + 1) = ((j % 12 + 1 : Nat) : Int) by omega, show (((t / 1440 - Sm j : Nat) : Int) + 1) = ((t / 1440 - Sm j + 1 : Nat) : Int) by omega]
theorem field_le {t j : Nat} (ht : t ≤ 52596000) (hj : Sm j ≤ t / 1440 ∧ t / 1440 < Sm (j + 1)) : (2000 ≤ fY j ∧ fY j ≤ 2100) ∧ fM j < 100 ∧ fD t j < 100 ∧ t / 60 % 24 < 100 ∧ t % 60 < 100 := by
  have hj' := month_le hj.1 (by omega)
  have hm2 : Sm (j + 1) = Sm j + ml j := rfl
  have hml := ml_pos j
  unfold fY fM fD
  generalize Sm j = s at *
  omega
theorem fill4 {n : Nat} (h : 2000 ≤ n ∧ n ≤ 2100) : impl_fill (n : Int) 4 = some (bs (d4 n)) := by
  rw [← pad4 (by omega) (by omega)]; exact fill_eq (w := 4) (by omega) (by omega) (by omega)
theorem stamp_eq {t j : Nat} (ht : t ≤ 52596000) (hj : Sm j ≤ t / 1440 ∧ t / 1440 < Sm (j + 1)) : impl_Stamp (t : Int) = some (bs (stL (fY j) (fM j) (fD t j) (t / 60 % 24) (t % 60))) := by
  obtain ⟨h1, h2, h3, h4, h5⟩ := field_le ht hj
  unfold impl_Stamp
  rw [date_impl t j ht hj, Option.bind_some, fields]
  simp only [Bool.not_true, cond_false, fill4 h1, pad2_impl h2, pad2_impl h3, pad2_impl h4, pad2_impl h5, Option.bind_some]
  generalize fY j = y
  generalize fM j = m
  generalize fD t j = d
  generalize t / 60 % 24 = h
  generalize t % 60 = i
  rfl
theorem dig2 : ∀ n, n < 100 → (d2 n).all isDig = true := by decide +kernel
theorem dig4 {n : Nat} (h : 2000 ≤ n ∧ n ≤ 2100) : (d4 n).all isDig = true := by
  have : ∀ k, k < 101 → (d4 (2000 + k)).all isDig = true := by decide +kernel
  have := this (n - 2000) (by omega)
  rwa [show 2000 + (n - 2000) = n by omega] at this
theorem read1 {s : ByteArray} {a b : Nat} {l : List UInt8} {n : Nat} (hs : s.size = 17) (hab : a ≤ b ∧ b ≤ 17) (he : s.extract a b = bs l) (hl : 0 < l.length ∧ l.length ≤ 4) (hd : l.all isDig = true) (hp : dPar (bs l) 10 64 = some (n : Int)) :
    impl_ReadStamp_1 (a : Int) (b : Int) s = some ((n : Int), s) := by
  unfold impl_ReadStamp_1
  have hz : (bs l).size = l.length := size_bs l
  have hdig : impl_digits (bs l) = some true := by
    rw [impl_digits_eq (by rw [hz]; omega), L_bs, hd, hz]
    simp [hl.1]
  simp only [hs, Int.toNat_natCast, he, hdig, hp, Option.bind_some, show (0 : Int) ≤ (b : Int) by omega, show (b : Int) ≤ ((17 : Nat) : Int) by omega, show (0 : Int) ≤ (a : Int) by omega, show (a : Int) ≤ (b : Int) by omega, decide_true, Bool.and_self, cond_true, Bool.not_true, cond_false]
theorem readStamp_eq {t j : Nat} (ht : t ≤ 52596000) (hj : Sm j ≤ t / 1440 ∧ t / 1440 < Sm (j + 1)) : impl_ReadStamp (bs (stL (fY j) (fM j) (fD t j) (t / 60 % 24) (t % 60))) = some ((t : Int), true) := by
  obtain ⟨h1, h2, h3, h4, h5⟩ := field_le ht hj
  have hst := stamp_eq ht hj
  have htm := timeOf_eq t j ht hj
  rw [show (2000 + ((j / 12 : Nat) : Int)) = ((fY j : Nat) : Int) by unfold fY; omega, show (((j % 12 : Nat) : Int) + 1) = ((fM j : Nat) : Int) by unfold fM; omega, show (((t / 1440 - Sm j : Nat) : Int) + 1) = ((fD t j : Nat) : Int) by unfold fD; omega] at htm
  have p1 := par_of (l := d4 (fY j)) (by simp [d4]) (okN_four _ (by omega) h1.1 h1.2)
  have p2 := par_of (l := d2 (fM j)) (by simp [d2]) (okN_two _ h2)
  have p3 := par_of (l := d2 (fD t j)) (by simp [d2]) (okN_two _ h3)
  have p4 := par_of (l := d2 (t / 60 % 24)) (by simp [d2]) (okN_two _ h4)
  have p5 := par_of (l := d2 (t % 60)) (by simp [d2]) (okN_two _ h5)
  have g1 := dig4 h1
  have g2 := dig2 _ h2
  have g3 := dig2 _ h3
  have g4 := dig2 _ h4
  have g5 := dig2 _ h5
  generalize fY j = y at *
  generalize fM j = m at *
  generalize fD t j = d at *
  generalize t / 60 % 24 = h at *
  generalize t % 60 = i at *
  have hz : (bs (stL y m d h i)).size = 17 := rfl
  have r1 := read1 (a := 0) (b := 4) hz (by omega) (L_inj (by rw [L_extract, L_bs, L_bs]; rfl)) (by simp [d4]) g1 p1
  have r2 := read1 (a := 5) (b := 7) hz (by omega) (L_inj (by rw [L_extract, L_bs, L_bs]; rfl)) (by simp [d2]) g2 p2
  have r3 := read1 (a := 8) (b := 10) hz (by omega) (L_inj (by rw [L_extract, L_bs, L_bs]; rfl)) (by simp [d2]) g3 p3
  have r4 := read1 (a := 11) (b := 13) hz (by omega) (L_inj (by rw [L_extract, L_bs, L_bs]; rfl)) (by simp [d2]) g4 p4
  have r5 := read1 (a := 14) (b := 16) hz (by omega) (L_inj (by rw [L_extract, L_bs, L_bs]; rfl)) (by simp [d2]) g5 p5
  unfold impl_ReadStamp
  simp only [Int.natCast_zero, Int.cast_ofNat_Int] at r1 r2 r3 r4 r5
  rw [hz]
  have q1 : impl_ReadStamp_1 0 4 (bs (stL y m d h i)) = _ := r1
  have q2 : impl_ReadStamp_1 5 7 (bs (stL y m d h i)) = _ := r2
  have q3 : impl_ReadStamp_1 8 10 (bs (stL y m d h i)) = _ := r3
  have q4 : impl_ReadStamp_1 11 13 (bs (stL y m d h i)) = _ := r4
  have q5 : impl_ReadStamp_1 14 16 (bs (stL y m d h i)) = _ := r5
  simp only [q1, q2, q3, q4, q5, htm, hst, Option.bind_some, show (((17 : Nat) : Int) != 17) = false from rfl, cond_false, Bool.not_true, beq_self_bytes]
end Go.Proofs.YtmcmkdiefpepnaaDoor.TM
