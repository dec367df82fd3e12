/-
  Part of a proof by the engine: texts that a program of ours printed, or plain lemmas on them. No condition but what each theorem says.
-/
import Derived.Test.YtondfjckadlabaaGreatDoorNU
import Derived.Test.YtondfjckadlabaaGreatDoorDTPlain
import Derived.Test.YtondfjckadlabaaGreatDoorDoors6
import Derived.Test.YtondfjckadlabaaGreatDoorNDPlain
import Derived.Test.YtondfjckadlabaaGreatDoorDecP
set_option linter.unusedVariables false
set_option linter.unusedSimpArgs false
namespace Go.Proofs.YtondfjckadlabaaGreatDoor.NU
open Go Go.Eng Go.Proofs.YtondfjckadlabaaGreatDoor.DT Go.Proofs.YtondfjckadlabaaGreatDoor.EX
/-- What digits spell, behind a. -/
def spell : Int → List UInt8 → Int
  | a, [] => a
  | a, c :: l => spell (a * 10 + ((c.toNat : Int) - 48)) l
theorem number_loop (s : ByteArray) (hs : s.size ≤ 15) : ∀ (m n : Nat) (a : Int), s.size - n = m → n ≤ s.size → 0 ≤ a → a < 10 ^ n →
    Ev (fun k => spec_l2Number_L5 k s a (n : Int)) (if ((L s).drop n).all isDig = true then spell a ((L s).drop n) else -1) := by
  intro m
  induction m with
  | zero =>
    intro n a hm hn h0 h1
    obtain rfl : n = s.size := by omega
    apply ev_succ
    simp only [spec_l2Number_L5, Int.lt_irrefl, decide_false, cond_false]
    rw [List.drop_eq_nil_of_le (by rw [L_length]; omega)]
    exact ev_eq (ev_now _) (by simp [spell])
  | succ m ih =>
    intro n a hm hn h0 h1
    have hl : n < (L s).length := by rw [L_length]; omega
    have hp : (10 : Int) ^ n ≤ 10 ^ 14 := by
      have : (10 : Nat) ^ n ≤ 10 ^ 14 := Nat.pow_le_pow_right (by omega) (by omega)
      exact_mod_cast this
    have hp' : (10 : Int) ^ (n + 1) = 10 ^ n * 10 := by rw [Int.pow_succ]
    have hu := u8_lt (L s)[n]
    apply ev_succ
    simp only [spec_l2Number_L5, show (n : Int) < (s.size : Int) by omega, show (0 : Int) ≤ (n : Int) by omega, decide_true, cond_true, wsucc (show n < 9223372036854775807 by omega), bt_nat, List.getD, List.getElem?_eq_getElem hl, Option.getD_some, spec_l1Digit]
    rw [drop_cons hl, List.all_cons]
    by_cases hd : isDig (L s)[n] = true
    · have hd' := hd
      simp only [isDig, Bool.and_eq_true, decide_eq_true_eq] at hd'
      have h14 : a < 100000000000000 := by omega
      simp only [show ((L s)[n].toNat : Int) ≥ 48 by omega, show ((L s)[n].toNat : Int) ≤ 57 by omega, decide_true, cond_true, Option.bind_some, Bool.not_true, cond_false, hd, Bool.true_and,
        wu8 (n := ((L s)[n].toNat : Int) - 48) (by omega) (by omega), w64 (n := ((L s)[n].toNat : Int) - 48) (by omega) (by omega), w64 (n := a * 10) (by omega) (by omega), w64 (n := a * 10 + (((L s)[n].toNat : Int) - 48)) (by omega) (by omega)]
      exact ih (n + 1) _ (by omega) (by omega) (by omega) (by rw [hp']; omega)
    · have hd2 : isDig (L s)[n] = false := not_true_eq hd
      have hd3 := hd2
      simp only [isDig, Bool.and_eq_false_iff, decide_eq_false_iff_not] at hd3
      rw [hd2]
      by_cases h48 : ((L s)[n].toNat : Int) ≥ 48
      · simp only [h48, show ¬ ((L s)[n].toNat : Int) ≤ 57 by omega, decide_true, decide_false, cond_true, cond_false, Option.bind_some, Bool.not_false]
        exact ev_eq (ev_now _) (by simp)
      · simp only [h48, decide_false, cond_false, Option.bind_some, Bool.not_false, cond_true]
        exact ev_eq (ev_now _) (by simp)
theorem number_eq {s : ByteArray} (h0 : 0 < s.size) (h1 : s.size ≤ 15) : spec_l2Number s = some (if (L s).all isDig = true then spell 0 (L s) else -1) := by
  refine evF_eq ?_
  simp only [spec_l2Number_F, beqI, show ¬ ((s.size : Int) = 0) by omega, show ¬ ((s.size : Int) > 15) by omega, decide_false, cond_false]
  have := number_loop s h1 s.size 0 0 (by omega) (by omega) (by omega) (by decide)
  simpa using this
end Go.Proofs.YtondfjckadlabaaGreatDoor.NU

namespace Go.Proofs.YtondfjckadlabaaGreatDoor.NU
open Go Go.Eng Go.Proofs.YtondfjckadlabaaGreatDoor.DT Go.Proofs.YtondfjckadlabaaGreatDoor.EX
/-- The pieces between blanks. -/
def pc : List UInt8 → List UInt8 → List (List UInt8)
  | cur, [] => [cur]
  | cur, c :: l => if c = 32 then cur :: pc [] l else pc (cur ++ [c]) l
theorem pc_none : ∀ (l cur : List UInt8), (32 : UInt8) ∉ l → pc cur l = [cur ++ l]
  | [], cur, _ => by simp [pc]
  | c :: l, cur, h => by
    have hc : ¬ c = 32 := fun e => h (by rw [e]; exact List.mem_cons_self)
    rw [pc, if_neg hc, pc_none l _ fun hm => h (List.mem_cons_of_mem _ hm)]
    simp
theorem pc_some : ∀ (a r cur : List UInt8), (32 : UInt8) ∉ a → pc cur (a ++ 32 :: r) = (cur ++ a) :: pc [] r
  | [], r, cur, _ => by simp [pc]
  | c :: a, r, cur, h => by
    have hc : ¬ c = 32 := fun e => h (by rw [e]; exact List.mem_cons_self)
    rw [List.cons_append, pc, if_neg hc, pc_some a r _ fun hm => h (List.mem_cons_of_mem _ hm)]
    simp
theorem index_cases : ∀ (l : List UInt8), (Lib.indexByte l 32 = -1 ∧ (32 : UInt8) ∉ l) ∨ ∃ a r, l = a ++ 32 :: r ∧ (32 : UInt8) ∉ a ∧ Lib.indexByte l 32 = (a.length : Int)
  | [] => .inl ⟨rfl, by simp⟩
  | c :: l => by
    by_cases hc : c = 32
    · subst hc
      exact .inr ⟨[], l, rfl, by simp, by simp [Lib.indexByte]⟩
    · have hc' : (c == 32) = false := by simpa using hc
      rcases index_cases l with ⟨h1, h2⟩ | ⟨a, r, h1, h2, h3⟩
      · exact .inl ⟨by simp [Lib.indexByte, hc', h1], fun hm => by
          rcases List.mem_cons.1 hm with e | e
          · exact hc e.symm
          · exact h2 e⟩
      · refine .inr ⟨c :: a, r, by rw [h1]; rfl, fun hm => ?_, ?_⟩
        · rcases List.mem_cons.1 hm with e | e
          · exact hc e.symm
          · exact h2 e
        · have hne : ¬ Lib.indexByte l 32 = -1 := by omega
          simp [Lib.indexByte, hc', hne, h3]
theorem split_pc : ∀ (k : Nat) (s : ByteArray), (L s).count 32 ≤ k → (Lib.splitB (bs [32]) 0 k s).map L = pc [] (L s) := by
  have hi : ∀ s : ByteArray, Lib.indexB s (bs [32]) = Lib.indexByte (L s) 32 := fun s => index_byte 32 (L s)
  intro k
  induction k with
  | zero =>
    intro s h
    have : (32 : UInt8) ∉ L s := fun hm => by have := List.count_pos_iff.2 hm; omega
    rw [pc_none _ _ this]; rfl
  | succ k ih =>
    intro s h
    rcases index_cases (L s) with ⟨h1, h2⟩ | ⟨a, r, h1, h2, h3⟩
    · rw [Lib.splitB_miss _ _ _ _ (by rw [hi]; exact h1), pc_none _ _ h2]; rfl
    · rw [Lib.splitB_hit _ _ _ _ a.length (by rw [hi]; exact h3), h1, pc_some _ _ _ h2, List.map_cons]
      have e1 : L (s.extract 0 (a.length + 0)) = a := by rw [L_extract, h1]; simp
      have e2 : L (s.extract (a.length + (bs [32]).size) s.size) = r := by
        have hz : s.size = a.length + (r.length + 1) := by rw [← L_length, h1]; simp
        rw [L_extract, h1, show (bs [32]).size = 1 from rfl, hz]
        simp
        rw [show a.length + (r.length + 1) - (a.length + 1) = r.length by omega, List.take_length]
      rw [e1, ih _ (by rw [e2]; rw [h1, List.count_append, List.count_cons] at h; simp at h; omega), e2]
      rfl
theorem pieces_pc (s : ByteArray) : (pieces s (bs [32])).map L = pc [] (L s) := by
  unfold pieces
  refine split_pc _ s ?_
  have : Lib.countB s (bs [32]) = Lib.countByte (L s) 32 := Lib.count_one _ _
  rw [this]
  exact Nat.le_refl _
end Go.Proofs.YtondfjckadlabaaGreatDoor.NU

namespace Go.Proofs.YtondfjckadlabaaGreatDoor.NU
open Go Go.Eng Go.Proofs.YtondfjckadlabaaGreatDoor.DT Go.Proofs.YtondfjckadlabaaGreatDoor.EX
end Go.Proofs.YtondfjckadlabaaGreatDoor.NU

namespace Go.Proofs.YtondfjckadlabaaGreatDoor.NU
open Go Go.Eng Go.Proofs.YtondfjckadlabaaGreatDoor.DT Go.Proofs.YtondfjckadlabaaGreatDoor.EX
theorem spell_spl : ∀ (l : List UInt8) (a : Nat), l.all isDig = true → spell (a : Int) l = (spl a l : Int)
  | [], a, _ => rfl
  | c :: l, a, h => by
    simp only [List.all_cons, Bool.and_eq_true] at h
    have hc := h.1
    simp only [isDig, Bool.and_eq_true, decide_eq_true_eq] at hc
    have := spell_spl l (a * 10 + (c.toNat - 48)) h.2
    show spell ((a : Int) * 10 + ((c.toNat : Int) - 48)) l = (spl (a * 10 + (c.toNat - 48)) l : Int)
    rw [← this]
    congr 1
    omega
theorem spell_range {l : List UInt8} (h : l.all isDig = true) : 0 ≤ spell 0 l ∧ spell 0 l < 10 ^ l.length := by
  have h1 := spell_spl l 0 h
  have h2 := spl_lt l 0 h
  rw [Nat.zero_add, Nat.one_mul] at h2
  rw [show (0 : Int) = ((0 : Nat) : Int) from rfl, h1]
  refine ⟨Int.natCast_nonneg _, ?_⟩
  have : ((spl 0 l : Nat) : Int) < ((10 ^ l.length : Nat) : Int) := by exact_mod_cast h2
  simpa using this
/-- A text of digits, of some signs, is parsed. -/
theorem whole_dig {s : ByteArray} (h0 : 0 < s.size) (h1 : s.size ≤ 18) (hd : (L s).all isDig = true) : impl_whole s = some (spell 0 (L s)) := by
  have hne : L s ≠ [] := fun e => by have := L_length s; rw [e] at this; simp at this; omega
  have hp := parse_ok hne (by rw [L_length]; exact h1) hd
  have hsp := spell_spl (L s) 0 hd
  have : dPar s 10 64 = some (spell 0 (L s)) := by
    unfold dPar
    rw [if_pos ⟨rfl, rfl, by omega⟩]
    have e : s.data.toList = L s := rfl
    rw [e, hp]
    exact congrArg some hsp.symm
  rw [impl_whole, this]; rfl
theorem spell_zeros : ∀ (k : Nat) (l : List UInt8), spell 0 (List.replicate k 48 ++ l) = spell 0 l
  | 0, l => rfl
  | k + 1, l => by
    rw [List.replicate_succ, List.cons_append]
    show spell (0 * 10 + (((48 : UInt8).toNat : Int) - 48)) (List.replicate k 48 ++ l) = spell 0 l
    rw [show (0 * 10 + (((48 : UInt8).toNat : Int) - 48)) = 0 from rfl]
    exact spell_zeros k l
/-- A number in w digits. -/
theorem pad_facts {n : Int} {w : Nat} (h0 : 0 ≤ n) (hn : n.toNat < 10 ^ w) (hw : 0 < w) : (pad n w).length = w ∧ (pad n w).all isDig = true ∧ spell 0 (pad n w) = n := by
  unfold pad
  rw [itoa_pos h0]
  have hl := can_len (dec_can n.toNat) (by rw [spl_dec]; exact hn) hw
  refine ⟨by simp; omega, ?_, ?_⟩
  · rw [List.all_append, dec_all]
    simp only [Bool.and_true, List.all_eq_true]
    intro x hx
    rw [List.mem_replicate] at hx
    rw [hx.2]; decide
  · rw [spell_zeros, show (0 : Int) = ((0 : Nat) : Int) from rfl, spell_spl _ _ (dec_all _), spl_dec]
    omega
/-! ### the nearest day, told once -/
noncomputable def ndV (d h i ref : Int) : Int × Bool := (impl_NearDay d h i ref).getD (0, false)
theorem nd_impl (d h i ref : Int) : impl_NearDay d h i ref = some (ndV d h i ref) := by
  obtain ⟨r, _, h2, _⟩ := near_both d h i ref
  unfold ndV; rw [h2]; rfl
theorem nat_dig {a : Nat} (h : a < 10) : (UInt8.ofNat (48 + a)).toNat = 48 + a := by rw [UInt8.toNat_ofNat']; omega
theorem isDig_of {a : Nat} (h : a < 10) : isDig (UInt8.ofNat (48 + a)) = true := by
  simp only [isDig, nat_dig h, Bool.and_eq_true, decide_eq_true_eq]; omega
theorem spell_d2 {n : Nat} (h : n < 100) : spell 0 (d2 n) = (n : Int) := by
  simp only [d2, spell, nat_dig (show n / 10 < 10 by omega), nat_dig (show n % 10 < 10 by omega)]
  omega
theorem d2_dig {n : Nat} (h : n < 100) : (d2 n).all isDig = true := by
  simp only [d2, List.all_cons, List.all_nil, isDig_of (show n / 10 < 10 by omega), isDig_of (show n % 10 < 10 by omega), Bool.and_self]
end Go.Proofs.YtondfjckadlabaaGreatDoor.NU
