/-
  Part of a proof by the engine: texts that a program of ours printed, or plain lemmas on them. No condition but what each theorem says.
-/
import Derived.Test.YtondfjckadlabaaGreatDoorRT
import Derived.Test.YtondfjckadlabaaGreatDoorNUPlain
import Derived.Test.YtondfjckadlabaaGreatDoorTTPlain
set_option linter.unusedVariables false
set_option linter.unusedSimpArgs false
namespace Go.Proofs.YtondfjckadlabaaGreatDoor.RT
open Go Go.Eng Go.Proofs.YtondfjckadlabaaGreatDoor.DT Go.Proofs.YtondfjckadlabaaGreatDoor.NU Go.Proofs.YtondfjckadlabaaGreatDoor.SA Go.Proofs.YtondfjckadlabaaGreatDoor.TT Go.Proofs.YtondfjckadlabaaGreatDoor.EX
/-! ### times near another -/
theorem six_ext (a b c : Nat) : (bs (d2 a ++ d2 b ++ d2 c)).extract 0 2 = bs (d2 a) ∧ (bs (d2 a ++ d2 b ++ d2 c)).extract 2 4 = bs (d2 b) ∧ (bs (d2 a ++ d2 b ++ d2 c)).extract 4 6 = bs (d2 c) :=
  ⟨L_inj (by rw [L_extract]; rfl), L_inj (by rw [L_extract]; rfl), L_inj (by rw [L_extract]; rfl)⟩
theorem four_ext (a b : Nat) : (bs (d2 a ++ d2 b)).extract 0 2 = bs (d2 a) ∧ (bs (d2 a ++ d2 b)).extract 2 4 = bs (d2 b) ∧ (bs (d2 a ++ d2 b)).extract 4 4 = bs [] :=
  ⟨L_inj (by rw [L_extract]; rfl), L_inj (by rw [L_extract]; rfl), L_inj (by rw [L_extract]; rfl)⟩
theorem whole2 {n : Nat} (h : n < 100) : impl_whole (bs (d2 n)) = some (n : Int) := by
  rw [whole_dig (by rw [size_bs]; simp [d2]) (by rw [size_bs]; simp [d2]) (by rw [L_bs]; exact d2_dig h), L_bs, spell_d2 h]
theorem whole02 {n : Nat} (h : n < 100) : impl_whole (bs [48] ++ bs (d2 n)) = some (n : Int) := by
  have e : bs [48] ++ bs (d2 n) = bs (48 :: d2 n) := rfl
  rw [e, whole_dig (by rw [size_bs]; simp) (by rw [size_bs]; simp [d2]) (by
    rw [L_bs, List.all_cons, d2_dig h]; decide), L_bs]
  have := spell_zeros 1 (d2 n)
  rw [show List.replicate 1 (48 : UInt8) ++ d2 n = 48 :: d2 n from rfl] at this
  rw [this, spell_d2 h]
theorem whole0 : impl_whole (bs [48] ++ bs []) = some 0 := by
  have e : bs [48] ++ bs [] = bs [48] := rfl
  rw [e, whole_dig (by decide) (by decide) (by decide)]
  rfl
theorem impl_near6 {a b c : Nat} (ha : a < 100) (hb : b < 100) (hc : c < 100) (ref : Int) : impl_near (bs (d2 a ++ d2 b ++ d2 c)) ref = some (ndV a b c ref) := by
  obtain ⟨e1, e2, e3⟩ := six_ext a b c
  have hs : (bs (d2 a ++ d2 b ++ d2 c)).size = 6 := rfl
  have hd : impl_digits (bs (d2 a ++ d2 b ++ d2 c)) = some true := by
    rw [impl_digits_eq (by rw [hs]; omega), hs, L_bs, List.all_append, List.all_append, d2_dig ha, d2_dig hb, d2_dig hc]; rfl
  have hz : (bs [48]).size + (bs (d2 c)).size ≤ 9223372036854775807 := by rw [size_bs, size_bs]; simp [d2]
  have hsI : (((bs (d2 a ++ d2 b ++ d2 c)).size : Nat) : Int) = 6 := rfl
  unfold impl_near
  simp only [hsI, bneI, show ¬ (6 : Int) = 4 by omega, show (6 : Int) = 6 by omega, decide_false, decide_true, Bool.not_true, Bool.not_false, cond_true, cond_false, hd, Option.bind_some, show Int.toNat 6 = 6 from rfl, show Int.toNat 0 = 0 from rfl, show Int.toNat 2 = 2 from rfl, show Int.toNat 4 = 4 from rfl, e1, e2, e3, show (0 : Int) ≤ 2 by omega, show (2 : Int) ≤ (6 : Int) by omega, show (0 : Int) ≤ 4 by omega, show (4 : Int) ≤ (6 : Int) by omega, Bool.and_self, whole2 ha, whole2 hb, hz, whole02 hc, nd_impl]
  rfl
theorem impl_near4 {a b : Nat} (ha : a < 100) (hb : b < 100) (ref : Int) : impl_near (bs (d2 a ++ d2 b)) ref = some (ndV a b 0 ref) := by
  obtain ⟨e1, e2, e3⟩ := four_ext a b
  have hs : (bs (d2 a ++ d2 b)).size = 4 := rfl
  have hd : impl_digits (bs (d2 a ++ d2 b)) = some true := by
    rw [impl_digits_eq (by rw [hs]; omega), hs, L_bs, List.all_append, d2_dig ha, d2_dig hb]; rfl
  have hz : (bs [48]).size + (bs []).size ≤ 9223372036854775807 := by rw [size_bs, size_bs]; simp
  have hsI : (((bs (d2 a ++ d2 b)).size : Nat) : Int) = 4 := rfl
  unfold impl_near
  simp only [hsI, bneI, show (4 : Int) = 4 by omega, decide_true, Bool.not_true, cond_false, hd, Option.bind_some, show Int.toNat 4 = 4 from rfl, show Int.toNat 0 = 0 from rfl, show Int.toNat 2 = 2 from rfl, show Int.toNat 4 = 4 from rfl, e1, e2, e3, show (0 : Int) ≤ 2 by omega, show (2 : Int) ≤ (4 : Int) by omega, show (0 : Int) ≤ 4 by omega, show (4 : Int) ≤ (4 : Int) by omega, Bool.and_self, cond_true, whole2 ha, whole2 hb, hz, whole0, nd_impl]
  rfl
theorem ext_len {s : ByteArray} {i j : Nat} (h : j ≤ s.size) (hij : i ≤ j) : (s.extract i j).size = j - i := by rw [size_extract]; omega
/-! ### the reference's reader: words -/
theorem word_eq (ws : List ByteArray) (n : Nat) (ref : Int) (bad : Bool) (hn : n ≤ ws.length) : spec_l21Read_word ws (n : Int) ref bad = some (ws.getD n (bs []), ws, (n : Int), ref, bad) := by
  unfold spec_l21Read_word
  by_cases h : n = ws.length
  · subst h
    simp [beqI]
  · have hlt : n < ws.length := by omega
    simp only [beqI, show ¬ (n : Int) = (ws.length : Int) by omega, decide_false, cond_false, show (0 : Int) ≤ (n : Int) by omega, show (n : Int) < (ws.length : Int) by omega, decide_true, cond_true, rd_nat (k := .str) hlt]
    simp [List.getD, List.getElem?_eq_getElem hlt]
/-! ### the reference's reader: times -/
end Go.Proofs.YtondfjckadlabaaGreatDoor.RT

namespace Go.Proofs.YtondfjckadlabaaGreatDoor.RT
open Go Go.Eng Go.Proofs.YtondfjckadlabaaGreatDoor.DT Go.Proofs.YtondfjckadlabaaGreatDoor.NU Go.Proofs.YtondfjckadlabaaGreatDoor.SA Go.Proofs.YtondfjckadlabaaGreatDoor.TT Go.Proofs.YtondfjckadlabaaGreatDoor.EX
/-! ### a word of a sky: the program -/
/-- What is asked of a word that tells no wind. -/
noncomputable def restT (a0 : ByteArray) (a1 a2 a3 : Int) (a4 a5 : ByteArray) (a6 : Int) : Option (Int × Int × Int × Int × ByteArray × ByteArray × Int) :=
   bif (↑a0.size : Int) == 4 then (impl_digits a0).bind fun val => bif val then (impl_whole a0).bind fun val => some (1, a1, a2, val, a4, a5, a6) else (slices_Contains_Lstring_string L_impl_weathers a0).bind fun val => bif val then some (2, a1, a2, a3, a0, a5, a6) else bif a0.toList == (bs [83, 75, 67]).toList then some (3, a1, a2, a3, a4, a0, a6) else bif (↑a0.size : Int) == 6 then bif decide (0 ≤ 3) && decide (3 ≤ (↑a0.size : Int)) then (slices_Contains_Lstring_string L_impl_covers (a0.extract (Int.toNat 0) (Int.toNat 3))).bind fun val => bif val then bif decide (0 ≤ 3) && decide (3 ≤ (↑a0.size : Int)) then (impl_digits (a0.extract (Int.toNat 3) (↑a0.size : Int).toNat)).bind fun val => bif val then bif decide (0 ≤ 3) && decide (3 ≤ (↑a0.size : Int)) then bif decide (0 ≤ 3) && decide (3 ≤ (↑a0.size : Int)) then (impl_whole (a0.extract (Int.toNat 3) (↑a0.size : Int).toNat)).bind fun val => some (3, a1, a2, a3, a4, a0.extract (Int.toNat 0) (Int.toNat 3), val) else none else none else some (-1, a1, a2, a3, a4, a5, a6) else none else some (-1, a1, a2, a3, a4, a5, a6) else none else some (-1, a1, a2, a3, a4, a5, a6)
   else (slices_Contains_Lstring_string L_impl_weathers a0).bind fun val => bif val then some (2, a1, a2, a3, a0, a5, a6) else bif a0.toList == (bs [83, 75, 67]).toList then some (3, a1, a2, a3, a4, a0, a6) else bif (↑a0.size : Int) == 6 then bif decide (0 ≤ 3) && decide (3 ≤ (↑a0.size : Int)) then (slices_Contains_Lstring_string L_impl_covers (a0.extract (Int.toNat 0) (Int.toNat 3))).bind fun val => bif val then bif decide (0 ≤ 3) && decide (3 ≤ (↑a0.size : Int)) then (impl_digits (a0.extract (Int.toNat 3) (↑a0.size : Int).toNat)).bind fun val => bif val then bif decide (0 ≤ 3) && decide (3 ≤ (↑a0.size : Int)) then bif decide (0 ≤ 3) && decide (3 ≤ (↑a0.size : Int)) then (impl_whole (a0.extract (Int.toNat 3) (↑a0.size : Int).toNat)).bind fun val => some (3, a1, a2, a3, a4, a0.extract (Int.toNat 0) (Int.toNat 3), val) else none else none else some (-1, a1, a2, a3, a4, a5, a6) else none else some (-1, a1, a2, a3, a4, a5, a6) else none else some (-1, a1, a2, a3, a4, a5, a6)
def windOk (w : ByteArray) : Bool := decide (w.size = 7) && (decide (w.extract 5 7 = bs [75, 84]) && ((L (w.extract 3 5)).all isDig && (decide (w.extract 0 3 = bs [86, 82, 66]) || (L (w.extract 0 3)).all isDig)))
def restP (w : ByteArray) (s : Sk) : Int × Sk :=
  if w.size = 4 ∧ (L w).all isDig = true then (1, (s.1, s.2.1, spell 0 (L w), s.2.2.2))
  else if (L_impl_weathers.any fun x => decide (w = x)) = true then (2, (s.1, s.2.1, s.2.2.1, w, s.2.2.2.2))
  else if w = bs [83, 75, 67] then (3, (s.1, s.2.1, s.2.2.1, s.2.2.2.1, w, s.2.2.2.2.2))
  else if w.size = 6 ∧ (L_impl_covers.any fun x => decide (w.extract 0 3 = x)) = true ∧ (L (w.extract 3 6)).all isDig = true then (3, (s.1, s.2.1, s.2.2.1, s.2.2.2.1, w.extract 0 3, spell 0 (L (w.extract 3 6))))
  else (-1, s)
def skyP (w : ByteArray) (s : Sk) : Int × Sk :=
  if windOk w = true then (0, (if w.extract 0 3 = bs [86, 82, 66] then 99 else spell 0 (L (w.extract 0 3)) / 10, spell 0 (L (w.extract 3 5)), s.2.2))
  else restP w s
def tup7 (p : Int × Sk) : Int × Int × Int × Int × ByteArray × ByteArray × Int := (p.1, p.2.1, p.2.2.1, p.2.2.2.1, p.2.2.2.2.1, p.2.2.2.2.2.1, p.2.2.2.2.2.2)
theorem rest_eq (w : ByteArray) (hw : w.size ≤ 9223372036854775807) (s : Sk) : restT w s.1 s.2.1 s.2.2.1 s.2.2.2.1 s.2.2.2.2.1 s.2.2.2.2.2 = some (tup7 (restP w s)) := by
  have hdg := impl_digits_eq hw
  have c1 := contains_eq (xs := L_impl_weathers) (v := w) (by decide)
  have c2 := contains_eq (xs := L_impl_covers) (v := w.extract 0 3) (by decide)
  have tail : (slices_Contains_Lstring_string L_impl_weathers w).bind (fun val => bif val then some (2, s.1, s.2.1, s.2.2.1, w, s.2.2.2.2.1, s.2.2.2.2.2) else bif w.toList == (bs [83, 75, 67]).toList then some (3, s.1, s.2.1, s.2.2.1, s.2.2.2.1, w, s.2.2.2.2.2) else bif (w.size : Int) == 6 then bif decide ((0 : Int) ≤ 3) && decide ((3 : Int) ≤ (w.size : Int)) then (slices_Contains_Lstring_string L_impl_covers (w.extract (Int.toNat 0) (Int.toNat 3))).bind fun val => bif val then bif decide ((0 : Int) ≤ 3) && decide ((3 : Int) ≤ (w.size : Int)) then (impl_digits (w.extract (Int.toNat 3) (w.size : Int).toNat)).bind fun val => bif val then bif decide ((0 : Int) ≤ 3) && decide ((3 : Int) ≤ (w.size : Int)) then bif decide ((0 : Int) ≤ 3) && decide ((3 : Int) ≤ (w.size : Int)) then (impl_whole (w.extract (Int.toNat 3) (w.size : Int).toNat)).bind fun val => some (3, s.1, s.2.1, s.2.2.1, s.2.2.2.1, w.extract (Int.toNat 0) (Int.toNat 3), val) else none else none else some (-1, s.1, s.2.1, s.2.2.1, s.2.2.2.1, s.2.2.2.2.1, s.2.2.2.2.2) else none else some (-1, s.1, s.2.1, s.2.2.1, s.2.2.2.1, s.2.2.2.2.1, s.2.2.2.2.2) else none else some (-1, s.1, s.2.1, s.2.2.1, s.2.2.2.1, s.2.2.2.2.1, s.2.2.2.2.2)) =
      some (tup7 (if (L_impl_weathers.any fun x => decide (w = x)) = true then (2, (s.1, s.2.1, s.2.2.1, w, s.2.2.2.2))
  else if w = bs [83, 75, 67] then (3, (s.1, s.2.1, s.2.2.1, s.2.2.2.1, w, s.2.2.2.2.2))
  else if w.size = 6 ∧ (L_impl_covers.any fun x => decide (w.extract 0 3 = x)) = true ∧ (L (w.extract 3 6)).all isDig = true then (3, (s.1, s.2.1, s.2.2.1, s.2.2.2.1, w.extract 0 3, spell 0 (L (w.extract 3 6))))
  else (-1, s))) := by
    rw [c1, Option.bind_some]
    by_cases h1 : (L_impl_weathers.any fun x => decide (w = x)) = true
    · rw [if_pos h1, h1]; rfl
    · rw [if_neg h1, not_true_eq h1]
      simp only [cond_false, beq_bytes]
      by_cases h2 : w = bs [83, 75, 67]
      · rw [if_pos h2]; simp only [h2, decide_true, cond_true]; rfl
      · rw [if_neg h2]
        simp only [h2, decide_false, cond_false]
        by_cases h3 : w.size = 6
        · have hI : (w.size : Int) = 6 := by omega
          have hd6 := impl_digits_eq (s := w.extract 3 6) (by rw [ext_len (by omega) (by omega)]; omega)
          have z6 : (w.extract 3 6).size = 3 := ext_len (by omega) (by omega)
          rw [z6] at hd6
          simp only [hI, beqI, decide_true, cond_true, show (0 : Int) ≤ 3 by omega, show (3 : Int) ≤ 6 by omega, Bool.and_self, show Int.toNat 0 = 0 from rfl, show Int.toNat 3 = 3 from rfl, show Int.toNat 6 = 6 from rfl, c2, Option.bind_some, hd6, show 0 < 3 by omega, Bool.and_true]
          by_cases h4 : (L_impl_covers.any fun x => decide (w.extract 0 3 = x)) = true
          · by_cases h5 : (L (w.extract 3 6)).all isDig = true
            · rw [if_pos ⟨h3, h4, h5⟩, h4, h5]
              simp only [cond_true, whole_dig (s := w.extract 3 6) (by omega) (by omega) h5, Option.bind_some]
              rfl
            · rw [if_neg (fun hc => h5 hc.2.2), h4, not_true_eq h5]; rfl
          · rw [if_neg (fun hc => h4 hc.2.1), not_true_eq h4]; rfl
        · rw [if_neg (fun hc => h3 hc.1)]
          simp only [beqI, show ¬ (w.size : Int) = 6 by omega, decide_false, cond_false]
          rfl
  unfold restT restP
  by_cases h0 : w.size = 4
  · have hI : (w.size : Int) = 4 := by omega
    rw [h0] at hdg
    by_cases h1 : (L w).all isDig = true
    · rw [if_pos ⟨h0, h1⟩]
      rw [h1] at hdg
      simp only [hI, beqI, decide_true, cond_true, hdg, Option.bind_some, show 0 < 4 by omega, Bool.and_self, whole_dig (s := w) (by omega) (by omega) h1]
      rfl
    · rw [if_neg (fun hc => h1 hc.2)]
      rw [not_true_eq h1] at hdg
      simp only [beqI, show decide ((w.size : Int) = 4) = true from decide_eq_true hI, cond_true, hdg, Option.bind_some, Bool.false_and, cond_false]
      exact tail
  · rw [if_neg (fun hc => h0 hc.1)]
    simp only [beqI, show decide ((w.size : Int) = 4) = false from decide_eq_false (by omega), cond_false]
    exact tail
theorem skyPart_eq (w : ByteArray) (hw : w.size ≤ 9223372036854775807) (s : Sk) : impl_skyPart w s.1 s.2.1 s.2.2.1 s.2.2.2.1 s.2.2.2.2.1 s.2.2.2.2.2 = some (tup7 (skyP w s)) := by
  have hrest := rest_eq w hw s
  unfold skyP
  have els : windOk w = false → ∀ r, r = restT w s.1 s.2.1 s.2.2.1 s.2.2.2.1 s.2.2.2.2.1 s.2.2.2.2.2 → r = some (tup7 (if windOk w = true then (0, (if w.extract 0 3 = bs [86, 82, 66] then 99 else spell 0 (L (w.extract 0 3)) / 10, spell 0 (L (w.extract 3 5)), s.2.2)) else restP w s)) := fun h r hr => by
    rw [hr, hrest, if_neg (by rw [h]; simp)]
  unfold impl_skyPart
  by_cases h7 : w.size = 7
  · have hI : (w.size : Int) = 7 := by omega
    have hI7 : ((w.size : Nat) : Int).toNat = 7 := by omega
    have d35 := impl_digits_eq (s := w.extract 3 5) (by rw [ext_len (by omega) (by omega)]; omega)
    have d03 := impl_digits_eq (s := w.extract 0 3) (by rw [ext_len (by omega) (by omega)]; omega)
    have z35 : (w.extract 3 5).size = 2 := ext_len (by omega) (by omega)
    have z03 : (w.extract 0 3).size = 3 := ext_len (by omega) (by omega)
    rw [z35] at d35
    rw [z03] at d03
    simp only [beq_bytes, show ((w.size : Nat) : Int).toNat = 7 by omega, show Int.toNat 0 = 0 from rfl, show Int.toNat 3 = 3 from rfl, show Int.toNat 5 = 5 from rfl, d35, d03, Option.bind_some]
    by_cases hk : w.extract 5 7 = bs [75, 84]
    · by_cases hd : (L (w.extract 3 5)).all isDig = true
      · have w35 := whole_dig (s := w.extract 3 5) (by omega) (by omega) hd
        by_cases hv : w.extract 0 3 = bs [86, 82, 66]
        · have hwo : windOk w = true := by simp [windOk, h7, hk, hd, hv]
          rw [if_pos hwo, if_pos hv]
          simp only [hI, beqI, decide_true, cond_true, show (0 : Int) ≤ 5 by omega, show (5 : Int) ≤ 7 by omega, hk, hd, show 0 < 2 by omega, Bool.and_self, hv, w35, Option.bind_some, Bool.not_true, cond_false]
          rfl
        · by_cases hdd : (L (w.extract 0 3)).all isDig = true
          · have hwo : windOk w = true := by simp [windOk, h7, hk, hd, hdd]
            have w03 := whole_dig (s := w.extract 0 3) (by omega) (by omega) hdd
            have hr := spell_range hdd
            rw [show (L (w.extract 0 3)).length = 3 by rw [L_length, z03]] at hr
            have hdiv : IntKind.i64.wrap (Int.tdiv (spell 0 (L (w.extract 0 3))) 10) = spell 0 (L (w.extract 0 3)) / 10 := by
              rw [Int.tdiv_eq_ediv_of_nonneg hr.1, w64 (by omega) (by omega)]
            rw [if_pos hwo, if_neg hv]
            simp only [hI, beqI, decide_true, cond_true, show (0 : Int) ≤ 5 by omega, show (5 : Int) ≤ 7 by omega, hk, hd, hdd, show 0 < 2 by omega, show 0 < 3 by omega, Bool.and_self, hv, decide_false, w35, w03, Option.bind_some, Bool.not_false, cond_false, hdiv]
            rfl
          · refine els (by simp [windOk, h7, hk, hd, hv, hdd]) _ ?_
            unfold restT
            simp only [beqI, beq_bytes, hI7, show Int.toNat 0 = 0 from rfl, show Int.toNat 3 = 3 from rfl, show decide ((w.size : Int) = 7) = true from decide_eq_true hI, cond_true, show decide ((5 : Int) ≤ (w.size : Int)) = true from decide_eq_true (by omega), show decide ((3 : Int) ≤ (w.size : Int)) = true from decide_eq_true (by omega), hk, decide_true, hd, show 0 < 2 by omega, Bool.and_self, hv, decide_false, cond_false, not_true_eq hdd, Bool.false_and]
            rfl
      · refine els (by simp [windOk, h7, hk, hd]) _ ?_
        unfold restT
        simp only [beqI, beq_bytes, hI7, show Int.toNat 0 = 0 from rfl, show Int.toNat 3 = 3 from rfl, show decide ((w.size : Int) = 7) = true from decide_eq_true hI, cond_true, show decide ((5 : Int) ≤ (w.size : Int)) = true from decide_eq_true (by omega), hk, decide_true, not_true_eq hd, Bool.false_and, cond_false]
        rfl
    · refine els (by simp [windOk, h7, hk]) _ ?_
      unfold restT
      simp only [beqI, beq_bytes, hI7, show Int.toNat 0 = 0 from rfl, show Int.toNat 3 = 3 from rfl, show decide ((w.size : Int) = 7) = true from decide_eq_true hI, cond_true, show decide ((5 : Int) ≤ (w.size : Int)) = true from decide_eq_true (by omega), hk, decide_false, cond_false]
      rfl
  · refine els (by simp [windOk, h7]) _ ?_
    simp only [beqI, show decide ((w.size : Int) = 7) = false from decide_eq_false (by omega), cond_false]
    rfl
end Go.Proofs.YtondfjckadlabaaGreatDoor.RT

namespace Go.Proofs.YtondfjckadlabaaGreatDoor.RT
open Go Go.Eng Go.Proofs.YtondfjckadlabaaGreatDoor.DT Go.Proofs.YtondfjckadlabaaGreatDoor.NU Go.Proofs.YtondfjckadlabaaGreatDoor.SA Go.Proofs.YtondfjckadlabaaGreatDoor.TT Go.Proofs.YtondfjckadlabaaGreatDoor.EX
/-! ### the words of a sky, one by one -/
def windB (d s : Int) : ByteArray := if d = 99 then bs [86, 82, 66] ++ bs (pad s 2) ++ bs [75, 84] else bs (pad (d * 10) 3) ++ bs (pad s 2) ++ bs [75, 84]
theorem cat3 {a b c : List UInt8} (ha : a.length = 3) (hb : b.length = 2) (hc : c.length = 2) :
    (bs a ++ bs b ++ bs c).size = 7 ∧ (bs a ++ bs b ++ bs c).extract 0 3 = bs a ∧ (bs a ++ bs b ++ bs c).extract 3 5 = bs b ∧ (bs a ++ bs b ++ bs c).extract 5 7 = bs c := by
  have e : bs a ++ bs b ++ bs c = bs (a ++ b ++ c) := L_inj (by simp only [L_append, L_bs])
  refine ⟨by rw [e, size_bs]; simp [ha, hb, hc], ?_, ?_, ?_⟩ <;> rw [e] <;> apply L_inj <;> rw [L_extract, L_bs, L_bs]
  · simp [ha]
  · rw [List.append_assoc, ← ha, List.drop_left, show 5 - a.length = b.length by omega, List.take_left']; rfl
  · rw [show (5 : Nat) = (a ++ b).length by simp [ha, hb], List.drop_left]; rw [show 7 - (a ++ b).length = c.length by simp [ha, hb, hc], List.take_length]
theorem cat2 {a b : List UInt8} (ha : a.length = 3) (hb : b.length = 3) :
    (bs a ++ bs b).size = 6 ∧ (bs a ++ bs b).extract 0 3 = bs a ∧ (bs a ++ bs b).extract 3 6 = bs b := by
  have e : bs a ++ bs b = bs (a ++ b) := L_inj (by simp only [L_append, L_bs])
  refine ⟨by rw [e, size_bs]; simp [ha, hb], ?_, ?_⟩ <;> rw [e] <;> apply L_inj <;> rw [L_extract, L_bs, L_bs]
  · simp [ha]
  · rw [← ha, List.drop_left, ha]; rw [show 6 - 3 = b.length by omega, List.take_length]
structure WindF (d s : Int) (x : ByteArray) : Prop where
  size : x.size = 7
  kt : x.extract 5 7 = bs [75, 84]
  dig : (L (x.extract 3 5)).all isDig = true
  sp : spell 0 (L (x.extract 3 5)) = s
  dir : (d = 99 ∧ x.extract 0 3 = bs [86, 82, 66]) ∨ (¬ x.extract 0 3 = bs [86, 82, 66] ∧ (L (x.extract 0 3)).all isDig = true ∧ spell 0 (L (x.extract 0 3)) / 10 = d)
theorem wind_facts {d s : Int} (hd : d = 99 ∨ (0 ≤ d ∧ d ≤ 36)) (hs : 0 ≤ s ∧ s ≤ 99) : WindF d s (windB d s) := by
  obtain ⟨p1, p2, p3⟩ := pad_facts (n := s) (w := 2) hs.1 (by omega) (by omega)
  unfold windB
  by_cases h99 : d = 99
  · rw [if_pos h99]
    obtain ⟨e1, e2, e3, e4⟩ := cat3 (a := [86, 82, 66]) (b := pad s 2) (c := [75, 84]) rfl p1 rfl
    exact ⟨e1, e4, by rw [e3, L_bs]; exact p2, by rw [e3, L_bs]; exact p3, .inl ⟨h99, e2⟩⟩
  · rw [if_neg h99]
    obtain ⟨q1, q2, q3⟩ := pad_facts (n := d * 10) (w := 3) (by omega) (by omega) (by omega)
    obtain ⟨e1, e2, e3, e4⟩ := cat3 (a := pad (d * 10) 3) (b := pad s 2) (c := [75, 84]) q1 p1 rfl
    refine ⟨e1, e4, by rw [e3, L_bs]; exact p2, by rw [e3, L_bs]; exact p3, .inr ⟨fun hc => ?_, by rw [e2, L_bs]; exact q2, by rw [e2, L_bs, q3]; omega⟩⟩
    rw [e2] at hc
    have : pad (d * 10) 3 = [86, 82, 66] := by have := congrArg L hc; rwa [L_bs, L_bs] at this
    rw [this] at q2
    exact absurd q2 (by decide)
theorem skyP_wind {d s : Int} {x : ByteArray} (h : WindF d s x) (t : Sk) : skyP x t = (0, (d, s, t.2.2)) := by
  have hwo : windOk x = true := by
    unfold windOk
    rw [Bool.and_eq_true, Bool.and_eq_true, Bool.and_eq_true, Bool.or_eq_true, decide_eq_true_eq, decide_eq_true_eq, decide_eq_true_eq]
    exact ⟨h.size, h.kt, h.dig, h.dir.elim (fun a => .inl a.2) (fun a => .inr a.2.1)⟩
  unfold skyP
  rw [if_pos hwo, h.sp]
  rcases h.dir with ⟨a, b⟩ | ⟨a, b, c⟩
  · rw [if_pos b, a]
  · rw [if_neg a, c]
theorem not_wind {x : ByteArray} (h : ¬ x.size = 7) : ¬ windOk x = true := by simp [windOk, h]
structure VisF (v : Int) (x : ByteArray) : Prop where
  size : x.size = 4
  dig : (L x).all isDig = true
  sp : spell 0 (L x) = v
theorem vis_facts {v : Int} (h : 0 ≤ v ∧ v ≤ 9999) : VisF v (bs (pad v 4)) := by
  obtain ⟨p1, p2, p3⟩ := pad_facts (n := v) (w := 4) h.1 (by omega) (by omega)
  exact ⟨by rw [size_bs]; exact p1, by rw [L_bs]; exact p2, by rw [L_bs]; exact p3⟩
theorem skyP_vis {v : Int} {x : ByteArray} (h : VisF v x) (t : Sk) : skyP x t = (1, (t.1, t.2.1, v, t.2.2.2)) := by
  unfold skyP
  rw [if_neg (not_wind (by rw [h.size]; omega))]
  unfold restP
  rw [if_pos ⟨h.size, h.dig⟩, h.sp]
theorem wea_list : ∀ x ∈ L_impl_weathers, (!decide (x = bs []) && (decide (x.size ≤ 4) && (!(decide (x.size = 4) && (L x).all isDig) && !decide (x = bs [83, 75, 67])))) = true := by decide
structure WeaF (x : ByteArray) : Prop where
  ne : ¬ x = bs []
  size : x.size ≤ 4
  nv : ¬ (x.size = 4 ∧ (L x).all isDig = true)
  skc : ¬ x = bs [83, 75, 67]
  mem : (L_impl_weathers.any fun y => decide (x = y)) = true
theorem wea_facts {x : ByteArray} (h : (L_impl_weathers.any fun y => decide (x = y)) = true) : WeaF x := by
  have h' := h
  rw [List.any_eq_true] at h'
  obtain ⟨y, hy, he⟩ := h'
  have he := of_decide_eq_true he
  subst he
  have := wea_list _ hy
  simp only [Bool.and_eq_true, Bool.not_eq_true', decide_eq_true_eq, decide_eq_false_iff_not, Bool.and_eq_false_iff] at this
  refine ⟨this.1, this.2.1, fun hc => ?_, this.2.2.2, h⟩
  rcases this.2.2.1 with a | a
  · exact a hc.1
  · rw [hc.2] at a; cases a
theorem skyP_wea {x : ByteArray} (h : WeaF x) (t : Sk) : skyP x t = (2, (t.1, t.2.1, t.2.2.1, x, t.2.2.2.2)) := by
  unfold skyP
  rw [if_neg (not_wind (by have := h.size; omega))]
  unfold restP
  rw [if_neg h.nv, if_pos h.mem]
theorem skyP_skc (t : Sk) : skyP (bs [83, 75, 67]) t = (3, (t.1, t.2.1, t.2.2.1, t.2.2.2.1, bs [83, 75, 67], t.2.2.2.2.2)) := by
  unfold skyP
  rw [if_neg (not_wind (by decide))]
  unfold restP
  rw [if_neg (by decide), if_neg (by decide), if_pos rfl]
structure CovF (c : ByteArray) (b : Int) (x : ByteArray) : Prop where
  size : x.size = 6
  pre : x.extract 0 3 = c
  mem : (L_impl_covers.any fun y => decide (c = y)) = true
  dig : (L (x.extract 3 6)).all isDig = true
  sp : spell 0 (L (x.extract 3 6)) = b
theorem cov_list : ∀ x ∈ L_impl_covers, (L x).length = 3 := by decide
theorem cov_facts {c : ByteArray} {b : Int} (hc : (L_impl_covers.any fun y => decide (c = y)) = true) (hb : 0 ≤ b ∧ b ≤ 200) : CovF c b (c ++ bs (pad b 3)) := by
  obtain ⟨p1, p2, p3⟩ := pad_facts (n := b) (w := 3) hb.1 (by omega) (by omega)
  have hl : (L c).length = 3 := by
    have h' := hc
    rw [List.any_eq_true] at h'
    obtain ⟨y, hy, he⟩ := h'
    rw [of_decide_eq_true he]; exact cov_list y hy
  obtain ⟨e1, e2, e3⟩ := cat2 (a := L c) (b := pad b 3) hl p1
  rw [bs_L] at e1 e2 e3
  exact ⟨e1, e2, hc, by rw [e3, L_bs]; exact p2, by rw [e3, L_bs]; exact p3⟩
theorem not_wea_of {x : ByteArray} (h : 4 < x.size) : ¬ (L_impl_weathers.any fun y => decide (x = y)) = true := fun hc => by
  have := (wea_facts hc).size; omega
theorem skyP_cov {c : ByteArray} {b : Int} {x : ByteArray} (h : CovF c b x) (t : Sk) : skyP x t = (3, (t.1, t.2.1, t.2.2.1, t.2.2.2.1, c, b)) := by
  have hsz := h.size
  unfold skyP
  rw [if_neg (not_wind (by omega))]
  unfold restP
  rw [if_neg (fun hc => by omega), if_neg (not_wea_of (by omega)), if_neg (fun hc => by rw [hc] at hsz; exact absurd hsz (by decide)), if_pos ⟨hsz, by rw [h.pre]; exact h.mem, h.dig⟩, h.pre, h.sp]
/-- A word that is no part of a sky. -/
structure StopF (x : ByteArray) : Prop where
  ne : ¬ x = bs []
  s7 : ¬ x.size = 7
  s4 : ¬ x.size = 4
  wea : ¬ (L_impl_weathers.any fun y => decide (x = y)) = true
  skc : ¬ x = bs [83, 75, 67]
  cov : ¬ (x.size = 6 ∧ (L (x.extract 3 6)).all isDig = true)
theorem skyP_stop {x : ByteArray} (h : StopF x) (t : Sk) : skyP x t = (-1, t) := by
  unfold skyP
  rw [if_neg (not_wind h.s7)]
  unfold restP
  rw [if_neg (fun hc => h.s4 hc.1), if_neg h.wea, if_neg h.skc, if_neg (fun hc => h.cov ⟨hc.1, hc.2.2⟩)]
theorem stop_big {x : ByteArray} (h : x.size = 5 ∨ 8 ≤ x.size) : StopF x :=
  ⟨fun hc => by rw [hc, size_bs] at h; simp at h, by omega, by omega, not_wea_of (by omega), fun hc => by rw [hc, size_bs] at h; simp at h, by omega⟩
theorem stop_prob : StopF (bs [80, 82, 79, 66, 51, 48]) :=
  ⟨by decide, by decide, by decide, by decide, by decide, by decide⟩
/-! ### the program takes a sky off words -/
noncomputable abbrev tkL (k : Nat) (ws : List ByteArray) (last : Int) (s : Sk) := impl_takeSky_L3 k ws last 0 0 0 (bs []) (bs []) 0 s.1 s.2.1 s.2.2.1 s.2.2.2.1 s.2.2.2.2.1 s.2.2.2.2.2
def tkR (s : Sk) (ws : List ByteArray) : Int × Int × Int × ByteArray × ByteArray × Int × List ByteArray := (s.1, s.2.1, s.2.2.1, s.2.2.2.1, s.2.2.2.2.1, s.2.2.2.2.2, ws)
theorem tk_nil (last : Int) (s : Sk) : Ev (fun k => tkL k [] last s) (tkR s []) := by
  apply ev_succ
  simp only [tkL, impl_takeSky_L3, List.length_nil, show ¬ ((0 : Nat) : Int) > 0 by omega, decide_false, cond_false]
  exact ev_now _
theorem tk_cons {w : ByteArray} {r : List ByteArray} {last : Int} {s : Sk} {p : Int × Sk} (hw : w.size ≤ 9223372036854775807) (hp : skyP w s = p) {res : Int × Int × Int × ByteArray × ByteArray × Int × List ByteArray}
    (h : Ev (fun k => bif decide (p.1 ≤ last) then some (tkR p.2 (w :: r)) else tkL k r p.1 p.2) res) : Ev (fun k => tkL k (w :: r) last s) res := by
  apply ev_succ
  have e := skyPart_eq w hw s
  rw [hp] at e
  have hrd : rd Kind.str (w :: r) 0 = w := rfl
  have hl : (((w :: r).length : Nat) : Int) > 0 := by simp only [List.length_cons]; omega
  have hdrop : List.drop (Int.toNat 1) (List.take (((w :: r).length : Nat) : Int).toNat (w :: r)) = r := by
    rw [Int.toNat_natCast, List.take_length]; rfl
  simp only [tkL, impl_takeSky_L3, hl, hrd, e, tup7, decide_true, cond_true, Option.bind_some, hdrop, show (1 : Int) ≤ (((w :: r).length : Nat) : Int) by omega, show (0 : Int) < (((w :: r).length : Nat) : Int) by omega]
  exact h
def RestF (r : List ByteArray) : Prop := r = [] ∨ ∃ x t, r = x :: t ∧ StopF x ∧ x.size ≤ 1000
theorem tk_rest {r : List ByteArray} (h : RestF r) (last : Int) (hl : -1 ≤ last) (s : Sk) : Ev (fun k => tkL k r last s) (tkR s r) := by
  rcases h with rfl | ⟨x, t, rfl, hx, hs⟩
  · exact tk_nil last s
  · refine tk_cons (by omega) (skyP_stop hx s) ?_
    simp only [hl, decide_true, cond_true]
    exact ev_now _
theorem tk_cov {c : ByteArray} {b : Int} (hc : cloudV c b = true) {r : List ByteArray} (h : RestF r) (last : Int) (hl : -1 ≤ last ∧ last < 3) (d s v : Int) (w : ByteArray) :
    Ev (fun k => tkL k ((if c = bs [] then [] else if c = bs [83, 75, 67] then [c] else [c ++ bs (pad b 3)]) ++ r) last (d, s, v, w, bs [], 0)) (tkR (d, s, v, w, c, b) r) := by
  unfold cloudV at hc
  by_cases h0 : c = bs []
  · rw [if_pos (.inl h0)] at hc
    have hb := of_decide_eq_true hc
    rw [if_pos h0, h0, hb]
    exact tk_rest h last hl.1 _
  · rw [if_neg h0]
    by_cases h1 : c = bs [83, 75, 67]
    · rw [if_pos (.inr h1)] at hc
      have hb := of_decide_eq_true hc
      rw [if_pos h1, h1, hb]
      refine tk_cons (by decide) (skyP_skc _) ?_
      simp only [show ¬ (3 : Int) ≤ last by omega, decide_false, cond_false]
      exact tk_rest h 3 (by omega) _
    · rw [if_neg (by rintro (a | a); exact h0 a; exact h1 a), Bool.and_eq_true, Bool.and_eq_true] at hc
      rw [if_neg h1]
      have hf := cov_facts hc.1 ⟨by have := of_decide_eq_true hc.2.1; omega, of_decide_eq_true hc.2.2⟩
      refine tk_cons (by rw [hf.size]; omega) (skyP_cov hf _) ?_
      simp only [show ¬ (3 : Int) ≤ last by omega, decide_false, cond_false]
      exact tk_rest h 3 (by omega) _
theorem tk_wea {w c : ByteArray} {b : Int} (hw : weaV w = true) (hc : cloudV c b = true) {r : List ByteArray} (h : RestF r) (last : Int) (hl : -1 ≤ last ∧ last < 2) (d s v : Int) :
    Ev (fun k => tkL k ((if w = bs [] then [] else [w]) ++ ((if c = bs [] then [] else if c = bs [83, 75, 67] then [c] else [c ++ bs (pad b 3)]) ++ r)) last (d, s, v, bs [], bs [], 0)) (tkR (d, s, v, w, c, b) r) := by
  by_cases h0 : w = bs []
  · rw [if_pos h0, h0]
    exact tk_cov hc h last ⟨hl.1, by omega⟩ d s v (bs [])
  · rw [if_neg h0]
    have hm : (L_impl_weathers.any fun y => decide (w = y)) = true := by
      unfold weaV at hw
      rw [Bool.or_eq_true] at hw
      exact hw.resolve_left (fun hc => h0 (of_decide_eq_true hc))
    have hf := wea_facts hm
    refine tk_cons (by have := hf.size; omega) (skyP_wea hf _) ?_
    simp only [show ¬ (2 : Int) ≤ last by omega, decide_false, cond_false]
    exact tk_cov hc h 2 (by omega) d s v w
theorem tk_vis {v : Int} {w c : ByteArray} {b : Int} (hv : -1 ≤ v ∧ v ≤ 9999) (hw : weaV w = true) (hc : cloudV c b = true) {r : List ByteArray} (h : RestF r) (last : Int) (hl : -1 ≤ last ∧ last < 1) (d s : Int) :
    Ev (fun k => tkL k ((if 0 ≤ v then [bs (pad v 4)] else []) ++ ((if w = bs [] then [] else [w]) ++ ((if c = bs [] then [] else if c = bs [83, 75, 67] then [c] else [c ++ bs (pad b 3)]) ++ r))) last (d, s, -1, bs [], bs [], 0)) (tkR (d, s, v, w, c, b) r) := by
  by_cases h0 : 0 ≤ v
  · rw [if_pos h0]
    have hf := vis_facts ⟨h0, hv.2⟩
    refine tk_cons (by rw [hf.size]; omega) (skyP_vis hf _) ?_
    simp only [show ¬ (1 : Int) ≤ last by omega, decide_false, cond_false]
    exact tk_wea hw hc h 1 (by omega) d s v
  · rw [if_neg h0, show v = -1 by omega]
    exact tk_wea hw hc h last ⟨hl.1, by omega⟩ d s (-1)
theorem wind_pos {d s : Int} (h : windV d s = true) : (d = -1 ∧ s = 0) ∨ ((d = 99 ∨ (0 ≤ d ∧ d ≤ 36)) ∧ 0 ≤ s ∧ s ≤ 99) := by
  unfold windV at h
  split at h
  · have := of_decide_eq_true h; omega
  · simp only [Bool.and_eq_true, Bool.or_eq_true, decide_eq_true_eq] at h; omega
theorem wind_words {d s : Int} (hd : d = -1 ∨ d = 99 ∨ (0 ≤ d ∧ d ≤ 36)) : (if d = 99 then [bs [86, 82, 66] ++ bs (pad s 2) ++ bs [75, 84]] else if 0 ≤ d then [bs (pad (d * 10) 3) ++ bs (pad s 2) ++ bs [75, 84]] else []) = if d = -1 then [] else [windB d s] := by
  unfold windB
  rcases hd with h | h | h
  · simp [h]
  · simp [h]
  · rw [if_neg (by omega), if_pos h.1, if_neg (by omega), if_neg (by omega)]
/-- The program takes the sky off its words. -/
theorem takeSky_eq {d s v : Int} {w c : ByteArray} {b : Int} (hs : skyV d s v w c b = true) {r : List ByteArray} (h : RestF r) : impl_takeSky (skyW d s v w c b ++ r) = some (tkR (d, s, v, w, c, b) r) := by
  have hf := sky_facts hs
  simp only [skyV, Bool.and_eq_true, decide_eq_true_eq] at hs
  obtain ⟨h1, h2, h3, h4⟩ := hs
  refine evF_eq ?_
  unfold impl_takeSky_F skyW
  rw [wind_words hf.d]
  simp only [List.append_assoc]
  have goal : Ev (fun k => tkL k ((if d = -1 then [] else [windB d s]) ++ ((if 0 ≤ v then [bs (pad v 4)] else []) ++ ((if w = bs [] then [] else [w]) ++ ((if c = bs [] then [] else if c = bs [83, 75, 67] then [c] else [c ++ bs (pad b 3)]) ++ r)))) (-1) (-1, 0, -1, bs [], bs [], 0)) (tkR (d, s, v, w, c, b) r) := by
    rcases wind_pos h1 with ⟨a1, a2⟩ | ⟨a1, a2⟩
    · rw [if_pos a1, a1, a2]
      exact tk_vis h2 h3 h4 h (-1) (by omega) (-1) 0
    · rw [if_neg (by omega)]
      have hw := wind_facts a1 a2
      refine tk_cons (by rw [hw.size]; omega) (skyP_wind hw _) ?_
      simp only [show ¬ (0 : Int) ≤ -1 by omega, decide_false, cond_false]
      exact tk_vis h2 h3 h4 h 0 (by omega) d s
  exact goal
end Go.Proofs.YtondfjckadlabaaGreatDoor.RT

namespace Go.Proofs.YtondfjckadlabaaGreatDoor.RT
open Go Go.Eng Go.Proofs.YtondfjckadlabaaGreatDoor.DT Go.Proofs.YtondfjckadlabaaGreatDoor.NU Go.Proofs.YtondfjckadlabaaGreatDoor.SA Go.Proofs.YtondfjckadlabaaGreatDoor.TT Go.Proofs.YtondfjckadlabaaGreatDoor.EX
/-! ### the reference takes a sky off words -/
def at0 (ws : List ByteArray) (n : Nat) : ByteArray := ws.getD n (bs [])
theorem at0_lt {ws : List ByteArray} {n : Nat} (h : 0 < (at0 ws n).size) : n < ws.length := by
  apply Nat.lt_of_not_le; intro hc
  unfold at0 at h
  rw [List.getD_eq_getElem?_getD, List.getElem?_eq_none hc] at h
  simp [size_bs] at h
def numV (l : List UInt8) : Int := if l.all isDig = true then spell 0 l else -1
def st1 (ws : List ByteArray) (n : Nat) (s : Sk) : Sk × Nat :=
  if (at0 ws n).size = 7 ∧ (at0 ws n).extract 5 7 = bs [75, 84] then ((if (at0 ws n).extract 0 3 = bs [86, 82, 66] then 99 else IntKind.i64.wrap (Int.tdiv (numV (L ((at0 ws n).extract 0 3))) 10), numV (L ((at0 ws n).extract 3 5)), s.2.2), n + 1) else (s, n)
def st2 (ws : List ByteArray) (n : Nat) (s : Sk) : Sk × Nat :=
  if (at0 ws n).size = 4 ∧ (L (at0 ws n)).all isDig = true then ((s.1, s.2.1, spell 0 (L (at0 ws n)), s.2.2.2), n + 1) else (s, n)
def st3 (ws : List ByteArray) (n : Nat) (s : Sk) : Sk × Nat :=
  if ¬ at0 ws n = bs [] ∧ weaV (at0 ws n) = true then ((s.1, s.2.1, s.2.2.1, at0 ws n, s.2.2.2.2), n + 1) else (s, n)
def st4 (ws : List ByteArray) (n : Nat) (s : Sk) : Sk × Nat :=
  if at0 ws n = bs [83, 75, 67] then ((s.1, s.2.1, s.2.2.1, s.2.2.2.1, at0 ws n, s.2.2.2.2.2), n + 1)
  else if (at0 ws n).size = 6 ∧ (L ((at0 ws n).extract 3 6)).all isDig = true then ((s.1, s.2.1, s.2.2.1, s.2.2.2.1, (at0 ws n).extract 0 3, spell 0 (L ((at0 ws n).extract 3 6))), n + 1) else (s, n)
def skR (p : Sk × Nat) (ws : List ByteArray) (ref : Int) (bad : Bool) : Int × Int × Int × ByteArray × ByteArray × Int × List ByteArray × Int × Int × Bool :=
  (p.1.1, p.1.2.1, p.1.2.2.1, p.1.2.2.2.1, p.1.2.2.2.2.1, p.1.2.2.2.2.2, ws, (p.2 : Int), ref, bad)
section
variable {ws : List ByteArray} {n : Nat} {ref : Int} {bad : Bool} {s : Sk}
theorem sk25 : Ev (fun k => spec_l21Read_sky_L25 k ws (n : Int) ref bad 0 0 0 (bs []) (bs []) 0 s.1 s.2.1 s.2.2.1 s.2.2.2.1 s.2.2.2.2.1 s.2.2.2.2.2) (skR (s, n) ws ref bad) := by
  apply ev_succ
  exact ev_now _
theorem sk17 (hn : n ≤ ws.length) (hl : ws.length ≤ 1048577) : Ev (fun k => spec_l21Read_sky_L17 k ws (n : Int) ref bad 0 0 0 (bs []) (bs []) 0 s.1 s.2.1 s.2.2.1 s.2.2.2.1 s.2.2.2.2.1 s.2.2.2.2.2) (skR (st4 ws n s) ws ref bad) := by
  apply ev_succ
  have hword : spec_l21Read_word ws (n : Int) ref bad = some (at0 ws n, ws, (n : Int), ref, bad) := word_eq ws n ref bad hn
  simp only [spec_l21Read_sky_L17, hword, Option.bind_some, beq_bytes, beqI, wsucc (show n < 9223372036854775807 by omega)]
  generalize hst : st4 ws n s = q
  unfold st4 at hst
  by_cases h1 : at0 ws n = bs [83, 75, 67]
  · rw [if_pos h1] at hst
    subst hst
    simp only [h1, decide_true, cond_true]
    exact sk25 (n := n + 1) (s := (s.1, s.2.1, s.2.2.1, s.2.2.2.1, bs [83, 75, 67], s.2.2.2.2.2))
  · rw [if_neg h1] at hst
    simp only [h1, decide_false, cond_false]
    by_cases h6 : (at0 ws n).size = 6
    · have hI : (((at0 ws n).size : Nat) : Int) = 6 := by omega
      have hn6 := number_eq (s := (at0 ws n).extract 3 6) (by rw [ext_len (by omega) (by omega)]; omega) (by rw [ext_len (by omega) (by omega)]; omega)
      simp only [hI, decide_true, cond_true, show Int.toNat 0 = 0 from rfl, show Int.toNat 3 = 3 from rfl, show Int.toNat 6 = 6 from rfl, show (3 : Int) ≤ 6 by omega, hn6, Option.bind_some]
      by_cases hd : (L ((at0 ws n).extract 3 6)).all isDig = true
      · rw [if_pos ⟨h6, hd⟩] at hst
        subst hst
        have hr := spell_range hd
        simp only [hd, if_true, show spell 0 (L ((at0 ws n).extract 3 6)) ≥ 0 from hr.1, decide_true, cond_true]
        exact sk25 (n := n + 1) (s := (s.1, s.2.1, s.2.2.1, s.2.2.2.1, (at0 ws n).extract 0 3, spell 0 (L ((at0 ws n).extract 3 6))))
      · rw [if_neg (fun hc => hd hc.2)] at hst
        subst hst
        simp only [hd, if_false, show ¬ (-1 : Int) ≥ 0 by omega, decide_false, cond_false]
        exact sk25
    · rw [if_neg (fun hc => h6 hc.1)] at hst
      subst hst
      simp only [show ¬ (((at0 ws n).size : Nat) : Int) = 6 by omega, decide_false, cond_false]
      exact sk25
theorem st3_le (hn : n ≤ ws.length) : (st3 ws n s).2 ≤ ws.length ∧ n ≤ (st3 ws n s).2 := by
  unfold st3
  split
  · rename_i h
    have : 0 < (at0 ws n).size := by
      apply Nat.pos_of_ne_zero; intro hc
      apply h.1
      exact L_inj (by rw [L_bs]; exact List.eq_nil_of_length_eq_zero (by rw [L_length]; exact hc))
    have := at0_lt this
    exact ⟨this, by simp⟩
  · exact ⟨hn, Nat.le_refl _⟩
theorem st1_le (hn : n ≤ ws.length) : (st1 ws n s).2 ≤ ws.length ∧ n ≤ (st1 ws n s).2 := by
  unfold st1
  split
  · rename_i h
    have := at0_lt (ws := ws) (n := n) (by omega)
    exact ⟨this, by simp⟩
  · exact ⟨hn, Nat.le_refl _⟩
theorem st2_le (hn : n ≤ ws.length) : (st2 ws n s).2 ≤ ws.length ∧ n ≤ (st2 ws n s).2 := by
  unfold st2
  split
  · rename_i h
    have := at0_lt (ws := ws) (n := n) (by omega)
    exact ⟨this, by simp⟩
  · exact ⟨hn, Nat.le_refl _⟩
theorem sk13 (hn : n ≤ ws.length) (hl : ws.length ≤ 1048577) : Ev (fun k => spec_l21Read_sky_L13 k ws (n : Int) ref bad 0 0 0 (bs []) (bs []) 0 s.1 s.2.1 s.2.2.1 s.2.2.2.1 s.2.2.2.2.1 s.2.2.2.2.2) (skR (st4 ws (st3 ws n s).2 (st3 ws n s).1) ws ref bad) := by
  have hle := st3_le (s := s) hn
  have nxt := sk17 (ws := ws) (n := (st3 ws n s).2) (ref := ref) (bad := bad) (s := (st3 ws n s).1) hle.1 hl
  apply ev_succ
  have hword : spec_l21Read_word ws (n : Int) ref bad = some (at0 ws n, ws, (n : Int), ref, bad) := word_eq ws n ref bad hn
  simp only [spec_l21Read_sky_L13, hword, Option.bind_some, beq_bytes, wsucc (show n < 9223372036854775807 by omega), wea_eq]
  generalize hst : st3 ws n s = q at nxt ⊢
  unfold st3 at hst
  by_cases h1 : at0 ws n = bs []
  · rw [if_neg (fun hc => hc.1 h1)] at hst
    subst hst
    simp only [h1, decide_true, Bool.not_true, cond_false]
    exact nxt
  · by_cases hw : weaV (at0 ws n) = true
    · rw [if_pos ⟨h1, hw⟩] at hst
      subst hst
      simp only [h1, hw, decide_false, Bool.not_false, cond_true]
      exact nxt
    · rw [if_neg (fun hc => hw hc.2)] at hst
      subst hst
      simp only [h1, not_true_eq hw, decide_false, Bool.not_false, cond_true, cond_false]
      exact nxt
theorem sk9 (hn : n ≤ ws.length) (hl : ws.length ≤ 1048577) : Ev (fun k => spec_l21Read_sky_L9 k ws (n : Int) ref bad 0 0 0 (bs []) (bs []) 0 s.1 s.2.1 s.2.2.1 s.2.2.2.1 s.2.2.2.2.1 s.2.2.2.2.2) (skR (st4 ws (st3 ws (st2 ws n s).2 (st2 ws n s).1).2 (st3 ws (st2 ws n s).2 (st2 ws n s).1).1) ws ref bad) := by
  have hle := st2_le (s := s) hn
  have nxt := sk13 (ws := ws) (n := (st2 ws n s).2) (ref := ref) (bad := bad) (s := (st2 ws n s).1) hle.1 hl
  apply ev_succ
  have hword : spec_l21Read_word ws (n : Int) ref bad = some (at0 ws n, ws, (n : Int), ref, bad) := word_eq ws n ref bad hn
  simp only [spec_l21Read_sky_L9, hword, Option.bind_some, beqI, wsucc (show n < 9223372036854775807 by omega)]
  generalize hst : st2 ws n s = q at nxt ⊢
  unfold st2 at hst
  by_cases h4 : (at0 ws n).size = 4
  · have hn4 := number_eq (s := at0 ws n) (by omega) (by omega)
    simp only [show decide ((((at0 ws n).size : Nat) : Int) = 4) = true from decide_eq_true (by omega), cond_true, hn4, Option.bind_some]
    by_cases hd : (L (at0 ws n)).all isDig = true
    · rw [if_pos ⟨h4, hd⟩] at hst
      subst hst
      have hr := spell_range hd
      simp only [hd, if_true, show spell 0 (L (at0 ws n)) ≥ 0 from hr.1, decide_true, cond_true]
      exact nxt
    · rw [if_neg (fun hc => hd hc.2)] at hst
      subst hst
      simp only [hd, if_false, show ¬ (-1 : Int) ≥ 0 by omega, decide_false, cond_false]
      exact nxt
  · rw [if_neg (fun hc => h4 hc.1)] at hst
    subst hst
    simp only [show decide ((((at0 ws n).size : Nat) : Int) = 4) = false from decide_eq_false (by omega), cond_false]
    exact nxt
def skyZ : Sk := (-1, 0, -1, bs [], bs [], 0)
def st1234 (ws : List ByteArray) (n : Nat) : Sk × Nat :=
  let a := st1 ws n skyZ
  let b := st2 ws a.2 a.1
  let c := st3 ws b.2 b.1
  st4 ws c.2 c.1
theorem sky_v (hn : n ≤ ws.length) (hl : ws.length ≤ 1048577) : spec_l21Read_sky ws (n : Int) ref bad = some (skR (st1234 ws n) ws ref bad) := by
  have hle := st1_le (s := skyZ) hn
  have nxt := sk9 (ws := ws) (n := (st1 ws n skyZ).2) (ref := ref) (bad := bad) (s := (st1 ws n skyZ).1) hle.1 hl
  refine evF_eq ?_
  unfold st1234
  have hword : spec_l21Read_word ws (n : Int) ref bad = some (at0 ws n, ws, (n : Int), ref, bad) := word_eq ws n ref bad hn
  have hu : spec_l21Unsaid = some (-1, 0, -1, bs [], bs [], 0) := rfl
  simp only [spec_l21Read_sky_F, hu, hword, Option.bind_some, beqI, beq_bytes, wsucc (show n < 9223372036854775807 by omega)]
  generalize hst : st1 ws n skyZ = q at nxt ⊢
  unfold st1 at hst
  by_cases h7 : (at0 ws n).size = 7
  · have hI : (((at0 ws n).size : Nat) : Int) = 7 := by omega
    have n03 := number_eq (s := (at0 ws n).extract 0 3) (by rw [ext_len (by omega) (by omega)]; omega) (by rw [ext_len (by omega) (by omega)]; omega)
    have n35 := number_eq (s := (at0 ws n).extract 3 5) (by rw [ext_len (by omega) (by omega)]; omega) (by rw [ext_len (by omega) (by omega)]; omega)
    simp only [hI, decide_true, cond_true, show Int.toNat 0 = 0 from rfl, show Int.toNat 3 = 3 from rfl, show Int.toNat 5 = 5 from rfl, show Int.toNat 7 = 7 from rfl, show (5 : Int) ≤ 7 by omega, show (3 : Int) ≤ 7 by omega, n03, n35, Option.bind_some]
    by_cases hk : (at0 ws n).extract 5 7 = bs [75, 84]
    · rw [if_pos ⟨h7, hk⟩] at hst
      subst hst
      by_cases hv : (at0 ws n).extract 0 3 = bs [86, 82, 66]
      · simp only [hk, hv, decide_true, cond_true, Bool.not_true, cond_false, if_true] at nxt ⊢
        exact nxt
      · simp only [hk, hv, decide_true, decide_false, cond_true, Bool.not_false, if_false] at nxt ⊢
        exact nxt
    · rw [if_neg (fun hc => hk hc.2)] at hst
      subst hst
      simp only [hk, decide_false, cond_false]
      exact nxt
  · rw [if_neg (fun hc => h7 hc.1)] at hst
    subst hst
    simp only [show decide ((((at0 ws n).size : Nat) : Int) = 7) = false from decide_eq_false (by omega), cond_false]
    exact nxt
end
end Go.Proofs.YtondfjckadlabaaGreatDoor.RT

namespace Go.Proofs.YtondfjckadlabaaGreatDoor.RT
open Go Go.Eng Go.Proofs.YtondfjckadlabaaGreatDoor.DT Go.Proofs.YtondfjckadlabaaGreatDoor.NU Go.Proofs.YtondfjckadlabaaGreatDoor.SA Go.Proofs.YtondfjckadlabaaGreatDoor.TT Go.Proofs.YtondfjckadlabaaGreatDoor.EX
/-! ### the reference takes the sky off its words -/
structure HeadF (x : ByteArray) : Prop where
  s7 : ¬ x.size = 7
  nv : ¬ (x.size = 4 ∧ (L x).all isDig = true)
  wea : x = bs [] ∨ ¬ weaV x = true
def covW (c : ByteArray) (b : Int) : List ByteArray := if c = bs [] then [] else if c = bs [83, 75, 67] then [c] else [c ++ bs (pad b 3)]
def weaW (w : ByteArray) : List ByteArray := if w = bs [] then [] else [w]
def visW (v : Int) : List ByteArray := if 0 ≤ v then [bs (pad v 4)] else []
theorem skyW_eq {d s v : Int} {w c : ByteArray} {b : Int} (hd : d = -1 ∨ d = 99 ∨ (0 ≤ d ∧ d ≤ 36)) : skyW d s v w c b = (if d = -1 then [] else [windB d s]) ++ (visW v ++ (weaW w ++ covW c b)) := by
  unfold skyW
  rw [wind_words hd]; rfl
end Go.Proofs.YtondfjckadlabaaGreatDoor.RT

namespace Go.Proofs.YtondfjckadlabaaGreatDoor.RT
open Go Go.Eng Go.Proofs.YtondfjckadlabaaGreatDoor.DT Go.Proofs.YtondfjckadlabaaGreatDoor.NU Go.Proofs.YtondfjckadlabaaGreatDoor.SA Go.Proofs.YtondfjckadlabaaGreatDoor.TT Go.Proofs.YtondfjckadlabaaGreatDoor.EX
/-! ### a forecast's words -/
def tailJ (ws : List ByteArray) : List UInt8 := Lib.joinTail [32] (ws.map L)
theorem tailJ_nil : tailJ [] = [] := rfl
theorem tailJ_cons (x : ByteArray) (r : List ByteArray) : tailJ (x :: r) = 32 :: (L x ++ tailJ r) := by simp [tailJ, Lib.joinTail]
theorem tailJ_append (a b : List ByteArray) : tailJ (a ++ b) = tailJ a ++ tailJ b := by simp [tailJ, Lib.joinTail]
theorem J_cons (x : ByteArray) (r : List ByteArray) : J (x :: r) = L x ++ tailJ r := by
  unfold J tailJ
  rw [List.map_cons, Lib.join_cons]
theorem tailJ_J {b : List ByteArray} (h : b ≠ []) : tailJ [bs (J b)] = tailJ b := by
  cases b with
  | nil => exact absurd rfl h
  | cons x r => rw [tailJ_cons, tailJ_nil, L_bs, J_cons, tailJ_cons, List.append_nil]
theorem pc_tail : ∀ (ws : List ByteArray) (a : List UInt8), (32 : UInt8) ∉ a → (∀ w ∈ ws, (32 : UInt8) ∉ L w) → pc [] (a ++ tailJ ws) = a :: ws.map L
  | [], a, ha, _ => by rw [tailJ_nil, List.append_nil, pc_none _ _ ha]; rfl
  | x :: r, a, ha, h => by
    rw [tailJ_cons, pc_some _ _ _ ha, pc_tail r (L x) (h x (by simp)) (fun w hw => h w (by simp [hw]))]
    rfl
def kindW (k : Int) : ByteArray := if k = 2 then bs [66, 69, 67, 77, 71] else if k = 3 then bs [84, 69, 77, 80, 79] else bs [80, 82, 79, 66, 51, 48]
noncomputable def headC (c : Ch) : List ByteArray :=
  if c.1 = 1 then [bs [70, 77] ++ bs (dh c.2.1.toNat ++ d2 (c.2.1.toNat % 60))] else [kindW c.1, bs (spanT c.2.1.toNat c.2.2.1.toNat)]
def skC (c : Ch) : List ByteArray := skyW c.2.2.2.1 c.2.2.2.2.1 c.2.2.2.2.2.1 c.2.2.2.2.2.2.1 c.2.2.2.2.2.2.2.1 c.2.2.2.2.2.2.2.2
theorem chW_eq (c : Ch) : chW c = headC c ++ [bs (J (skC c))] := by
  unfold chW headC kindW skC skyT
  by_cases h1 : c.1 = 1
  · rw [if_pos h1, if_pos h1]
  · rw [if_neg h1, if_neg h1]
    by_cases h2 : c.1 = 2
    · rw [if_pos h2, if_pos h2]
    · rw [if_neg h2, if_neg h2]
      by_cases h3 : c.1 = 3
      · rw [if_pos h3, if_pos h3]
      · rw [if_neg h3, if_neg h3]
noncomputable def flatW : List Ch → List ByteArray
  | [] => []
  | c :: xs => headC c ++ (skC c ++ flatW xs)
theorem tail_chsW : ∀ (xs : List Ch), (∀ c ∈ xs, skC c ≠ []) → tailJ (chsW xs) = tailJ (flatW xs)
  | [], _ => rfl
  | c :: xs, h => by
    have ih := tail_chsW xs fun d hd => h d (by simp [hd])
    have e : chsW (c :: xs) = chW c ++ chsW xs := rfl
    rw [e, chW_eq, flatW, tailJ_append, tailJ_append, tailJ_J (h c (by simp)), ih, tailJ_append, tailJ_append, List.append_assoc]
theorem skyW_ne {d s v : Int} {w c : ByteArray} {b : Int} (hs : skyV d s v w c b = true) (hu : unsaidV d v w c = false) : skyW d s v w c b ≠ [] := by
  have hf := sky_facts hs
  intro hc
  rw [skyW_eq hf.d] at hc
  simp only [List.append_eq_nil_iff] at hc
  obtain ⟨a, b', c', e⟩ := hc
  have hd : d = -1 := by
    apply Classical.byContradiction; intro hd; rw [if_neg hd] at a; cases a
  have hv : v = -1 := by
    unfold visW at b'
    split at b'
    · cases b'
    · have := hf.v; omega
  have hw : w = bs [] := by
    unfold weaW at c'
    split at c'
    · assumption
    · cases c'
  have hcc : c = bs [] := by
    unfold covW at e
    split at e
    · assumption
    · split at e <;> cases e
  rw [hd, hv, hw, hcc] at hu
  exact absurd hu (by decide)
noncomputable def restW (a0 : ByteArray) (a1 vf vt d s v : Int) (w c : ByteArray) (b : Int) (xs : List Ch) : List ByteArray :=
  [a0, bs (dh a1.toNat ++ d2 (a1.toNat % 60)) ++ bs [90], bs (spanT vf.toNat vt.toNat)] ++ (skyW d s v w c b ++ flatW xs)
theorem L_three : L (bs [84, 65, 70]) = [84, 65, 70] := L_bs _
structure TafG (a0 : ByteArray) (a1 vf vt d s v : Int) (w c : ByteArray) (b : Int) (xs : List Ch) : Prop where
  f : TafF a0 a1 vf vt d s v w c b xs
  cen : centreV a0 = true
  f6 : vf % 60 = 0
  ne : skyW d s v w c b ≠ []
  chs : ∀ x ∈ xs, chOk vf vt x = true
  cne : ∀ x ∈ xs, skC x ≠ []
theorem taf_g {a0 : ByteArray} {a1 vf vt d s v : Int} {w c : ByteArray} {b : Int} {xs : List Ch} (h : tafV a0 a1 vf vt d s v w c b xs = true) : TafG a0 a1 vf vt d s v w c b xs := by
  have hf := taf_facts h
  simp only [tafV, Bool.and_eq_true, Bool.not_eq_true', Bool.not_eq_false', decide_eq_false_iff_not, decide_eq_true_eq] at h
  obtain ⟨h1, h2, h3, h4, h5, h6, h7, h8, h9, h10⟩ := h
  have h4' : vf % 60 = 0 := by
    have := hf.f
    rw [Int.tmod_eq_emod_of_nonneg (by omega)] at h4
    exact h4
  have hall := chs_all xs _ _ h10
  refine ⟨hf, h1, h4', ?_, hall, fun x hx => ?_⟩
  · refine skyW_ne hf.sky ?_
    simp only [fullV, Bool.and_eq_true, decide_eq_true_eq] at h8
    simp [unsaidV, h8.2.1]
  · have hc := hall x hx
    simp only [chOk, Bool.and_eq_true, Bool.not_eq_true'] at hc
    exact skyW_ne hc.1 hc.2.1
theorem text_words {a0 : ByteArray} {a1 vf vt d s v : Int} {w c : ByteArray} {b : Int} {xs : List Ch} (h : tafV a0 a1 vf vt d s v w c b xs = true) :
    L (tafT a0 a1 vf vt d s v w c b xs) = ([84, 65, 70] ++ tailJ (restW a0 a1 vf vt d s v w c b xs)) ++ [61] := by
  have hg := taf_g h
  unfold tafT
  rw [if_pos h, L_bs]
  congr 1
  rw [List.cons_append, J_cons, L_three]
  congr 1
  have e : ([a0, bs (dh a1.toNat ++ d2 (a1.toNat % 60)) ++ bs [90], bs (spanT vf.toNat vt.toNat), skyT d s v w c b] ++ chsW xs : List ByteArray) = [a0, bs (dh a1.toNat ++ d2 (a1.toNat % 60)) ++ bs [90], bs (spanT vf.toNat vt.toNat)] ++ ([bs (J (skyW d s v w c b))] ++ chsW xs) := rfl
  rw [e]
  unfold restW
  rw [tailJ_append, tailJ_append, tailJ_J hg.ne, tail_chsW xs hg.cne, ← tailJ_append, ← tailJ_append]
/-! ### no blanks in words -/
theorem nb_up {l : List UInt8} (h : ∀ x ∈ l, (isUp x || isDig x) = true) : (32 : UInt8) ∉ l := fun hm => absurd (h 32 hm) (by decide)
theorem nb_dig {l : List UInt8} (h : l.all isDig = true) : (32 : UInt8) ∉ l := fun hm => by
  have := List.all_eq_true.1 h 32 hm
  exact absurd this (by decide)
theorem nb_app {a b : ByteArray} (ha : (32 : UInt8) ∉ L a) (hb : (32 : UInt8) ∉ L b) : (32 : UInt8) ∉ L (a ++ b) := by
  rw [L_append, List.mem_append]; rintro (h | h); exact ha h; exact hb h
theorem nb_bs {l : List UInt8} (h : (32 : UInt8) ∉ l) : (32 : UInt8) ∉ L (bs l) := by rw [L_bs]; exact h
theorem nb_centre {a0 : ByteArray} (h : centreV a0 = true) : (32 : UInt8) ∉ L a0 := by
  simp only [centreV, Bool.and_eq_true, decide_eq_true_eq] at h
  obtain ⟨_, h1, h2⟩ := h
  rw [← List.take_append_drop 1 (L a0)]
  refine nb_up fun x hx => ?_
  rcases List.mem_append.1 hx with hx | hx
  · have := List.all_eq_true.1 h1 x hx; rw [this]; rfl
  · exact List.all_eq_true.1 h2 x hx
theorem nb_wea {w : ByteArray} (h : weaV w = true) : (32 : UInt8) ∉ L w := by
  unfold weaV at h
  rw [Bool.or_eq_true] at h
  rcases h with h | h
  · rw [of_decide_eq_true h]; decide
  · rw [List.any_eq_true] at h
    obtain ⟨y, hy, he⟩ := h
    rw [of_decide_eq_true he]
    have : ∀ x ∈ L_impl_weathers, (32 : UInt8) ∉ L x := by decide
    exact this y hy
theorem nb_pad {n : Int} {w : Nat} (h0 : 0 ≤ n) (hn : n.toNat < 10 ^ w) (hw : 0 < w) : (32 : UInt8) ∉ L (bs (pad n w)) := nb_bs (nb_dig (pad_facts h0 hn hw).2.1)
theorem nb_sky {d s v : Int} {w c : ByteArray} {b : Int} (hs : skyV d s v w c b = true) : ∀ x ∈ skyW d s v w c b, (32 : UInt8) ∉ L x := by
  have hf := sky_facts hs
  simp only [skyV, Bool.and_eq_true, decide_eq_true_eq] at hs
  obtain ⟨h1, h2, h3, h4⟩ := hs
  intro x hx
  rw [skyW_eq hf.d] at hx
  simp only [List.mem_append] at hx
  rcases hx with hx | hx | hx | hx
  · rcases wind_pos h1 with ⟨a1, a2⟩ | ⟨a1, a2⟩
    · rw [if_pos a1] at hx; cases hx
    · rw [if_neg (show ¬ d = -1 by omega), List.mem_singleton] at hx
      rw [hx]
      unfold windB
      split
      · exact nb_app (nb_app (by decide) (nb_pad a2.1 (by omega) (by omega))) (by decide)
      · exact nb_app (nb_app (nb_pad (by omega) (by omega) (by omega)) (nb_pad a2.1 (by omega) (by omega))) (by decide)
  · unfold visW at hx
    split at hx
    · rw [List.mem_singleton] at hx; rw [hx]; exact nb_pad (by omega) (by omega) (by omega)
    · cases hx
  · unfold weaW at hx
    split at hx
    · cases hx
    · rw [List.mem_singleton] at hx; rw [hx]; exact nb_wea h3
  · unfold covW at hx
    split at hx
    · cases hx
    · rename_i h0
      split at hx
      · rename_i h1; rw [List.mem_singleton] at hx; rw [hx, h1]; decide
      · rename_i h1
        rw [List.mem_singleton] at hx
        rw [hx]
        unfold cloudV at h4
        rw [if_neg (by rintro (a | a); exact h0 a; exact h1 a), Bool.and_eq_true, Bool.and_eq_true] at h4
        have hb := h4.2.2
        have hb1 := h4.2.1
        refine nb_app ?_ (nb_pad (by have := of_decide_eq_true hb1; omega) (by have := of_decide_eq_true hb; omega) (by omega))
        have hm := h4.1
        rw [List.any_eq_true] at hm
        obtain ⟨y, hy, he⟩ := hm
        rw [of_decide_eq_true he]
        have : ∀ x ∈ L_impl_covers, (32 : UInt8) ∉ L x := by decide
        exact this y hy
theorem dayN_lt (d : Nat) : dayN d < 100 := Nat.lt_of_le_of_lt (dayN_le d) (by omega)
theorem dh_dig (t : Nat) : (dh t).all isDig = true := by
  unfold dh
  rw [List.all_append, d2_dig (dayN_lt _), d2_dig (by omega)]; rfl
theorem nb_span (a b : Nat) : (32 : UInt8) ∉ L (bs (spanT a b)) := by
  refine nb_bs ?_
  unfold spanT
  rw [List.mem_append, List.mem_append]
  rintro ((h | h) | h)
  · exact nb_dig (dh_dig a) h
  · exact absurd h (by decide)
  · split at h
    · rw [List.mem_append] at h
      rcases h with h | h
      · exact nb_dig (d2_dig (dayN_lt _)) h
      · exact absurd h (by decide)
    · exact nb_dig (dh_dig b) h
theorem nb_time (t : Nat) : (32 : UInt8) ∉ L (bs (dh t ++ d2 (t % 60))) := by
  refine nb_bs (nb_dig ?_)
  rw [List.all_append, dh_dig, d2_dig (by omega)]; rfl
theorem nb_head (c : Ch) : ∀ x ∈ headC c, (32 : UInt8) ∉ L x := by
  intro x hx
  unfold headC at hx
  split at hx
  · rw [List.mem_singleton] at hx; rw [hx]; exact nb_app (by decide) (nb_time _)
  · simp only [List.mem_cons, List.not_mem_nil, or_false] at hx
    rcases hx with rfl | rfl
    · unfold kindW; split; decide; split <;> decide
    · exact nb_span _ _
theorem nb_flat : ∀ (xs : List Ch), (∀ c ∈ xs, ChF c) → ∀ x ∈ flatW xs, (32 : UInt8) ∉ L x
  | [], _, x, hx => by cases hx
  | c :: xs, h, x, hx => by
    simp only [flatW, List.mem_append] at hx
    rcases hx with hx | hx | hx
    · exact nb_head c x hx
    · exact nb_sky (h c (by simp)).sky x hx
    · exact nb_flat xs (fun d hd => h d (by simp [hd])) x hx
theorem nb_rest {a0 : ByteArray} {a1 vf vt d s v : Int} {w c : ByteArray} {b : Int} {xs : List Ch} (h : TafG a0 a1 vf vt d s v w c b xs) : ∀ x ∈ restW a0 a1 vf vt d s v w c b xs, (32 : UInt8) ∉ L x := by
  intro x hx
  unfold restW at hx
  simp only [List.mem_append, List.mem_cons, List.not_mem_nil, or_false] at hx
  rcases hx with (rfl | rfl | rfl) | hx | hx
  · exact nb_centre h.cen
  · exact nb_app (nb_time _) (by decide)
  · exact nb_span _ _
  · exact nb_sky h.f.sky x hx
  · exact nb_flat xs h.f.all x hx
theorem pieces_of {s : ByteArray} {l : List ByteArray} (h : pc [] (L s) = l.map L) : pieces s (bs [32]) = l := by
  rw [← pieces_pc] at h
  have : ∀ (a b : List ByteArray), a.map L = b.map L → a = b := by
    intro a
    induction a with
    | nil => intro b hb; cases b with
      | nil => rfl
      | cons y b => cases hb
    | cons x a ih => intro b hb; cases b with
      | nil => cases hb
      | cons y b =>
        simp only [List.map_cons, List.cons.injEq] at hb
        rw [L_inj hb.1, ih b hb.2]
  exact this _ _ h
/-- The words of a right forecast's text, the mark at its end left out. -/
theorem words_text {a0 : ByteArray} {a1 vf vt d s v : Int} {w c : ByteArray} {b : Int} {xs : List Ch} (h : tafV a0 a1 vf vt d s v w c b xs = true) :
    (tafT a0 a1 vf vt d s v w c b xs).size = ([84, 65, 70] ++ tailJ (restW a0 a1 vf vt d s v w c b xs) : List UInt8).length + 1 ∧
    pieces ((tafT a0 a1 vf vt d s v w c b xs).extract 0 ((tafT a0 a1 vf vt d s v w c b xs).size - 1)) (bs [32]) = bs [84, 65, 70] :: restW a0 a1 vf vt d s v w c b xs := by
  have ht := text_words h
  have hz : (tafT a0 a1 vf vt d s v w c b xs).size = ([84, 65, 70] ++ tailJ (restW a0 a1 vf vt d s v w c b xs) : List UInt8).length + 1 := by
    rw [← L_length, ht, List.length_append]; rfl
  refine ⟨hz, pieces_of ?_⟩
  have e : L ((tafT a0 a1 vf vt d s v w c b xs).extract 0 ((tafT a0 a1 vf vt d s v w c b xs).size - 1)) = [84, 65, 70] ++ tailJ (restW a0 a1 vf vt d s v w c b xs) := by
    rw [L_extract, ht, hz]
    simp only [List.drop_zero, Nat.sub_zero, Nat.add_sub_cancel]
    exact List.take_left' rfl
  rw [e, pc_tail _ _ (by decide) (nb_rest (taf_g h))]
  rfl
end Go.Proofs.YtondfjckadlabaaGreatDoor.RT

namespace Go.Proofs.YtondfjckadlabaaGreatDoor.RT
open Go Go.Eng Go.Proofs.YtondfjckadlabaaGreatDoor.DT Go.Proofs.YtondfjckadlabaaGreatDoor.NU Go.Proofs.YtondfjckadlabaaGreatDoor.SA Go.Proofs.YtondfjckadlabaaGreatDoor.TT Go.Proofs.YtondfjckadlabaaGreatDoor.EX
/-! ### library functions -/
theorem index_any (c : UInt8) : ∀ (l : List UInt8), (Lib.indexByte l c = -1 ∧ c ∉ l) ∨ ∃ a r, l = a ++ c :: r ∧ c ∉ a ∧ Lib.indexByte l c = (a.length : Int)
  | [] => .inl ⟨rfl, by simp⟩
  | x :: l => by
    by_cases hc : x = c
    · subst hc
      exact .inr ⟨[], l, rfl, by simp, by simp [Lib.indexByte]⟩
    · have hc' : (x == c) = false := by simpa using hc
      rcases index_any c l with ⟨h1, h2⟩ | ⟨a, r, h1, h2, h3⟩
      · exact .inl ⟨by simp [Lib.indexByte, hc', h1], fun hm => by
          rcases List.mem_cons.1 hm with e | e
          · exact hc e.symm
          · exact h2 e⟩
      · refine .inr ⟨x :: a, r, by rw [h1]; rfl, fun hm => ?_, ?_⟩
        · rcases List.mem_cons.1 hm with e | e
          · exact hc e.symm
          · exact h2 e
        · have hne : ¬ Lib.indexByte l c = -1 := by omega
          simp [Lib.indexByte, hc', hne, h3]
theorem dIdx_one (s : ByteArray) (c : UInt8) : dIdx s (bs [c]) = some (Lib.indexByte (L s) c) := by
  unfold dIdx
  rw [if_pos (by rfl)]
  have e : (bs [c]).data.toList.headD 0 = c := rfl
  rw [e]; rfl
theorem cut_some {a r : List UInt8} {c : UInt8} (h : c ∉ a) (hl : (a ++ c :: r).length ≤ 1000000000) : strings_Cut (bs (a ++ c :: r)) (bs [c]) = some (bs a, bs r, true) := by
  rcases index_any c (a ++ c :: r) with ⟨_, h2⟩ | ⟨a', r', h1, h2, h3⟩
  · exact absurd (by simp) h2
  · have ha : a = a' ∧ r = r' := by
      have key : ∀ (a a' r r' : List UInt8), c ∉ a → c ∉ a' → a ++ c :: r = a' ++ c :: r' → a = a' ∧ r = r' := by
        intro a
        induction a with
        | nil =>
          intro a' r r' _ h' he
          cases a' with
          | nil => simp only [List.nil_append, List.cons.injEq, true_and] at he; exact ⟨rfl, he⟩
          | cons y a' =>
            simp only [List.nil_append, List.cons_append, List.cons.injEq] at he
            exact absurd (by rw [he.1]; simp) h'
        | cons x a ih =>
          intro a' r r' h h' he
          cases a' with
          | nil =>
            simp only [List.nil_append, List.cons_append, List.cons.injEq] at he
            exact absurd (by rw [he.1]; simp) h
          | cons y a' =>
            simp only [List.cons_append, List.cons.injEq] at he
            obtain ⟨e1, e2⟩ := ih a' r r' (fun hm => h (by simp [hm])) (fun hm => h' (by simp [hm])) he.2
            exact ⟨by rw [he.1, e1], e2⟩
      exact key a a' r r' h h2 h1
    obtain ⟨rfl, rfl⟩ := ha
    have hz : (bs (a ++ c :: r)).size = a.length + r.length + 1 := by rw [size_bs]; simp; omega
    have hl' : a.length + r.length + 1 ≤ 1000000000 := by rw [← hz, size_bs]; exact hl
    have h1' : (bs [c]).size = 1 := rfl
    unfold strings_Cut internal_stringslite_Cut
    rw [dIdx_one, L_bs, h3]
    simp only [Option.bind_some, h1', hz, show (a.length : Int) ≥ 0 by omega, decide_true, cond_true, show (0 : Int) ≤ (a.length : Int) by omega, show (a.length : Int) ≤ ((a.length + r.length + 1 : Nat) : Int) by omega, Bool.and_self, w64 (n := (a.length : Int) + ((1 : Nat) : Int)) (by omega) (by omega), show (0 : Int) ≤ (a.length : Int) + ((1 : Nat) : Int) by omega, show (a.length : Int) + ((1 : Nat) : Int) ≤ ((a.length + r.length + 1 : Nat) : Int) by omega]
    have t1 : ((a.length : Nat) : Int).toNat = a.length := Int.toNat_natCast _
    have t2 : ((a.length : Int) + ((1 : Nat) : Int)).toNat = a.length + 1 := by omega
    have t3 : ((a.length + r.length + 1 : Nat) : Int).toNat = a.length + r.length + 1 := Int.toNat_natCast _
    have e1 : (bs (a ++ c :: r)).extract 0 a.length = bs a := L_inj (by rw [L_extract, L_bs, L_bs]; simp)
    have e2 : (bs (a ++ c :: r)).extract (a.length + 1) (a.length + r.length + 1) = bs r := L_inj (by
      rw [L_extract, L_bs, L_bs, show a.length + r.length + 1 - (a.length + 1) = r.length by omega]
      rw [show a ++ c :: r = (a ++ [c]) ++ r by simp, show a.length + 1 = (a ++ [c]).length by simp, List.drop_left, List.take_length])
    rw [t1, t2, t3, show Int.toNat 0 = 0 from rfl, e1, e2]
theorem prefix_eq (s p : ByteArray) (hs : s.size ≤ 9223372036854775807) : strings_HasPrefix s p = some (decide (s.size ≥ p.size) && decide (s.extract 0 p.size = p)) := by
  unfold strings_HasPrefix internal_stringslite_HasPrefix
  by_cases h : s.size ≥ p.size
  · simp only [show (s.size : Int) ≥ (p.size : Int) by omega, h, decide_true, cond_true, show (0 : Int) ≤ (p.size : Int) by omega, show (p.size : Int) ≤ (s.size : Int) by omega, Bool.and_self, Option.bind_some, beq_bytes, Bool.true_and, Int.toNat_natCast, show Int.toNat 0 = 0 from rfl]
  · simp only [show ¬ (s.size : Int) ≥ (p.size : Int) by omega, h, decide_false, cond_false, Option.bind_some, Bool.false_and]
theorem suffix_eq (s p : ByteArray) (hs : s.size ≤ 9223372036854775807) : strings_TrimSuffix s p = some (if s.size ≥ p.size ∧ s.extract (s.size - p.size) s.size = p then s.extract 0 (s.size - p.size) else s) := by
  unfold strings_TrimSuffix internal_stringslite_TrimSuffix internal_stringslite_HasSuffix
  by_cases h : s.size ≥ p.size
  · have hw : IntKind.i64.wrap ((s.size : Int) - (p.size : Int)) = ((s.size - p.size : Nat) : Int) := by rw [w64 (by omega) (by omega)]; omega
    simp only [show (s.size : Int) ≥ (p.size : Int) by omega, decide_true, cond_true, hw, show (0 : Int) ≤ ((s.size - p.size : Nat) : Int) by omega, show ((s.size - p.size : Nat) : Int) ≤ (s.size : Int) by omega, Bool.and_self, Option.bind_some, beq_bytes, Int.toNat_natCast, show Int.toNat 0 = 0 from rfl]
    by_cases hp : s.extract (s.size - p.size) s.size = p
    · rw [if_pos ⟨h, hp⟩]; simp only [hp, decide_true, cond_true, Option.bind_some]
    · rw [if_neg (fun hc => hp hc.2)]; simp only [hp, decide_false, cond_false, Option.bind_some]
  · rw [if_neg (fun hc => h hc.1)]
    simp only [show ¬ (s.size : Int) ≥ (p.size : Int) by omega, decide_false, cond_false, Option.bind_some]
def idx3 (v : ByteArray) : Int := if v = bs [66, 69, 67, 77, 71] then 0 else if v = bs [84, 69, 77, 80, 79] then 1 else if v = bs [80, 82, 79, 66, 51, 48] then 2 else -1
theorem index3 (v : ByteArray) : slices_Index_Lstring_string [bs [66, 69, 67, 77, 71], bs [84, 69, 77, 80, 79], bs [80, 82, 79, 66, 51, 48]] v = some (idx3 v) := by
  refine evF_eq ?_
  unfold slices_Index_Lstring_string_F idx3
  have hl : ((([bs [66, 69, 67, 77, 71], bs [84, 69, 77, 80, 79], bs [80, 82, 79, 66, 51, 48]] : List ByteArray).length : Nat) : Int) = 3 := rfl
  have r0 : rd Kind.str [bs [66, 69, 67, 77, 71], bs [84, 69, 77, 80, 79], bs [80, 82, 79, 66, 51, 48]] 0 = bs [66, 69, 67, 77, 71] := rfl
  have r1 : rd Kind.str [bs [66, 69, 67, 77, 71], bs [84, 69, 77, 80, 79], bs [80, 82, 79, 66, 51, 48]] 1 = bs [84, 69, 77, 80, 79] := rfl
  have r2 : rd Kind.str [bs [66, 69, 67, 77, 71], bs [84, 69, 77, 80, 79], bs [80, 82, 79, 66, 51, 48]] 2 = bs [80, 82, 79, 66, 51, 48] := rfl
  apply ev_succ
  simp only [slices_Index_Lstring_string_L2, hl, r0, beq_bytes, show (0 : Int) < 3 by omega, decide_true, cond_true, show IntKind.i64.wrap (0 + 1) = 1 from rfl]
  by_cases h0 : v = bs [66, 69, 67, 77, 71]
  · rw [if_pos h0]; simp only [h0, decide_true, cond_true]; exact ev_now _
  · rw [if_neg h0]
    simp only [h0, decide_false, cond_false]
    apply ev_succ
    simp only [slices_Index_Lstring_string_L2, hl, r1, beq_bytes, show (1 : Int) < 3 by omega, decide_true, cond_true, show IntKind.i64.wrap (1 + 1) = 2 from rfl]
    by_cases h1 : v = bs [84, 69, 77, 80, 79]
    · rw [if_pos h1]; simp only [h1, decide_true, cond_true]; exact ev_now _
    · rw [if_neg h1]
      simp only [h1, decide_false, cond_false]
      apply ev_succ
      simp only [slices_Index_Lstring_string_L2, hl, r2, beq_bytes, show (2 : Int) < 3 by omega, decide_true, cond_true, show IntKind.i64.wrap (2 + 1) = 3 from rfl]
      by_cases h2 : v = bs [80, 82, 79, 66, 51, 48]
      · rw [if_pos h2]; simp only [h2, decide_true, cond_true]; exact ev_now _
      · rw [if_neg h2]
        simp only [h2, decide_false, cond_false]
        apply ev_succ
        simp only [slices_Index_Lstring_string_L2, hl, show ¬ (3 : Int) < 3 by omega, decide_false, cond_false]
        exact ev_now _
/-! ### spans -/
/-- A span's times, found again near R. -/
noncomputable def nS (a b : Nat) (R : Int) : (Int × Bool) × (Int × Bool) :=
  (ndV (dayN (a / 1440)) ((a / 60 % 24 : Nat) : Int) 0 R, if b % 1440 = 0 then ndV (dayN (b / 1440 - 1)) ((24 : Nat) : Int) 0 R else ndV (dayN (b / 1440)) ((b / 60 % 24 : Nat) : Int) 0 R)
theorem span_parts (a b : Nat) : ∃ x y : Nat, x < 100 ∧ y < 100 ∧ spanT a b = (d2 (dayN (a / 1440)) ++ d2 (a / 60 % 24)) ++ 47 :: (d2 x ++ d2 y) ∧ ∀ R : Int, (nS a b R).2 = ndV x y 0 R := by
  by_cases h : b % 1440 = 0
  · refine ⟨dayN (b / 1440 - 1), 24, dayN_lt _, by omega, ?_, fun R => ?_⟩
    · unfold spanT dh; rw [if_pos h]; simp [d2]
    · unfold nS; rw [if_pos h]
  · refine ⟨dayN (b / 1440), b / 60 % 24, dayN_lt _, by omega, ?_, fun R => ?_⟩
    · unfold spanT dh; rw [if_neg h]; simp
    · unfold nS; rw [if_neg h]
theorem d2_no47 {n : Nat} (h : n < 100) : (47 : UInt8) ∉ d2 n := fun hm => absurd (List.all_eq_true.1 (d2_dig h) 47 hm) (by decide)
theorem impl_span (a b : Nat) (R : Int) : impl_nearSpan (bs (spanT a b)) R = some ((nS a b R).1.1, (nS a b R).2.1, (nS a b R).1.2 && (nS a b R).2.2) := by
  obtain ⟨x, y, hx, hy, e, hn⟩ := span_parts a b
  unfold impl_nearSpan
  have hc := cut_some (a := d2 (dayN (a / 1440)) ++ d2 (a / 60 % 24)) (r := d2 x ++ d2 y) (c := 47) (by
    rw [List.mem_append]; rintro (h | h)
    · exact d2_no47 (dayN_lt _) h
    · exact d2_no47 (by omega) h) (by simp [d2])
  have z1 : (((bs (d2 (dayN (a / 1440)) ++ d2 (a / 60 % 24))).size : Nat) : Int) = 4 := rfl
  have z2 : (((bs (d2 x ++ d2 y)).size : Nat) : Int) = 4 := rfl
  rw [e, hc, Option.bind_some]
  simp only [Bool.not_true, cond_false, z1, z2, bneI, decide_true, impl_near4 (dayN_lt (a / 1440)) (show a / 60 % 24 < 100 by omega), impl_near4 hx hy, Option.bind_some]
  rw [← hn R]
  have e1 : (nS a b R).1 = ndV (dayN (a / 1440)) ((a / 60 % 24 : Nat) : Int) 0 R := rfl
  rw [← e1]
  cases (nS a b R).1.2 <;> rfl
end Go.Proofs.YtondfjckadlabaaGreatDoor.RT

namespace Go.Proofs.YtondfjckadlabaaGreatDoor.RT
open Go Go.Eng Go.Proofs.YtondfjckadlabaaGreatDoor.DT Go.Proofs.YtondfjckadlabaaGreatDoor.NU Go.Proofs.YtondfjckadlabaaGreatDoor.SA Go.Proofs.YtondfjckadlabaaGreatDoor.TT Go.Proofs.YtondfjckadlabaaGreatDoor.EX
/-! ### the program reads a forecast -/
abbrev TafI : Type := ByteArray × Int × Int × Int × Int × Int × Int × ByteArray × ByteArray × Int × Bool × List Ch
def noI : TafI := (bs [], 0, 0, 0, 0, 0, 0, bs [], bs [], 0, false, [])
noncomputable def finI (text c0 : ByteArray) (R vf vt d s v : Int) (w c : ByteArray) (b : Int) (xs : List Ch) : TafI :=
  if tafV c0 R vf vt d s v w c b xs = true ∧ tafT c0 R vf vt d s v w c b xs = text then (c0, R, vf, vt, d, s, v, w, c, b, true, xs) else noI
/-- A change's times, found again near R. -/
noncomputable def renC (R : Int) (x : Ch) : Ch × Bool :=
  if x.1 = 1 then ((1, (ndV (dayN (x.2.1.toNat / 1440)) ((x.2.1.toNat / 60 % 24 : Nat) : Int) ((x.2.1.toNat % 60 : Nat) : Int) R).1, 0, x.2.2.2), (ndV (dayN (x.2.1.toNat / 1440)) ((x.2.1.toNat / 60 % 24 : Nat) : Int) ((x.2.1.toNat % 60 : Nat) : Int) R).2)
  else ((x.1, (nS x.2.1.toNat x.2.2.1.toNat R).1.1, (nS x.2.1.toNat x.2.2.1.toNat R).2.1, x.2.2.2), (nS x.2.1.toNat x.2.2.1.toNat R).1.2 && (nS x.2.1.toNat x.2.2.1.toNat R).2.2)
theorem mb88 : maxBytes / 88 = 1599289640401 := by decide
theorem fm_size (t : Nat) : (bs [70, 77] ++ bs (dh t ++ d2 (t % 60))).size = 8 := rfl
theorem kind_stop (k : Int) : StopF (kindW k) ∧ (kindW k).size ≤ 1000 := by
  unfold kindW
  split
  · exact ⟨stop_big (.inl (by decide)), by decide⟩
  · split
    · exact ⟨stop_big (.inl (by decide)), by decide⟩
    · exact ⟨stop_prob, by decide⟩
theorem flat_cons (c : Ch) (xs : List Ch) : flatW (c :: xs) = headC c ++ (skC c ++ flatW xs) := rfl
theorem rest_flat (xs : List Ch) : RestF (flatW xs) := by
  cases xs with
  | nil => exact .inl rfl
  | cons c xs =>
    right
    unfold flatW headC
    split
    · exact ⟨_, _, rfl, stop_big (.inr (by rw [fm_size]; omega)), by rw [fm_size]; omega⟩
    · exact ⟨_, _, rfl, (kind_stop _).1, (kind_stop _).2⟩
theorem fm_ext (t : Nat) : (bs [70, 77] ++ bs (dh t ++ d2 (t % 60))).extract 0 2 = bs [70, 77] ∧ (bs [70, 77] ++ bs (dh t ++ d2 (t % 60))).extract 2 8 = bs (d2 (dayN (t / 1440)) ++ d2 (t / 60 % 24) ++ d2 (t % 60)) :=
  ⟨L_inj (by rw [L_extract, L_append, L_bs]; rfl), L_inj (by rw [L_extract, L_append, L_bs]; rfl)⟩
theorem fm_near (t : Nat) (R : Int) : impl_near ((bs [70, 77] ++ bs (dh t ++ d2 (t % 60))).extract 2 8) R = some (ndV (dayN (t / 1440)) ((t / 60 % 24 : Nat) : Int) ((t % 60 : Nat) : Int) R) := by
  rw [(fm_ext t).2, impl_near6 (dayN_lt _) (by omega) (by omega)]
theorem kind_prefix (k : Int) : (decide ((kindW k).size ≥ (bs [70, 77]).size) && decide ((kindW k).extract 0 (bs [70, 77]).size = bs [70, 77])) = false := by
  unfold kindW
  split
  · decide
  · split <;> decide
theorem kind_idx {k : Int} (h : k = 2 ∨ k = 3 ∨ k = 4) : idx3 (kindW k) = k - 2 := by rcases h with rfl | rfl | rfl <;> rfl
section
variable (text y0 : ByteArray) (y1 y2 y3 y4 y5 y6 : Int) (y7 y8 : ByteArray) (y9 : Int) (ys : List Ch) (c0 : ByteArray) (R vf vt d s v : Int) (w c : ByteArray) (b : Int)
noncomputable abbrev lpI (k : Nat) (ws : List ByteArray) (acc : List Ch) := impl_ReadTaf_L13 k text ws y0 y1 y2 y3 y4 y5 y6 y7 y8 y9 ys c0 R vf vt d s v w c b acc
theorem endI (acc : List Ch) : Ev (fun k => lpI text y0 y1 y2 y3 y4 y5 y6 y7 y8 y9 ys c0 R vf vt d s v w c b k [] acc) (finI text c0 R vf vt d s v w c b acc) := by
  apply ev_succ
  unfold finI
  simp only [lpI, impl_ReadTaf_L13, List.length_nil, show ¬ ((0 : Nat) : Int) > 0 by omega, decide_false, cond_false, impl_TafOk_eq, impl_TafText_eq, Option.bind_some, beq_bytes]
  cases h1 : tafV c0 R vf vt d s v w c b acc with
  | false => rw [if_neg (fun hc => by cases hc.1)]; exact ev_now _
  | true =>
    by_cases h2 : tafT c0 R vf vt d s v w c b acc = text
    · rw [if_pos ⟨rfl, h2⟩]; simp only [h2, decide_true, Bool.not_true, cond_false]; exact ev_now _
    · rw [if_neg (fun hc => h2 hc.2)]; simp only [h2, decide_false, Bool.not_true, Bool.not_false, cond_false, cond_true]; exact ev_now _
theorem loopI : ∀ (xs acc : List Ch), (∀ x ∈ xs, ChF x) → acc.length + xs.length ≤ 10 →
    Ev (fun k => lpI text y0 y1 y2 y3 y4 y5 y6 y7 y8 y9 ys c0 R vf vt d s v w c b k (flatW xs) acc) (if (xs.all fun x => (renC R x).2) = true then finI text c0 R vf vt d s v w c b (acc ++ xs.map fun x => (renC R x).1) else noI)
  | [], acc, _, _ => by
    simp only [List.all_nil, if_true, List.map_nil, List.append_nil]
    exact endI text y0 y1 y2 y3 y4 y5 y6 y7 y8 y9 ys c0 R vf vt d s v w c b acc
  | x :: xs, acc, hx, hlen => by
    have hcf := hx x (by simp)
    have hlen' : acc.length + xs.length + 1 ≤ 10 := by simp only [List.length_cons] at hlen; omega
    have ih := fun (z : Ch) => loopI xs (acc ++ [z]) (fun y hy => hx y (by simp [hy])) (by simp; omega)
    have hsky := takeSky_eq hcf.sky (rest_flat xs)
    have hcap : decide (acc.length + 1 ≤ maxBytes / 88) = true := by rw [mb88]; simp; omega
    have hten : ∀ z : Ch, decide ((((acc ++ [z]).length : Nat) : Int) > 10) = false := fun z => by simp; omega
    apply ev_succ
    by_cases h1 : x.1 = 1
    · have ef : flatW (x :: xs) = (bs [70, 77] ++ bs (dh x.2.1.toNat ++ d2 (x.2.1.toNat % 60))) :: (skC x ++ flatW xs) := by
        rw [flat_cons]; unfold headC; rw [if_pos h1]; rfl
      have er : renC R x = ((1, (ndV (dayN (x.2.1.toNat / 1440)) ((x.2.1.toNat / 60 % 24 : Nat) : Int) ((x.2.1.toNat % 60 : Nat) : Int) R).1, 0, x.2.2.2), (ndV (dayN (x.2.1.toNat / 1440)) ((x.2.1.toNat / 60 % 24 : Nat) : Int) ((x.2.1.toNat % 60 : Nat) : Int) R).2) := by
        unfold renC; rw [if_pos h1]
      rw [ef]
      generalize hq : skC x ++ flatW xs = q
      have hsk : impl_takeSky q = some (x.2.2.2.1, x.2.2.2.2.1, x.2.2.2.2.2.1, x.2.2.2.2.2.2.1, x.2.2.2.2.2.2.2.1, x.2.2.2.2.2.2.2.2, flatW xs) := by rw [← hq]; exact hsky
      generalize hfm : bs [70, 77] ++ bs (dh x.2.1.toNat ++ d2 (x.2.1.toNat % 60)) = fm
      have hz : (fm.size : Int) = 8 := by rw [← hfm]; rfl
      have hpre : strings_HasPrefix fm (bs [70, 77]) = some true := by
        rw [prefix_eq _ _ (by omega), ← hfm, show (bs [70, 77]).size = 2 from rfl, (fm_ext _).1, fm_size]; rfl
      have hnear := fm_near x.2.1.toNat R
      rw [hfm] at hnear
      have hrd : rd Kind.str (fm :: q) 0 = fm := rfl
      have hl0 : (((fm :: q).length : Nat) : Int) > 0 := by simp only [List.length_cons]; omega
      have hdrop : List.drop (Int.toNat 1) (List.take (((fm :: q).length : Nat) : Int).toNat (fm :: q)) = q := by rw [Int.toNat_natCast, List.take_length]; rfl
      simp only [lpI, impl_ReadTaf_L13, hl0, hrd, hpre, hz, show Int.toNat 2 = 2 from rfl, show Int.toNat 8 = 8 from rfl, hnear, hdrop, hsk, decide_true, cond_true, Option.bind_some, show (0 : Int) < (((fm :: q).length : Nat) : Int) by omega, show (1 : Int) ≤ (((fm :: q).length : Nat) : Int) by omega, show (2 : Int) ≤ 8 by omega]
      generalize ndV (dayN (x.2.1.toNat / 1440)) ((x.2.1.toNat / 60 % 24 : Nat) : Int) ((x.2.1.toNat % 60 : Nat) : Int) R = nd at er ⊢
      cases hok : nd.2 with
      | false =>
        have : ((x :: xs).all fun x => (renC R x).2) = false := by simp only [List.all_cons, er, hok, Bool.false_and]
        rw [this]
        exact ev_now _
      | true =>
        have e1 : ((x :: xs).all fun x => (renC R x).2) = xs.all fun x => (renC R x).2 := by simp only [List.all_cons, er, hok, Bool.true_and]
        have e2 : acc ++ (x :: xs).map (fun x => (renC R x).1) = (acc ++ [(1, nd.1, 0, x.2.2.2)]) ++ xs.map fun x => (renC R x).1 := by simp only [List.map_cons, er, List.append_assoc, List.cons_append, List.nil_append]
        rw [e1, e2]
        have := ih (1, nd.1, 0, x.2.2.2)
        have c2 := hten (1, nd.1, 0, x.2.2.2.1, x.2.2.2.2.1, x.2.2.2.2.2.1, x.2.2.2.2.2.2.1, x.2.2.2.2.2.2.2.1, x.2.2.2.2.2.2.2.2)
        simp only [Bool.not_true, cond_false]
        simp only [List.length_singleton, hcap, c2, cond_true, cond_false]
        exact this
    · have hk : x.1 = 2 ∨ x.1 = 3 ∨ x.1 = 4 := by
        rcases hcf.kind with h | h
        · exact absurd h h1
        · exact h.1
      have ef : flatW (x :: xs) = kindW x.1 :: bs (spanT x.2.1.toNat x.2.2.1.toNat) :: (skC x ++ flatW xs) := by
        rw [flat_cons]; unfold headC; rw [if_neg h1]; rfl
      have er : renC R x = ((x.1, (nS x.2.1.toNat x.2.2.1.toNat R).1.1, (nS x.2.1.toNat x.2.2.1.toNat R).2.1, x.2.2.2), (nS x.2.1.toNat x.2.2.1.toNat R).1.2 && (nS x.2.1.toNat x.2.2.1.toNat R).2.2) := by
        unfold renC; rw [if_neg h1]
      rw [ef]
      generalize hq : skC x ++ flatW xs = q
      have hsk : impl_takeSky q = some (x.2.2.2.1, x.2.2.2.2.1, x.2.2.2.2.2.1, x.2.2.2.2.2.2.1, x.2.2.2.2.2.2.2.1, x.2.2.2.2.2.2.2.2, flatW xs) := by rw [← hq]; exact hsky
      have hspan := impl_span x.2.1.toNat x.2.2.1.toNat R
      generalize hkw : kindW x.1 = kw
      generalize hsw : bs (spanT x.2.1.toNat x.2.2.1.toNat) = sw at hspan
      have hpre : strings_HasPrefix kw (bs [70, 77]) = some false := by
        rw [← hkw, prefix_eq _ _ (by have := (kind_stop x.1).2; omega), kind_prefix]
      have hidx : slices_Index_Lstring_string (List.drop (Int.toNat 2) (List.take (Int.toNat 5) [bs [], bs [], bs [66, 69, 67, 77, 71], bs [84, 69, 77, 80, 79], bs [80, 82, 79, 66, 51, 48]])) kw = some (x.1 - 2) := by
        have : List.drop (Int.toNat 2) (List.take (Int.toNat 5) [bs [], bs [], bs [66, 69, 67, 77, 71], bs [84, 69, 77, 80, 79], bs [80, 82, 79, 66, 51, 48]]) = [bs [66, 69, 67, 77, 71], bs [84, 69, 77, 80, 79], bs [80, 82, 79, 66, 51, 48]] := rfl
        rw [this, index3, ← hkw, kind_idx hk]
      have hrd : rd Kind.str (kw :: sw :: q) 0 = kw := rfl
      have hrd1 : rd Kind.str (kw :: sw :: q) 1 = sw := rfl
      have hl0 : (((kw :: sw :: q).length : Nat) : Int) ≥ 2 := by simp only [List.length_cons]; omega
      have hdrop : List.drop (Int.toNat 2) (List.take (((kw :: sw :: q).length : Nat) : Int).toNat (kw :: sw :: q)) = q := by rw [Int.toNat_natCast, List.take_length]; rfl
      have hw2 : IntKind.i64.wrap (x.1 - 2 + 2) = x.1 := by rw [w64 (by omega) (by omega)]; omega
      simp only [lpI, impl_ReadTaf_L13, hrd, hrd1, hpre, hidx, hw2, hspan, hdrop, hsk, decide_true, cond_true, cond_false, Option.bind_some, show (((kw :: sw :: q).length : Nat) : Int) > 0 by omega, show (0 : Int) < (((kw :: sw :: q).length : Nat) : Int) by omega, show (1 : Int) < (((kw :: sw :: q).length : Nat) : Int) by omega, show ¬ (((kw :: sw :: q).length : Nat) : Int) < 2 by omega, show (2 : Int) ≤ (((kw :: sw :: q).length : Nat) : Int) by omega, show ¬ x.1 < 2 by omega, decide_false]
      generalize nS x.2.1.toNat x.2.2.1.toNat R = nd at er ⊢
      cases hok : (nd.1.2 && nd.2.2) with
      | false =>
        have : ((x :: xs).all fun x => (renC R x).2) = false := by simp only [List.all_cons, er, hok, Bool.false_and]
        rw [this]
        exact ev_now _
      | true =>
        have e1 : ((x :: xs).all fun x => (renC R x).2) = xs.all fun x => (renC R x).2 := by simp only [List.all_cons, er, hok, Bool.true_and]
        have e2 : acc ++ (x :: xs).map (fun x => (renC R x).1) = (acc ++ [(x.1, nd.1.1, nd.2.1, x.2.2.2)]) ++ xs.map fun x => (renC R x).1 := by simp only [List.map_cons, er, List.append_assoc, List.cons_append, List.nil_append]
        rw [e1, e2]
        have := ih (x.1, nd.1.1, nd.2.1, x.2.2.2)
        have c2 := hten (x.1, nd.1.1, nd.2.1, x.2.2.2.1, x.2.2.2.2.1, x.2.2.2.2.2.1, x.2.2.2.2.2.2.1, x.2.2.2.2.2.2.2.1, x.2.2.2.2.2.2.2.2)
        simp only [Bool.not_true, cond_false]
        simp only [List.length_singleton, hcap, c2, cond_true, cond_false]
        exact this
end
end Go.Proofs.YtondfjckadlabaaGreatDoor.RT

namespace Go.Proofs.YtondfjckadlabaaGreatDoor.RT
open Go Go.Eng Go.Proofs.YtondfjckadlabaaGreatDoor.DT Go.Proofs.YtondfjckadlabaaGreatDoor.NU Go.Proofs.YtondfjckadlabaaGreatDoor.SA Go.Proofs.YtondfjckadlabaaGreatDoor.TT Go.Proofs.YtondfjckadlabaaGreatDoor.EX
/-! ### the program always answers -/
section
variable (text y0 : ByteArray) (y1 y2 y3 y4 y5 y6 : Int) (y7 y8 : ByteArray) (y9 : Int) (ys : List Ch) (c0 : ByteArray) (R vf vt d s v : Int) (w c : ByteArray) (b : Int)
end
end Go.Proofs.YtondfjckadlabaaGreatDoor.RT

namespace Go.Proofs.YtondfjckadlabaaGreatDoor.RT
open Go Go.Eng Go.Proofs.YtondfjckadlabaaGreatDoor.DT Go.Proofs.YtondfjckadlabaaGreatDoor.NU Go.Proofs.YtondfjckadlabaaGreatDoor.SA Go.Proofs.YtondfjckadlabaaGreatDoor.TT Go.Proofs.YtondfjckadlabaaGreatDoor.EX
theorem split_eq {s : ByteArray} (hs : s.size ≤ 1000000000) : dSplit s (bs [32]) = some (pieces s (bs [32])) := by
  unfold dSplit
  rw [show (bs [32]).size = 1 from rfl]
  simp only [show s.size < 4294967281 by omega, decide_true, Bool.and_self, cond_true]
noncomputable def issV (a1 ref : Int) : Int × Bool := ndV (dayN (a1.toNat / 1440)) ((a1.toNat / 60 % 24 : Nat) : Int) ((a1.toNat % 60 : Nat) : Int) ref
noncomputable def okV (a1 vf vt : Int) (xs : List Ch) (ref : Int) : Bool :=
  (issV a1 ref).2 && (((nS vf.toNat vt.toNat (issV a1 ref).1).1.2 && (nS vf.toNat vt.toNat (issV a1 ref).1).2.2) && xs.all fun x => (renC (issV a1 ref).1 x).2)
/-- What is read of a right forecast's text. -/
noncomputable def rdI (a0 : ByteArray) (a1 vf vt d s v : Int) (w c : ByteArray) (b : Int) (xs : List Ch) (ref : Int) : TafI :=
  if okV a1 vf vt xs ref = true then finI (tafT a0 a1 vf vt d s v w c b xs) a0 (issV a1 ref).1 (nS vf.toNat vt.toNat (issV a1 ref).1).1.1 (nS vf.toNat vt.toNat (issV a1 ref).1).2.1 d s v w c b (xs.map fun x => (renC (issV a1 ref).1 x).1) else noI
theorem iss_word (a1 : Int) : ((bs (dh a1.toNat ++ d2 (a1.toNat % 60)) ++ bs [90]).size = 7) ∧ (bs (dh a1.toNat ++ d2 (a1.toNat % 60)) ++ bs [90]).extract 0 6 = bs (d2 (dayN (a1.toNat / 1440)) ++ d2 (a1.toNat / 60 % 24) ++ d2 (a1.toNat % 60)) :=
  ⟨rfl, L_inj (by rw [L_extract, L_append, L_bs]; rfl)⟩
theorem last_eq (l : List UInt8) (s : ByteArray) (h : L s = l ++ [61]) : s.size = l.length + 1 ∧ s.extract (s.size - 1) s.size = bs [61] := by
  have hz : s.size = l.length + 1 := by rw [← L_length, h]; simp
  refine ⟨hz, L_inj ?_⟩
  rw [L_extract, h, hz, L_bs, Nat.add_sub_cancel, List.drop_left]
  simp
theorem read_impl {a0 : ByteArray} {a1 vf vt d s v : Int} {w c : ByteArray} {b : Int} {xs : List Ch} (h : tafV a0 a1 vf vt d s v w c b xs = true) (hsz : (tafT a0 a1 vf vt d s v w c b xs).size ≤ 1048576) (ref : Int) :
    impl_ReadTaf (tafT a0 a1 vf vt d s v w c b xs) ref = some (rdI a0 a1 vf vt d s v w c b xs ref) := by
  obtain ⟨hz, hp⟩ := words_text h
  have hg := taf_g h
  have htx := text_words h
  obtain ⟨z1, z2⟩ := last_eq _ _ htx
  unfold rdI
  generalize htext : tafT a0 a1 vf vt d s v w c b xs = text at *
  refine evF_eq ?_
  unfold impl_ReadTaf_F
  have hsuf : strings_TrimSuffix text (bs [61]) = some (text.extract 0 (text.size - 1)) := by
    rw [suffix_eq _ _ (by omega), show (bs [61]).size = 1 from rfl, if_pos ⟨by omega, z2⟩]
  have hsp := split_eq (s := text.extract 0 (text.size - 1)) (by rw [size_extract]; omega)
  have hsky := takeSky_eq hg.f.sky (rest_flat xs)
  simp only [hsuf, Option.bind_some, hsp, hp]
  unfold restW
  simp only [List.cons_append, List.nil_append]
  generalize hq : skyW d s v w c b ++ flatW xs = q at *
  obtain ⟨i1, i2⟩ := iss_word a1
  have hnear := impl_near6 (dayN_lt (a1.toNat / 1440)) (show a1.toNat / 60 % 24 < 100 by omega) (show a1.toNat % 60 < 100 by omega) ref
  rw [← i2] at hnear
  generalize hiw : bs (dh a1.toNat ++ d2 (a1.toNat % 60)) ++ bs [90] = iw at *
  have hqne : 1 ≤ q.length := by
    rw [← hq, List.length_append]
    have := List.length_pos_iff.2 hg.ne
    omega
  have hl : (((bs [84, 65, 70] :: a0 :: iw :: bs (spanT vf.toNat vt.toNat) :: q).length : Nat) : Int) = (q.length : Int) + 4 := by simp only [List.length_cons]; omega
  have r1 : rd Kind.str (bs [84, 65, 70] :: a0 :: iw :: bs (spanT vf.toNat vt.toNat) :: q) 1 = a0 := rfl
  have r2 : rd Kind.str (bs [84, 65, 70] :: a0 :: iw :: bs (spanT vf.toNat vt.toNat) :: q) 2 = iw := rfl
  have r3 : rd Kind.str (bs [84, 65, 70] :: a0 :: iw :: bs (spanT vf.toNat vt.toNat) :: q) 3 = bs (spanT vf.toNat vt.toNat) := rfl
  have hI : (iw.size : Int) = 7 := by omega
  have hdrop : List.drop (Int.toNat 4) (List.take (((bs [84, 65, 70] :: a0 :: iw :: bs (spanT vf.toNat vt.toNat) :: q).length : Nat) : Int).toNat (bs [84, 65, 70] :: a0 :: iw :: bs (spanT vf.toNat vt.toNat) :: q)) = q := by rw [Int.toNat_natCast, List.take_length]; rfl
  simp only [hdrop]
  generalize hiss : issV a1 ref = iss
  have hnear' : impl_near (iw.extract 0 6) ref = some iss := by rw [hnear, ← hiss]; rfl
  have hspan := impl_span vf.toNat vt.toNat iss.1
  simp only [hl, r1, r2, r3, hI, bneI, decide_true, Bool.not_true, cond_false, cond_true, show ¬ ((q.length : Int) + 4 < 5) by omega, decide_false, show (1 : Int) < (q.length : Int) + 4 by omega, show (2 : Int) < (q.length : Int) + 4 by omega, show (3 : Int) < (q.length : Int) + 4 by omega, show (4 : Int) ≤ (q.length : Int) + 4 by omega, show (6 : Int) ≤ 7 by omega, show Int.toNat 0 = 0 from rfl, show Int.toNat 6 = 6 from rfl, hnear', hspan, Option.bind_some, hsky, tkR]
  unfold okV
  rw [hiss]
  cases h1 : iss.2 with
  | false => rw [if_neg (by simp)]; exact ev_now _
  | true =>
    cases h2 : ((nS vf.toNat vt.toNat iss.1).1.2 && (nS vf.toNat vt.toNat iss.1).2.2) with
    | false => rw [if_neg (by simp)]; exact ev_now _
    | true =>
      have := loopI text (bs []) 0 0 0 0 0 0 (bs []) (bs []) 0 [] a0 iss.1 (nS vf.toNat vt.toNat iss.1).1.1 (nS vf.toNat vt.toNat iss.1).2.1 d s v w c b xs [] hg.f.all (by simp only [List.length_nil, Nat.zero_add]; exact hg.f.len)
      simp only [List.nil_append] at this
      simp only [Bool.true_and, Bool.not_true, cond_false]
      exact this
end Go.Proofs.YtondfjckadlabaaGreatDoor.RT

namespace Go.Proofs.YtondfjckadlabaaGreatDoor.RT
open Go Go.Eng Go.Proofs.YtondfjckadlabaaGreatDoor.DT Go.Proofs.YtondfjckadlabaaGreatDoor.NU Go.Proofs.YtondfjckadlabaaGreatDoor.SA Go.Proofs.YtondfjckadlabaaGreatDoor.TT Go.Proofs.YtondfjckadlabaaGreatDoor.EX
/-! ### the reference reads a forecast -/
section
variable (text : ByteArray) (ht : ¬ text = bs []) (c0 : ByteArray) (R vf vt d s v : Int) (w c : ByteArray) (b : Int) (ws : List ByteArray) (hl : ws.length ≤ 1048577)
noncomputable abbrev lpS (k : Nat) (n : Nat) (bad : Bool) (acc : List Ch) := spec_ReadTaf_L14 k text (bs []) 0 0 0 0 0 0 (bs []) (bs []) 0 [] (bs []) 0 0 0 0 0 0 (bs []) (bs []) 0 [] ws (n : Int) R bad c0 R vf vt d s v w c b acc
include ht in
end
end Go.Proofs.YtondfjckadlabaaGreatDoor.RT

namespace Go.Proofs.YtondfjckadlabaaGreatDoor.RT
open Go Go.Eng Go.Proofs.YtondfjckadlabaaGreatDoor.DT Go.Proofs.YtondfjckadlabaaGreatDoor.NU Go.Proofs.YtondfjckadlabaaGreatDoor.SA Go.Proofs.YtondfjckadlabaaGreatDoor.TT Go.Proofs.YtondfjckadlabaaGreatDoor.EX
/-! ### a right forecast's text is short -/
theorem tail_len : ∀ (ws : List ByteArray) (k : Nat), (∀ x ∈ ws, x.size ≤ k) → (tailJ ws).length ≤ (k + 1) * ws.length
  | [], k, _ => by simp [tailJ_nil]
  | x :: r, k, h => by
    have h1 := h x (by simp)
    have h2 := tail_len r k fun y hy => h y (by simp [hy])
    rw [tailJ_cons, List.length_cons, List.length_append, L_length, List.length_cons, Nat.mul_succ]
    omega
theorem sky_len {d s v : Int} {w c : ByteArray} {b : Int} (hs : skyV d s v w c b = true) : (tailJ (skyW d s v w c b)).length ≤ 32 := by
  have hf := sky_facts hs
  have hs' := hs
  simp only [skyV, Bool.and_eq_true, decide_eq_true_eq] at hs
  obtain ⟨h1, h2, h3, h4⟩ := hs
  have hall : ∀ x ∈ skyW d s v w c b, x.size ≤ 7 := by
    intro x hx
    rw [skyW_eq hf.d] at hx
    simp only [List.mem_append] at hx
    rcases hx with hx | hx | hx | hx
    · rcases wind_pos h1 with ⟨a1, a2⟩ | ⟨a1, a2⟩
      · rw [if_pos a1] at hx; cases hx
      · rw [if_neg (show ¬ d = -1 by omega), List.mem_singleton] at hx
        rw [hx, (wind_facts a1 a2).size]; omega
    · unfold visW at hx
      split at hx
      · rw [List.mem_singleton] at hx; rw [hx, (vis_facts (by omega)).size]; omega
      · cases hx
    · unfold weaW at hx
      split at hx
      · cases hx
      · rename_i h0
        rw [List.mem_singleton] at hx
        rw [hx]
        unfold weaV at h3
        rw [Bool.or_eq_true] at h3
        have := (wea_facts (h3.resolve_left (fun hc => h0 (of_decide_eq_true hc)))).size
        omega
    · unfold covW at hx
      split at hx
      · cases hx
      · rename_i h0
        split at hx
        · rename_i h1'; rw [List.mem_singleton] at hx; rw [hx, h1']; decide
        · rename_i h1'
          rw [List.mem_singleton] at hx
          rw [hx]
          unfold cloudV at h4
          rw [if_neg (by rintro (a | a); exact h0 a; exact h1' a), Bool.and_eq_true, Bool.and_eq_true] at h4
          have := (cov_facts h4.1 ⟨by have := of_decide_eq_true h4.2.1; omega, of_decide_eq_true h4.2.2⟩).size
          omega
  have := tail_len _ 7 hall
  have hb := (skyW_bound hs').1
  omega
theorem head_len (c : Ch) : (tailJ (headC c)).length ≤ 20 := by
  have hall : ∀ x ∈ headC c, x.size ≤ 9 := by
    intro x hx
    unfold headC at hx
    split at hx
    · rw [List.mem_singleton] at hx; rw [hx, fm_size]; omega
    · simp only [List.mem_cons, List.not_mem_nil, or_false] at hx
      rcases hx with rfl | rfl
      · unfold kindW; split; decide; split <;> decide
      · exact span_size _ _
  have := tail_len _ 9 hall
  have hb : (headC c).length ≤ 2 := by unfold headC; split <;> simp
  omega
theorem flat_len : ∀ (xs : List Ch), (∀ x ∈ xs, ChF x) → (tailJ (flatW xs)).length ≤ 52 * xs.length
  | [], _ => by simp [flatW, tailJ_nil]
  | x :: xs, h => by
    have h1 := flat_len xs fun y hy => h y (by simp [hy])
    have h2 := head_len x
    have h3 : (tailJ (skC x)).length ≤ 32 := sky_len (h x (by simp)).sky
    rw [flat_cons, tailJ_append, tailJ_append, List.length_append, List.length_append, List.length_cons, Nat.mul_succ]
    omega
theorem text_len {a0 : ByteArray} {a1 vf vt d s v : Int} {w c : ByteArray} {b : Int} {xs : List Ch} (h : tafV a0 a1 vf vt d s v w c b xs = true) :
    5 ≤ (tafT a0 a1 vf vt d s v w c b xs).size ∧ (tafT a0 a1 vf vt d s v w c b xs).size ≤ 2000 := by
  have hg := taf_g h
  obtain ⟨hz, _⟩ := words_text h
  rw [List.length_append] at hz
  unfold restW at hz
  rw [tailJ_append, tailJ_append, List.length_append, List.length_append] at hz
  have h1 := sky_len hg.f.sky
  have h2 := flat_len xs hg.f.all
  have h3 := hg.f.len
  have h4 : (tailJ [a0, bs (dh a1.toNat ++ d2 (a1.toNat % 60)) ++ bs [90], bs (spanT vf.toNat vt.toNat)]).length ≤ 30 ∧ 3 ≤ (tailJ [a0, bs (dh a1.toNat ++ d2 (a1.toNat % 60)) ++ bs [90], bs (spanT vf.toNat vt.toNat)]).length := by
    constructor
    · have := tail_len [a0, bs (dh a1.toNat ++ d2 (a1.toNat % 60)) ++ bs [90], bs (spanT vf.toNat vt.toNat)] 9 (by
        intro x hx
        simp only [List.mem_cons, List.not_mem_nil, or_false] at hx
        rcases hx with rfl | rfl | rfl
        · have := hg.f.z; omega
        · rw [(iss_word a1).1]; omega
        · exact span_size _ _)
      exact this
    · rw [tailJ_cons, tailJ_cons, tailJ_cons]; simp; omega
  rw [show ([84, 65, 70] : List UInt8).length = 3 from rfl] at hz
  omega
/-! ### the reference's reader, whole -/
end Go.Proofs.YtondfjckadlabaaGreatDoor.RT
