/-
  Part of a proof by the engine: texts that a program of ours printed, or plain lemmas on them. No condition but what each theorem says.
-/
import Derived.Test.YtgkejafaggaocaaDoorTD
import Derived.Test.YtgkejafaggaocaaDoorDTPlain
import Derived.Test.YtgkejafaggaocaaDoorNRPlain
set_option linter.unusedVariables false
set_option linter.unusedSimpArgs false
namespace Go.Proofs.YtgkejafaggaocaaDoor.TD
open Go Go.Eng Go.FT Go.Proofs.YtgkejafaggaocaaDoor.DT Go.Proofs.YtgkejafaggaocaaDoor.EX Go.Proofs.YtgkejafaggaocaaDoor.NR
/-- A text with a point ahead of its last p signs. -/
def ptxt (sg s : ByteArray) (p : Nat) : ByteArray := sg ++ s.extract 0 (s.size - p) ++ bs [46] ++ s.extract (s.size - p) s.size
theorem point_end {sg s : ByteArray} {p : Nat} (hp : p < s.size) (hs : s.size ≤ 1000) (hg : sg.size ≤ 1000) :
    (bif decide (0 ≤ IntKind.i64.wrap ((↑s.size : Int) - (p : Int))) && decide (IntKind.i64.wrap ((↑s.size : Int) - (p : Int)) ≤ (↑s.size : Int)) then bif decide (sg.size + (s.extract (Int.toNat 0) (IntKind.i64.wrap ((↑s.size : Int) - (p : Int))).toNat).size ≤ 9223372036854775807) then bif decide ((sg ++ s.extract (Int.toNat 0) (IntKind.i64.wrap ((↑s.size : Int) - (p : Int))).toNat).size + (bs [46]).size ≤ 9223372036854775807) then bif decide (0 ≤ IntKind.i64.wrap ((↑s.size : Int) - (p : Int))) && decide (IntKind.i64.wrap ((↑s.size : Int) - (p : Int)) ≤ (↑s.size : Int)) then bif decide ((sg ++ s.extract (Int.toNat 0) (IntKind.i64.wrap ((↑s.size : Int) - (p : Int))).toNat ++ bs [46]).size + (s.extract (IntKind.i64.wrap ((↑s.size : Int) - (p : Int))).toNat (↑s.size : Int).toNat).size ≤ 9223372036854775807) then some (sg ++ s.extract (Int.toNat 0) (IntKind.i64.wrap ((↑s.size : Int) - (p : Int))).toNat ++ bs [46] ++ s.extract (IntKind.i64.wrap ((↑s.size : Int) - (p : Int))).toNat (↑s.size : Int).toNat) else none else none else none else none else none) = some (ptxt sg s p) := by
  have e : IntKind.i64.wrap ((s.size : Int) - (p : Int)) = ((s.size - p : Nat) : Int) := by rw [w64 (by omega) (by omega)]; omega
  have z1 : (s.extract 0 (s.size - p)).size = s.size - p := by rw [size_extract]; omega
  have z2 : (s.extract (s.size - p) s.size).size = p := by rw [size_extract]; omega
  have z3 : (bs [46]).size = 1 := rfl
  have i0 : Int.toNat 0 = 0 := rfl
  simp only [e, i0, Int.toNat_natCast, ByteArray.size_append, z1, z2, z3, show (0 : Int) ≤ ((s.size - p : Nat) : Int) by omega, show ((s.size - p : Nat) : Int) ≤ (s.size : Int) by omega, show sg.size + (s.size - p) ≤ 9223372036854775807 by omega, show sg.size + (s.size - p) + 1 ≤ 9223372036854775807 by omega, show sg.size + (s.size - p) + 1 + p ≤ 9223372036854775807 by omega, decide_true, Bool.and_self, cond_true]
  rfl
theorem pad_zero (s : ByteArray) : bs [48] ++ s = bs (48 :: L s) := L_inj (by rw [L_append, L_bs, L_bs]; rfl)
theorem point_loop {sg : ByteArray} {p : Nat} (hg : sg.size ≤ 1000) (hp : p ≤ 100) : ∀ (m : Nat) (s : ByteArray), p + 1 - s.size = m → s.size ≤ 500 →
    Ev (fun k => spec_l1Point_L8 k (p : Int) s sg) (ptxt sg (bs (List.replicate m 48 ++ L s)) p)
  | 0, s, hm, hs => by
    apply ev_succ
    have hc : ¬ (s.size : Int) ≤ (p : Int) := by omega
    simp only [spec_l1Point_L8, hc, decide_false, cond_false]
    rw [List.replicate_zero, List.nil_append, bs_L]
    exact ev_of (point_end (by omega) (by omega) hg)
  | m + 1, s, hm, hs => by
    apply ev_succ
    have hc : (s.size : Int) ≤ (p : Int) := by omega
    simp only [spec_l1Point_L8, hc, decide_true, cond_true, show (bs [48]).size = 1 from rfl, show 1 + s.size ≤ 9223372036854775807 by omega]
    rw [pad_zero]
    have hz : (bs (48 :: L s)).size = s.size + 1 := by rw [size_bs, List.length_cons, L_length]
    refine ev_eq (point_loop hg hp m (bs (48 :: L s)) (by omega) (by omega)) ?_
    rw [L_bs]
    congr 2
    rw [List.replicate_succ' (n := m), List.append_assoc]; rfl
/-- The text of a whole number with places. -/
def ntxt (n : Int) (p : Nat) : ByteArray := if p = 0 then bs (Lib.itoa n) else ptxt (if n < 0 then bs [45] else bs []) (bs (pad (if n < 0 then -n else n) (p + 1))) p
theorem itoa_neg {n : Int} (h : n < 0) : Lib.itoa n = 45 :: Lib.itoa (-n) := by
  have e : Lib.itoa (-n) = Lib.decDigits (-n).toNat := itoa_pos (by omega)
  rw [e]
  unfold Lib.itoa
  rw [if_pos h]
  congr 2
  omega
theorem point_spec {n : Int} {p : Nat} (hn : -1000000000000000000 ≤ n ∧ n ≤ 1000000000000000000) (hp : p ≤ 100) : spec_l1Point n (p : Int) = some (ntxt n p) := by
  refine evF_eq ?_
  have hd := l1Dec_eq (n := n) (by omega) (by omega)
  have hl := itoa_len (n := n) (by omega) (by omega)
  unfold spec_l1Point_F ntxt
  simp only [hd, Option.bind_some, beqI]
  by_cases h0 : p = 0
  · subst h0
    simp only [show ((0 : Nat) : Int) = 0 from rfl, decide_true, cond_true, if_true]
    exact ev_now _
  · have h0' : ¬ (p : Int) = 0 := by omega
    simp only [h0', h0, decide_false, cond_false, if_false]
    by_cases hneg : n < 0
    · have hz : (bs (Lib.itoa n)).size = (Lib.itoa n).length := size_bs _
      have h1 : 1 ≤ (Lib.itoa n).length := by rw [itoa_neg hneg]; simp
      simp only [hneg, decide_true, cond_true, if_true, hz, show (1 : Int) ≤ ((Lib.itoa n).length : Int) by omega, show decide ((0 : Int) ≤ 1) = true from rfl, Bool.and_self, Int.toNat_natCast, show Int.toNat 1 = 1 from rfl]
      have he : (bs (Lib.itoa n)).extract 1 (Lib.itoa n).length = bs (Lib.itoa (-n)) := L_inj (by
        rw [L_extract, L_bs, L_bs, itoa_neg hneg]
        simp)
      rw [he]
      have hl' : (Lib.itoa (-n)).length ≤ 21 := itoa_len (by omega) (by omega)
      have := point_loop (sg := bs [45]) (p := p) (by decide) hp _ (bs (Lib.itoa (-n))) rfl (by rw [size_bs]; omega)
      refine ev_eq this ?_
      rw [L_bs, size_bs]; rfl
    · simp only [hneg, decide_false, cond_false, if_false]
      have := point_loop (sg := bs []) (p := p) (by decide) hp _ (bs (Lib.itoa n)) rfl (by rw [size_bs]; omega)
      refine ev_eq this ?_
      rw [L_bs, size_bs]; rfl
end Go.Proofs.YtgkejafaggaocaaDoor.TD

namespace Go.Proofs.YtgkejafaggaocaaDoor.TD
open Go Go.Eng Go.FT Go.Proofs.YtgkejafaggaocaaDoor.DT Go.Proofs.YtgkejafaggaocaaDoor.EX Go.Proofs.YtgkejafaggaocaaDoor.NR
/-- What is told of a number. -/
noncomputable def toldV (y : Nat) (p : Nat) : Option ByteArray :=
  if feq y y = false then some (bs [47]) else if feq (fsub y y) 0 = false then (if fgt y 0 = true then some (bs [104, 105, 103, 104]) else some (bs [108, 111, 119]))
  else (impl_Nearest (fmul y (tenB p))).bind fun r => if r.2 = true then some (ntxt r.1 p) else some (bs [102, 97, 114])
theorem near_same (y : Nat) : spec_Nearest y = impl_Nearest y ∧ ∃ r, impl_Nearest y = some r ∧ (-1000000000000000 ≤ r.1 ∧ r.1 ≤ 1000000000000000) := by
  rcases nearest_both y with ⟨Y, _, hi, h1, h2⟩ | ⟨h1, h2, _⟩
  · exact ⟨h1.trans h2.symm, _, h2, near_bound hi⟩
  · exact ⟨h1.trans h2.symm, _, h2, by simp only; omega⟩
theorem told_spec {y p : Nat} (hp : p ≤ 6) : spec_Told y (p : Int) = toldV y p := by
  obtain ⟨hs, r, hr, hb⟩ := near_same (fmul y (tenB p))
  unfold spec_Told toldV
  simp only [show ¬ (p : Int) < 0 by omega, show ¬ (p : Int) > 6 by omega, decide_false, cond_false, known_spec, Option.bind_some, ten_spec (n := p) (by omega), ten_of p (by omega), hs, hr, point_spec (n := r.1) (p := p) (by omega) (by omega)]
  cases feq y y with
  | false => rfl
  | true =>
    cases feq (fsub y y) 0 with
    | false => cases fgt y 0 <;> rfl
    | true => cases r.2 <;> rfl
theorem told_end {n : Int} {p : Nat} (hn : -1000000000000000 ≤ n ∧ n ≤ 1000000000000000) (hp : p ≤ 6) :
    (bif decide (n < 0) then
              bif (p : Int) == 0 then (impl_dec (IntKind.i64.wrap (0 - n))).bind fun val => bif decide ((bs [45]).size + ByteArray.size val ≤ 9223372036854775807) then some (bs [45] ++ val) else none
              else (impl_fill (IntKind.i64.wrap (0 - n)) (IntKind.i64.wrap ((p : Int) + 1))).bind fun val => bif decide (0 ≤ IntKind.i64.wrap ((↑(ByteArray.size val) : Int) - (p : Int))) && decide (IntKind.i64.wrap ((↑(ByteArray.size val) : Int) - (p : Int)) ≤ (↑(ByteArray.size val) : Int)) then bif decide ((bs [45]).size + (ByteArray.extract val (Int.toNat 0) (IntKind.i64.wrap ((↑(ByteArray.size val) : Int) - (p : Int))).toNat).size ≤ 9223372036854775807) then bif decide ((bs [45] ++ ByteArray.extract val (Int.toNat 0) (IntKind.i64.wrap ((↑(ByteArray.size val) : Int) - (p : Int))).toNat).size + (bs [46]).size ≤ 9223372036854775807) then bif decide (0 ≤ IntKind.i64.wrap ((↑(ByteArray.size val) : Int) - (p : Int))) && decide (IntKind.i64.wrap ((↑(ByteArray.size val) : Int) - (p : Int)) ≤ (↑(ByteArray.size val) : Int)) then bif decide ((bs [45] ++ ByteArray.extract val (Int.toNat 0) (IntKind.i64.wrap ((↑(ByteArray.size val) : Int) - (p : Int))).toNat ++ bs [46]).size + (ByteArray.extract val (IntKind.i64.wrap ((↑(ByteArray.size val) : Int) - (p : Int))).toNat (↑(ByteArray.size val) : Int).toNat).size ≤ 9223372036854775807) then some (bs [45] ++ ByteArray.extract val (Int.toNat 0) (IntKind.i64.wrap ((↑(ByteArray.size val) : Int) - (p : Int))).toNat ++ bs [46] ++ ByteArray.extract val (IntKind.i64.wrap ((↑(ByteArray.size val) : Int) - (p : Int))).toNat (↑(ByteArray.size val) : Int).toNat) else none else none else none else none else none
             else
              bif (p : Int) == 0 then (impl_dec n).bind fun val => bif decide ((bs []).size + ByteArray.size val ≤ 9223372036854775807) then some (bs [] ++ val) else none
              else (impl_fill n (IntKind.i64.wrap ((p : Int) + 1))).bind fun val => bif decide (0 ≤ IntKind.i64.wrap ((↑(ByteArray.size val) : Int) - (p : Int))) && decide (IntKind.i64.wrap ((↑(ByteArray.size val) : Int) - (p : Int)) ≤ (↑(ByteArray.size val) : Int)) then bif decide ((bs []).size + (ByteArray.extract val (Int.toNat 0) (IntKind.i64.wrap ((↑(ByteArray.size val) : Int) - (p : Int))).toNat).size ≤ 9223372036854775807) then bif decide ((bs [] ++ ByteArray.extract val (Int.toNat 0) (IntKind.i64.wrap ((↑(ByteArray.size val) : Int) - (p : Int))).toNat).size + (bs [46]).size ≤ 9223372036854775807) then bif decide (0 ≤ IntKind.i64.wrap ((↑(ByteArray.size val) : Int) - (p : Int))) && decide (IntKind.i64.wrap ((↑(ByteArray.size val) : Int) - (p : Int)) ≤ (↑(ByteArray.size val) : Int)) then bif decide ((bs [] ++ ByteArray.extract val (Int.toNat 0) (IntKind.i64.wrap ((↑(ByteArray.size val) : Int) - (p : Int))).toNat ++ bs [46]).size + (ByteArray.extract val (IntKind.i64.wrap ((↑(ByteArray.size val) : Int) - (p : Int))).toNat (↑(ByteArray.size val) : Int).toNat).size ≤ 9223372036854775807) then some (bs [] ++ ByteArray.extract val (Int.toNat 0) (IntKind.i64.wrap ((↑(ByteArray.size val) : Int) - (p : Int))).toNat ++ bs [46] ++ ByteArray.extract val (IntKind.i64.wrap ((↑(ByteArray.size val) : Int) - (p : Int))).toNat (↑(ByteArray.size val) : Int).toNat) else none else none else none else none else none) = some (ntxt n p) := by
  have e1 : IntKind.i64.wrap (0 - n) = -n := by rw [w64 (by omega) (by omega)]; omega
  have e2 : IntKind.i64.wrap ((p : Int) + 1) = ((p + 1 : Nat) : Int) := wsucc (by omega)
  unfold ntxt
  simp only [beqI, e1, e2]
  have gen : ∀ (k : Int) (sg : ByteArray), (0 ≤ k ∧ k ≤ 1000000000000000) → sg.size ≤ 1 → ¬ p = 0 → ((impl_fill k ((p + 1 : Nat) : Int)).bind fun val => bif decide (0 ≤ IntKind.i64.wrap ((↑(ByteArray.size val) : Int) - (p : Int))) && decide (IntKind.i64.wrap ((↑(ByteArray.size val) : Int) - (p : Int)) ≤ (↑(ByteArray.size val) : Int)) then bif decide (sg.size + (ByteArray.extract val (Int.toNat 0) (IntKind.i64.wrap ((↑(ByteArray.size val) : Int) - (p : Int))).toNat).size ≤ 9223372036854775807) then bif decide ((sg ++ ByteArray.extract val (Int.toNat 0) (IntKind.i64.wrap ((↑(ByteArray.size val) : Int) - (p : Int))).toNat).size + (bs [46]).size ≤ 9223372036854775807) then bif decide (0 ≤ IntKind.i64.wrap ((↑(ByteArray.size val) : Int) - (p : Int))) && decide (IntKind.i64.wrap ((↑(ByteArray.size val) : Int) - (p : Int)) ≤ (↑(ByteArray.size val) : Int)) then bif decide ((sg ++ ByteArray.extract val (Int.toNat 0) (IntKind.i64.wrap ((↑(ByteArray.size val) : Int) - (p : Int))).toNat ++ bs [46]).size + (ByteArray.extract val (IntKind.i64.wrap ((↑(ByteArray.size val) : Int) - (p : Int))).toNat (↑(ByteArray.size val) : Int).toNat).size ≤ 9223372036854775807) then some (sg ++ ByteArray.extract val (Int.toNat 0) (IntKind.i64.wrap ((↑(ByteArray.size val) : Int) - (p : Int))).toNat ++ bs [46] ++ ByteArray.extract val (IntKind.i64.wrap ((↑(ByteArray.size val) : Int) - (p : Int))).toNat (↑(ByteArray.size val) : Int).toNat) else none else none else none else none else none) = some (ptxt sg (bs (pad k (p + 1))) p) := fun k sg hk hg h0 => by
    have hl := pad_len (n := k) (w := p + 1) (by omega) (by omega)
    have hge : p + 1 ≤ (pad k (p + 1)).length := by unfold pad; rw [List.length_append, List.length_replicate]; omega
    rw [fill_eq (n := k) (w := p + 1) (by omega) (by omega) (by omega), Option.bind_some]
    exact point_end (by rw [size_bs]; omega) (by rw [size_bs]; omega) (by omega)
  by_cases h0 : p = 0
  · subst h0
    have l1 := itoa_len (n := -n) (by omega) (by omega)
    have l2 := itoa_len (n := n) (by omega) (by omega)
    simp only [show ((0 : Nat) : Int) = 0 from rfl, decide_true, cond_true, if_true, dec_eq (n := -n) (by omega) (by omega), dec_eq (n := n) (by omega) (by omega), Option.bind_some, size_bs, List.length_singleton, List.length_nil, show 1 + (Lib.itoa (-n)).length ≤ 9223372036854775807 by omega, show 0 + (Lib.itoa n).length ≤ 9223372036854775807 by omega]
    by_cases hneg : n < 0
    · simp only [hneg, decide_true, cond_true]
      rw [itoa_neg hneg]
      congr 1
    · simp only [hneg, decide_false, cond_false]
      congr 1
  · have h0' : ¬ (p : Int) = 0 := by omega
    by_cases hneg : n < 0
    · simp only [hneg, h0', h0, decide_true, decide_false, cond_true, cond_false, if_true, if_false]
      exact gen (-n) (bs [45]) (by omega) (by decide) h0
    · simp only [hneg, h0', h0, decide_false, cond_false, if_false]
      exact gen n (bs []) (by omega) (by decide) h0
theorem told_impl {y p : Nat} (hp : p ≤ 6) : impl_Told y (p : Int) = toldV y p := by
  obtain ⟨hs, r, hr, hb⟩ := near_same (fmul y (tenB p))
  unfold impl_Told toldV
  simp only [in_eq, show (0 : Int) ≤ (p : Int) by omega, show (p : Int) ≤ 6 by omega, decide_true, Bool.and_self, Option.bind_some, Bool.not_true, cond_false, impl_missing, Bool.not_not, ten_impl (m := p) (by omega), hr, told_end hb hp]
  rcases Go.FT.read_cases y with ⟨Y, h⟩ | ⟨s, h⟩ | ⟨s, t, h⟩
  · obtain ⟨i1, i2⟩ := isInf_fin h
    simp only [self_fin h, known_fin h, i1, i2, Option.bind_some, Bool.not_true, cond_false]
    cases r.2 <;> rfl
  · cases s with
    | false =>
      simp only [self_inf h, known_inf h, isInf_pos h, pos_inf h, Option.bind_some, Bool.not_true, cond_false, cond_true]
      rfl
    | true =>
      obtain ⟨i1, i2⟩ := isInf_neg h
      simp only [self_inf h, known_inf h, i1, i2, neg_inf h, Option.bind_some, Bool.not_true, cond_false, cond_true]
      rfl
  · simp only [self_nan h, Bool.not_false, cond_true]
    rfl
end Go.Proofs.YtgkejafaggaocaaDoor.TD

