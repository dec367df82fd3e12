/-
  Part of a proof by the engine: texts that a program of ours printed, or plain lemmas on them. No condition but what each theorem says.
-/
import Derived.Test.YtgkejafaggaocaaDoorRN
import Derived.Test.YtgkejafaggaocaaDoorTDPlain
import Derived.Test.YtgkejafaggaocaaDoorDecP
set_option linter.unusedVariables false
set_option linter.unusedSimpArgs false
namespace Go.Proofs.YtgkejafaggaocaaDoor.RN
open Go Go.Eng Go.FT Go.Proofs.YtgkejafaggaocaaDoor.DT Go.Proofs.YtgkejafaggaocaaDoor.EX Go.Proofs.YtgkejafaggaocaaDoor.NR Go.Proofs.YtgkejafaggaocaaDoor.TD
/-- The parts of a number's text. -/
structure Parts (n : Int) (p : Nat) (W P : List UInt8) : Prop where
  txt : L (ntxt n p) = (if n < 0 then [45] else []) ++ (W ++ (if p = 0 then [] else 46 :: P))
  pl : P.length = p
  w0 : W ≠ []
  len : W.length + P.length ≤ 17
  wd : W.all isDig = true
  pd : P.all isDig = true
  head : W.length ≤ 1 ∨ W.head? ≠ some 48
  num : spl 0 (W ++ P) = n.natAbs
theorem spl_zeros (l : List UInt8) : ∀ k, spl 0 (List.replicate k 48 ++ l) = spl 0 l
  | 0 => rfl
  | k + 1 => by
    rw [List.replicate_succ]
    exact spl_zeros l k
theorem all_zeros (k : Nat) : (List.replicate k (48 : UInt8)).all isDig = true := by
  rw [List.all_eq_true]
  intro x hx
  rw [List.eq_of_mem_replicate hx]
  decide
theorem dec_len16 {n : Nat} (h : n ≤ 1000000000000000) : (Lib.decDigits n).length ≤ 16 := by
  refine can_len (dec_can n) ?_ (by omega)
  rw [spl_dec]
  have : (10 : Nat) ^ 16 = 10000000000000000 := by decide
  omega
theorem parts_of {n : Int} {p : Nat} (hn : n.natAbs ≤ 1000000000000000) (hp : p ≤ 6) : ∃ W P, Parts n p W P := by
  have hD := dec_len16 hn
  have hc := dec_all n.natAbs
  have hne := dec_ne n.natAbs
  have hh := dec_head n.natAbs
  have hs := spl_dec n.natAbs
  have ea : Lib.itoa (if n < 0 then -n else n) = Lib.decDigits n.natAbs := by
    rw [itoa_pos (by split <;> omega)]
    congr 1
    split <;> omega
  by_cases h0 : p = 0
  · subst h0
    refine ⟨Lib.decDigits n.natAbs, [], ?_, rfl, hne, by simp only [List.length_nil]; omega, hc, rfl, hh, by rw [List.append_nil]; exact hs⟩
    unfold ntxt
    rw [if_pos rfl, if_pos rfl, List.append_nil, L_bs]
    by_cases hneg : n < 0
    · rw [if_pos hneg, itoa_neg hneg]
      rw [if_pos hneg] at ea
      rw [ea]; rfl
    · rw [if_neg hneg] at ea ⊢
      rw [ea]; rfl
  · generalize hDD : Lib.decDigits n.natAbs = D at *
    have hS : pad (if n < 0 then -n else n) (p + 1) = List.replicate (p + 1 - D.length) 48 ++ D := by unfold pad; rw [ea]
    generalize hSS : List.replicate (p + 1 - D.length) (48 : UInt8) ++ D = S at hS
    have hl : S.length = p + 1 - D.length + D.length := by rw [← hSS, List.length_append, List.length_replicate]
    have hd : S.all isDig = true := by rw [← hSS, List.all_append, all_zeros, hc]; rfl
    have hsp : spl 0 S = n.natAbs := by rw [← hSS, spl_zeros]; exact hs
    refine ⟨S.take (S.length - p), S.drop (S.length - p), ?_, ?_, ?_, ?_, ?_, ?_, ?_, by rw [List.take_append_drop]; exact hsp⟩
    · unfold ntxt
      rw [if_neg h0, if_neg h0, hS]
      unfold ptxt
      have e1 : (bs S).size = S.length := size_bs _
      simp only [L_append, L_extract, L_bs, e1]
      rw [List.drop_zero, Nat.sub_zero, List.take_of_length_le (l := S.drop (S.length - p)) (by rw [List.length_drop]; omega)]
      have e2 : L (if n < 0 then bs [45] else bs []) = if n < 0 then [45] else [] := by split <;> rfl
      rw [e2]
      simp only [List.append_assoc, List.singleton_append]
    · rw [List.length_drop]; omega
    · intro h
      have := congrArg List.length h
      rw [List.length_take, List.length_nil] at this
      omega
    · rw [List.length_take, List.length_drop]; omega
    · rw [List.all_eq_true] at hd ⊢
      exact fun x hx => hd x (List.mem_of_mem_take hx)
    · rw [List.all_eq_true] at hd ⊢
      exact fun x hx => hd x (List.mem_of_mem_drop hx)
    · by_cases hk : p + 1 - D.length = 0
      · rw [hk, List.replicate_zero, List.nil_append] at hSS
        subst hSS
        rcases hh with hh | hh
        · left; rw [List.length_take]; omega
        · by_cases h1 : (D.take (D.length - p)).length ≤ 1
          · exact .inl h1
          · right
            rw [List.length_take] at h1
            cases D with
            | nil => exact absurd rfl hne
            | cons x t =>
              have : (x :: t).length - p = ((x :: t).length - p - 1) + 1 := by omega
              rw [this, List.take_succ_cons]
              exact hh
      · left; rw [List.length_take]; omega
/-! ### what strings answers -/
theorem isDig_ne {c : UInt8} (h : isDig c = true) {d : UInt8} (hd : d.toNat < 48 ∨ 57 < d.toNat) : c ≠ d := by
  rintro rfl
  simp only [isDig, Bool.and_eq_true, decide_eq_true_eq] at h
  omega
theorem index_none : ∀ W : List UInt8, W.all isDig = true → Lib.indexByte W 46 = -1
  | [], _ => rfl
  | c :: W, h => by
    rw [List.all_cons, Bool.and_eq_true] at h
    unfold Lib.indexByte
    have : (c == 46) = false := by rw [beq_eq_false_iff_ne]; exact isDig_ne h.1 (by decide)
    rw [this, index_none W h.2]; rfl
theorem index_at (P : List UInt8) : ∀ W : List UInt8, W.all isDig = true → Lib.indexByte (W ++ 46 :: P) 46 = (W.length : Int)
  | [], _ => rfl
  | c :: W, h => by
    rw [List.all_cons, Bool.and_eq_true] at h
    rw [List.cons_append]
    unfold Lib.indexByte
    have : (c == 46) = false := by rw [beq_eq_false_iff_ne]; exact isDig_ne h.1 (by decide)
    have h2 : ((W.length : Int) == -1) = false := by rw [beq_eq_false_iff_ne]; omega
    rw [this, index_at P W h.2, h2]
    simp only [Bool.false_eq_true, if_false, List.length_cons]
    omega
theorem dIdx_eq (l : List UInt8) : dIdx (bs l) (bs [46]) = some (Lib.indexByte l 46) := by
  have h : (bs [46]).size = 1 := rfl
  unfold dIdx
  rw [if_pos h]
  have e : (bs l).data.toList = l := L_bs l
  rw [e]; rfl
theorem cut_none {W : List UInt8} (h : W.all isDig = true) : strings_Cut (bs W) (bs [46]) = some (bs W, bs [], false) := by
  unfold strings_Cut internal_stringslite_Cut
  rw [dIdx_eq, index_none W h]
  rfl
theorem cut_at {W P : List UInt8} (h : W.all isDig = true) (hl : W.length + P.length ≤ 1000) : strings_Cut (bs (W ++ 46 :: P)) (bs [46]) = some (bs W, bs P, true) := by
  have hz : (bs (W ++ 46 :: P)).size = W.length + (P.length + 1) := by rw [size_bs, List.length_append, List.length_cons]
  have h1 : (bs [46]).size = 1 := rfl
  have e1 : IntKind.i64.wrap ((W.length : Int) + ((1 : Nat) : Int)) = ((W.length + 1 : Nat) : Int) := by rw [w64 (by omega) (by omega)]; omega
  have x1 : (bs (W ++ 46 :: P)).extract 0 W.length = bs W := L_inj (by
    rw [L_extract, L_bs, L_bs, List.drop_zero, Nat.sub_zero, List.take_left'] ; rfl)
  have x2 : (bs (W ++ 46 :: P)).extract (W.length + 1) (W.length + (P.length + 1)) = bs P := L_inj (by
    rw [L_extract, L_bs, L_bs]
    have : (W ++ 46 :: P).drop (W.length + 1) = P := by
      rw [show W ++ 46 :: P = (W ++ [46]) ++ P by simp, List.drop_left' (by simp)]
    rw [this, List.take_of_length_le (by omega)])
  unfold strings_Cut internal_stringslite_Cut
  rw [dIdx_eq, index_at P W h]
  simp only [Option.bind_some, h1, hz, e1, show (W.length : Int) ≥ 0 by omega, show (0 : Int) ≤ (W.length : Int) by omega, show (W.length : Int) ≤ ((W.length + (P.length + 1) : Nat) : Int) by omega, show (0 : Int) ≤ ((W.length + 1 : Nat) : Int) by omega, show ((W.length + 1 : Nat) : Int) ≤ ((W.length + (P.length + 1) : Nat) : Int) by omega, decide_true, Bool.and_self, cond_true, Int.toNat_natCast, show Int.toNat 0 = 0 from rfl, x1, x2]
theorem trim_plain {R : List UInt8} (h : R.head? ≠ some 45) : dTrim (bs R) (bs [45]) = some (bs R) := by
  have e : (bs R).data.toList = R := L_bs R
  unfold dTrim
  rw [e]
  have : Lib.trimPrefix R (bs [45]).data.toList = R := by
    show Lib.trimPrefix R [45] = R
    unfold Lib.trimPrefix Lib.hasPrefix
    cases R with
    | nil => rfl
    | cons c R =>
      have : ((45 : UInt8) == c) = false := by
        rw [beq_eq_false_iff_ne]
        intro hc
        exact h (by rw [← hc]; rfl)
      simp [List.isPrefixOf, this]
  rw [this]
theorem trim_minus (R : List UInt8) : dTrim (bs (45 :: R)) (bs [45]) = some (bs R) := by
  have e : (bs (45 :: R)).data.toList = 45 :: R := L_bs _
  unfold dTrim
  rw [e]
  have : Lib.trimPrefix (45 :: R) (bs [45]).data.toList = R := by
    show Lib.trimPrefix (45 :: R) [45] = R
    unfold Lib.trimPrefix Lib.hasPrefix
    simp [List.isPrefixOf]
  rw [this]
end Go.Proofs.YtgkejafaggaocaaDoor.RN

namespace Go.Proofs.YtgkejafaggaocaaDoor.RN
open Go Go.Eng Go.FT Go.Proofs.YtgkejafaggaocaaDoor.DT Go.Proofs.YtgkejafaggaocaaDoor.EX Go.Proofs.YtgkejafaggaocaaDoor.NR Go.Proofs.YtgkejafaggaocaaDoor.TD
theorem not_text {s : ByteArray} {l : List UInt8} (h : L s ≠ l) : (s.toList == (bs l).toList) = false := by
  rw [beq_bytes, decide_eq_false_iff_not]
  rintro rfl
  exact h (L_bs l)
theorem bs_app (a b : List UInt8) : bs a ++ bs b = bs (a ++ b) := L_inj (by rw [L_append, L_bs, L_bs, L_bs])
theorem digits_bs {l : List UInt8} (h : l.length ≤ 1000) : impl_digits (bs l) = some (l.all isDig && decide (0 < l.length)) := by
  rw [impl_digits_eq (by rw [size_bs]; omega), L_bs, size_bs]
theorem par_bs {l : List UInt8} (h0 : l ≠ []) (hl : l.length ≤ 18) (hd : l.all isDig = true) : dPar (bs l) 10 64 = some (spl 0 l : Int) := by
  unfold dPar
  rw [if_pos ⟨rfl, rfl, by rw [size_bs]; omega⟩]
  have e : (bs l).data.toList = l := L_bs l
  rw [e, parse_ok h0 hl hd]
theorem head_of {n : Int} {p : Nat} {W P : List UInt8} (h : Parts n p W P) : ∃ c r, L (ntxt n p) = c :: r ∧ (c = 45 ∨ isDig c = true) := by
  obtain ⟨txt, pl, w0, len, wd, pd, head, num⟩ := h
  cases W with
  | nil => exact absurd rfl w0
  | cons c W =>
    rw [List.all_cons, Bool.and_eq_true] at wd
    rw [txt]
    by_cases hn : n < 0
    · rw [if_pos hn]; exact ⟨_, _, rfl, .inl rfl⟩
    · rw [if_neg hn]; exact ⟨_, _, rfl, .inr wd.1⟩
theorem ne_of {n : Int} {p : Nat} {W P : List UInt8} (h : Parts n p W P) {d : UInt8} {r : List UInt8} (h1 : d ≠ 45) (h2 : isDig d = false) : L (ntxt n p) ≠ d :: r := by
  obtain ⟨c, r', e, hc⟩ := head_of h
  rw [e]
  intro hh
  injection hh with h3 _
  subst h3
  rcases hc with rfl | hc
  · exact h1 rfl
  · rw [hc] at h2; cases h2
theorem tail_read {v : ByteArray × ByteArray × Bool} {a0 val : ByteArray} {n : Int} {p m : Nat} (hm : m = n.natAbs) (hn : n.natAbs ≤ 1000000000000000) (hp : p ≤ 6) (hsz : v.2.1.size = p) (hx : (val.toList == a0.toList) = decide (0 ≤ n)) :
    (bif decide ((m : Int) > 1000000000000000) then some ((0 : Nat), false) else bif (m : Int) == 0 then bif !(val.toList == a0.toList) then some (0, false) else bif !(val.toList == a0.toList) then (impl_ten (↑v.2.1.size : Int)).bind fun val => some (fdiv (fofi (IntKind.i64.wrap (0 - (m : Int)))) val, true) else (impl_ten (↑v.2.1.size : Int)).bind fun val => some (fdiv (fofi (m : Int)) val, true) else bif !(val.toList == a0.toList) then (impl_ten (↑v.2.1.size : Int)).bind fun val => some (fdiv (fofi (IntKind.i64.wrap (0 - (m : Int)))) val, true) else (impl_ten (↑v.2.1.size : Int)).bind fun val => some (fdiv (fofi (m : Int)) val, true)) = some (fdiv (fofi n) (tenB p), true) := by
  subst hm
  rw [hx, hsz, ten_impl (by omega), beqI]
  have e1 : decide ((n.natAbs : Int) > 1000000000000000) = false := decide_eq_false (by omega)
  rw [e1, cond_false]
  by_cases h : 0 ≤ n
  · have e2 : ((n.natAbs : Nat) : Int) = n := by omega
    rw [decide_eq_true h, e2]
    cases decide (n = 0) <;> rfl
  · have e2 : IntKind.i64.wrap (0 - (n.natAbs : Int)) = n := by rw [w64 (by omega) (by omega)]; omega
    have e3 : decide ((n.natAbs : Int) = 0) = false := decide_eq_false (by omega)
    rw [decide_eq_false h, e2, e3]
    rfl
theorem read_parts {n : Int} {p : Nat} {W P : List UInt8} (hn : n.natAbs ≤ 1000000000000000) (hp : p ≤ 6) (h : Parts n p W P) : impl_ReadNumber (ntxt n p) = some (fdiv (fofi n) (tenB p), true) := by
  have f1 : ((ntxt n p).toList == (bs [47]).toList) = false := not_text (ne_of h (by decide) (by decide))
  have f2 : ((ntxt n p).toList == (bs [104, 105, 103, 104]).toList) = false := not_text (ne_of h (by decide) (by decide))
  have f3 : ((ntxt n p).toList == (bs [108, 111, 119]).toList) = false := not_text (ne_of h (by decide) (by decide))
  obtain ⟨txt, pl, w0, len, wd, pd, head, num⟩ := h
  have w1 : 0 < W.length := by
    cases W with
    | nil => exact absurd rfl w0
    | cons _ _ => simp
  generalize hR : W ++ (if p = 0 then [] else 46 :: P) = R at txt
  have hval : dTrim (ntxt n p) (bs [45]) = some (bs R) ∧ ((bs R).toList == (ntxt n p).toList) = decide (0 ≤ n) := by
    have et : ntxt n p = bs ((if n < 0 then [45] else []) ++ R) := by rw [← txt, bs_L]
    by_cases hneg : n < 0
    · rw [if_pos hneg] at et
      rw [et]
      refine ⟨trim_minus R, ?_⟩
      rw [decide_eq_false (by omega), beq_bytes, decide_eq_false_iff_not]
      intro hc
      have := congrArg (fun s : ByteArray => s.size) hc
      simp only [size_bs, List.singleton_append, List.length_cons] at this
      omega
    · rw [if_neg hneg, List.nil_append] at et
      rw [et, beq_self_bytes, decide_eq_true (by omega)]
      refine ⟨trim_plain ?_, rfl⟩
      rw [← hR]
      cases W with
      | nil => exact absurd rfl w0
      | cons c W =>
        rw [List.all_cons, Bool.and_eq_true] at wd
        intro hc
        injection hc with hc
        exact isDig_ne wd.1 (d := 45) (by decide) hc
  obtain ⟨hv1, hv2⟩ := hval
  have hhead : W.length > 1 → (bt (bs W) 0 == 48) = false := fun hl => by
    have hb : bt (bs W) 0 = ((W.getD 0 0).toNat : Int) := by
      have := bt_nat (bs W) 0
      rw [L_bs] at this; exact this
    rw [hb, beqI, decide_eq_false_iff_not]
    rcases head with hh | hh
    · omega
    · cases W with
      | nil => exact absurd rfl w0
      | cons c W =>
        intro hc
        apply hh
        simp only [List.head?_cons, List.getD, List.getElem?_cons_zero, Option.getD_some] at hc ⊢
        congr 1
        apply UInt8.toNat_inj.1
        show c.toNat = 48
        omega
  have hpar : dPar (bs (W ++ P)) 10 64 = some ((n.natAbs : Nat) : Int) := by
    rw [par_bs (by cases W with
                   | nil => exact absurd rfl w0
                   | cons _ _ => simp) (by rw [List.length_append]; omega) (by rw [List.all_append, wd, pd]; rfl), num]
  have hdw : impl_digits (bs W) = some true := by rw [digits_bs (by omega), wd, decide_eq_true w1]; rfl
  unfold impl_ReadNumber
  simp only [f1, f2, f3, cond_false, hv1, Option.bind_some]
  by_cases h0 : p = 0
  · rw [if_pos h0, List.append_nil] at hR
    subst hR
    have hP : P = [] := List.eq_nil_of_length_eq_zero (by omega)
    subst hP
    rw [List.append_nil] at hpar
    have e0 : bs W ++ bs [] = bs W := by rw [bs_app, List.append_nil]
    simp only [cut_none wd, Option.bind_some, hdw, Bool.not_true, cond_false, size_bs, List.length_nil, e0, hpar, show ¬ ((W.length : Int) > 17) by omega, show W.length + 0 ≤ 9223372036854775807 by omega, show (0 : Int) < (W.length : Int) by omega, decide_true, decide_false, cond_true]
    have tl := tail_read (v := (bs W, bs [], false)) (a0 := ntxt n p) (val := bs W) (n := n) (p := p) rfl hn hp (by rw [h0]; rfl) hv2
    simp only [size_bs, List.length_nil] at tl
    by_cases hl : (W.length : Int) > 1
    · simp only [hl, decide_true, cond_true, hhead (by omega), cond_false]
      exact tl
    · simp only [hl, decide_false, cond_false]
      exact tl
  · rw [if_neg h0] at hR
    subst hR
    have hdp : impl_digits (bs P) = some true := by rw [digits_bs (by omega), pd, decide_eq_true (show 0 < P.length by omega)]; rfl
    simp only [cut_at wd (show W.length + P.length ≤ 1000 by omega), Option.bind_some, hdw, hdp, Bool.not_true, cond_false, cond_true, size_bs, bs_app, hpar, show ¬ ((P.length : Int) > 6) by omega, show ¬ ((W.length : Int) > 17) by omega, show W.length + P.length ≤ 9223372036854775807 by omega, show (0 : Int) < (W.length : Int) by omega, decide_true, decide_false]
    have tl := tail_read (v := (bs W, bs P, true)) (a0 := ntxt n p) (val := bs (W ++ 46 :: P)) (n := n) (p := p) rfl hn hp (by rw [size_bs]; exact pl) hv2
    simp only [size_bs] at tl
    by_cases hl : (W.length : Int) > 1
    · simp only [hl, decide_true, cond_true, hhead (by omega), cond_false]
      exact tl
    · simp only [hl, decide_false, cond_false]
      exact tl
theorem read_ntxt {n : Int} {p : Nat} (hn : n.natAbs ≤ 1000000000000000) (hp : p ≤ 6) : impl_ReadNumber (ntxt n p) = some (fdiv (fofi n) (tenB p), true) := by
  obtain ⟨W, P, h⟩ := parts_of hn hp
  exact read_parts hn hp h
theorem ntxt_ne {n : Int} {p : Nat} (hn : n.natAbs ≤ 1000000000000000) (hp : p ≤ 6) : ntxt n p ≠ bs [] ∧ ntxt n p ≠ bs [102, 97, 114] := by
  obtain ⟨W, P, h⟩ := parts_of hn hp
  obtain ⟨c, r, e, hc⟩ := head_of h
  constructor
  · intro hh
    rw [hh] at e
    cases e
  · intro hh
    exact ne_of h (d := 102) (r := [97, 114]) (by decide) (by decide) (by rw [hh]; rfl)
theorem read_fail {s : List UInt8} (h1 : s = [] ∨ s = [102, 97, 114]) : impl_ReadNumber (bs s) = some (0, false) := by
  have key : ∀ s : List UInt8, s.head? ≠ some 45 → Lib.indexByte s 46 = -1 → (s.all isDig && decide (0 < s.length)) = false → s.length ≤ 3 → s ≠ [47] → s ≠ [108, 111, 119] → impl_ReadNumber (bs s) = some (0, false) := fun s h1 h2 h3 h4 h5 hl => by
    have f1 : ((bs s).toList == (bs [47]).toList) = false := not_text (by rw [L_bs]; exact h5)
    have f2 : ((bs s).toList == (bs [104, 105, 103, 104]).toList) = false := not_text (by rw [L_bs]; intro h; rw [h] at h4; exact absurd h4 (by decide))
    have hc : strings_Cut (bs s) (bs [46]) = some (bs s, bs [], false) := by
      unfold strings_Cut internal_stringslite_Cut
      rw [dIdx_eq, h2]; rfl
    have f3 : ((bs s).toList == (bs [108, 111, 119]).toList) = false := not_text (by rw [L_bs]; exact hl)
    unfold impl_ReadNumber
    simp only [f1, f2, f3, cond_false, trim_plain h1, Option.bind_some, hc, digits_bs (show s.length ≤ 1000 by omega), h3, Bool.not_false, cond_true]
  rcases h1 with rfl | rfl
  · exact key [] (by simp) rfl rfl (by decide) (by decide) (by decide)
  · exact key [102, 97, 114] (by decide) (by decide) (by decide) (by decide) (by decide) (by decide)
end Go.Proofs.YtgkejafaggaocaaDoor.RN
