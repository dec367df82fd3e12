/-
  Part of a proof by the engine: texts that a program of ours printed, or plain lemmas on them. No condition but what each theorem says.
-/
import Derived.Test.YtgkejafaggaocaaDoorRU
import Derived.Test.YtgkejafaggaocaaDoorSRPlain
set_option linter.unusedVariables false
set_option linter.unusedSimpArgs false
namespace Go.Proofs.YtgkejafaggaocaaDoor.RU
open Go Go.Eng Go.FT Go.Proofs.YtgkejafaggaocaaDoor.DT Go.Proofs.YtgkejafaggaocaaDoor.EX Go.Proofs.YtgkejafaggaocaaDoor.NR Go.Proofs.YtgkejafaggaocaaDoor.TD
open Go.Proofs.YtgkejafaggaocaaDoor.RN (dIdx_eq isDig_ne trim_plain trim_minus spl_zeros all_zeros)
theorem index_any : ∀ R : List UInt8, Lib.indexByte R 46 = -1 ∨ ∃ W P, R = W ++ 46 :: P ∧ Lib.indexByte R 46 = (W.length : Int)
  | [] => .inl rfl
  | c :: R => by
    by_cases hc : c = 46
    · subst hc
      exact .inr ⟨[], R, rfl, rfl⟩
    · have hb : (c == 46) = false := by rw [beq_eq_false_iff_ne]; exact hc
      unfold Lib.indexByte
      rw [hb]
      rcases index_any R with h | ⟨W, P, h1, h2⟩
      · left; rw [h]; rfl
      · right
        refine ⟨c :: W, P, by rw [h1]; rfl, ?_⟩
        have h3 : ((W.length : Int) == -1) = false := by rw [beq_eq_false_iff_ne]; omega
        rw [h2, h3]
        simp only [Bool.false_eq_true, if_false, List.length_cons]
        omega
theorem cut_at' {W P : List UInt8} (h : Lib.indexByte (W ++ 46 :: P) 46 = (W.length : Int)) (hl : W.length + P.length ≤ 10000000) : RN.strings_Cut (bs (W ++ 46 :: P)) (bs [46]) = some (bs W, bs P, true) := by
  have hz : (bs (W ++ 46 :: P)).size = W.length + (P.length + 1) := by rw [size_bs, List.length_append, List.length_cons]
  have h1 : (bs [46]).size = 1 := rfl
  have e1 : IntKind.i64.wrap ((W.length : Int) + ((1 : Nat) : Int)) = ((W.length + 1 : Nat) : Int) := by rw [w64 (by omega) (by omega)]; omega
  have x1 : (bs (W ++ 46 :: P)).extract 0 W.length = bs W := L_inj (by
    rw [L_extract, L_bs, L_bs, List.drop_zero, Nat.sub_zero, List.take_left'] ; rfl)
  have x2 : (bs (W ++ 46 :: P)).extract (W.length + 1) (W.length + (P.length + 1)) = bs P := L_inj (by
    rw [L_extract, L_bs, L_bs]
    have : (W ++ 46 :: P).drop (W.length + 1) = P := by
      rw [show W ++ 46 :: P = (W ++ [46]) ++ P by simp, List.drop_left' (by simp)]
    rw [this, List.take_of_length_le (by omega)])
  unfold RN.strings_Cut RN.internal_stringslite_Cut
  rw [dIdx_eq, h]
  simp only [Option.bind_some, h1, hz, e1, show (W.length : Int) ≥ 0 by omega, show (0 : Int) ≤ (W.length : Int) by omega, show (W.length : Int) ≤ ((W.length + (P.length + 1) : Nat) : Int) by omega, show (0 : Int) ≤ ((W.length + 1 : Nat) : Int) by omega, show ((W.length + 1 : Nat) : Int) ≤ ((W.length + (P.length + 1) : Nat) : Int) by omega, decide_true, Bool.and_self, cond_true, Int.toNat_natCast, show Int.toNat 0 = 0 from rfl, x1, x2]
theorem cut_any {R : List UInt8} (hl : R.length ≤ 10000000) : ∃ W P pt, RN.strings_Cut (bs R) (bs [46]) = some (bs W, bs P, pt) ∧ R = W ++ (if pt = true then 46 :: P else []) ∧ (pt = false → P = []) := by
  rcases index_any R with h | ⟨W, P, h1, h2⟩
  · refine ⟨R, [], false, ?_, by simp, fun _ => rfl⟩
    unfold RN.strings_Cut RN.internal_stringslite_Cut
    rw [dIdx_eq, h]; rfl
  · subst h1
    rw [List.length_append, List.length_cons] at hl
    exact ⟨W, P, true, cut_at' h2 (by omega), by simp, fun h => by cases h⟩
theorem trim_any (t : ByteArray) : ∃ sg R, dTrim t (bs [45]) = some (bs R) ∧ L t = (if sg = true then [45] else []) ++ R ∧ ((bs R).toList == t.toList) = !sg := by
  by_cases h : (L t).head? = some 45
  · cases hL : L t with
    | nil => rw [hL] at h; cases h
    | cons c R =>
      rw [hL] at h
      injection h with h
      subst h
      have e : t = bs (45 :: R) := by rw [← hL, bs_L]
      refine ⟨true, R, ?_, rfl, ?_⟩
      · rw [e]; exact trim_minus R
      · rw [e, beq_bytes]
        refine decide_eq_false fun hc => ?_
        have := congrArg (fun s : ByteArray => s.size) hc
        simp only [size_bs, List.length_cons] at this
        omega
  · refine ⟨false, L t, ?_, rfl, ?_⟩
    · have := trim_plain h
      rwa [bs_L] at this
    · rw [bs_L, beq_self_bytes]; rfl
/-- Digits are parsed, or are too many. -/
theorem parse_any (M : Nat) : ∀ (l : List UInt8) (a : Nat), l.all isDig = true → Lib.parseUintM M a l = .ok (spl a l) ∨ Lib.parseUintM M a l = .range
  | [], a, _ => .inl rfl
  | c :: l, a, h => by
    rw [List.all_cons, Bool.and_eq_true] at h
    have hc := h.1
    simp only [isDig, Bool.and_eq_true, decide_eq_true_eq] at hc
    unfold Lib.parseUintM
    rw [if_pos hc]
    split
    · exact .inr rfl
    · split
      · exact .inr rfl
      · exact parse_any M l _ h.2
theorem parse_int {l : List UInt8} (h0 : l ≠ []) (hd : l.all isDig = true) : Lib.parseIntB 64 l = .ok (spl 0 l : Int) ∨ Lib.parseIntB 64 l = .range := by
  match l, h0 with
  | c :: r, _ =>
    have hc : isDig c = true := by rw [List.all_cons, Bool.and_eq_true] at hd; exact hd.1
    simp only [isDig, Bool.and_eq_true, decide_eq_true_eq] at hc
    unfold Lib.parseIntB Lib.parseUintB
    simp only [show ¬ c.toNat = 43 by omega, show ¬ c.toNat = 45 by omega, or_self, if_false, reduceCtorEq]
    rcases parse_any (2 ^ 64 - 1) (c :: r) 0 hd with h | h
    · rw [h]
      simp only [not_false_eq_true, true_and, false_and, if_false]
      split
      · exact .inr rfl
      · exact .inl rfl
    · rw [h]; exact .inr rfl
theorem par_any {l : List UInt8} (h0 : l ≠ []) (hl : l.length ≤ 1000) (hd : l.all isDig = true) : dPar (bs l) 10 64 = some (spl 0 l : Int) ∨ (dPar (bs l) 10 64 = none ∧ ∃ v, dParR (bs l) 10 64 = some v) := by
  have e : (bs l).data.toList = l := L_bs l
  have hz : (bs l).size = l.length := size_bs l
  unfold dPar dParR
  rw [if_pos ⟨rfl, rfl, by omega⟩, if_pos ⟨rfl, rfl, by omega⟩, e]
  rcases parse_int h0 hd with h | h
  · left; rw [h]
  · right; rw [h]; exact ⟨rfl, _, rfl⟩
/-- Digits of a length are the number with noughts ahead. -/
theorem digits_pad : ∀ (l : List UInt8), l ≠ [] → l.all isDig = true → List.replicate (l.length - (Lib.decDigits (spl 0 l)).length) 48 ++ Lib.decDigits (spl 0 l) = l
  | [], h, _ => absurd rfl h
  | c :: l, _, h => by
    have hd := h
    rw [List.all_cons, Bool.and_eq_true] at hd
    by_cases hcan : canD (c :: l) = true
    · rw [can_spl _ (c :: l) rfl hcan, Nat.sub_self]; rfl
    · have hlen : ¬ (c :: l).length ≤ 1 ∧ c = 48 := by
        unfold canD at hcan
        rw [h, Bool.true_and] at hcan
        have hne : decide ((c :: l) ≠ []) = true := decide_eq_true (by simp)
        rw [hne, Bool.true_and, Bool.or_eq_true, decide_eq_true_eq, decide_eq_true_eq] at hcan
        refine ⟨fun hh => hcan (.inl hh), ?_⟩
        by_cases hc : c = 48
        · exact hc
        · exact absurd (.inr (by simp [hc])) hcan
      obtain ⟨hlen, rfl⟩ := hlen
      have hl0 : l ≠ [] := by rintro rfl; exact hlen (by simp)
      have hsp : spl 0 (48 :: l) = spl 0 l := rfl
      have hlt := spl_lt l 0 hd.2
      rw [Nat.zero_add, Nat.one_mul] at hlt
      have hpos : 0 < l.length := by cases l with
        | nil => exact absurd rfl hl0
        | cons _ _ => simp
      have hD : (Lib.decDigits (spl 0 l)).length ≤ l.length := can_len (dec_can _) (by rw [spl_dec]; exact hlt) hpos
      have ih := digits_pad l hl0 hd.2
      rw [hsp, List.length_cons, show l.length + 1 - (Lib.decDigits (spl 0 l)).length = (l.length - (Lib.decDigits (spl 0 l)).length) + 1 by omega, List.replicate_succ, List.cons_append, ih]
end Go.Proofs.YtgkejafaggaocaaDoor.RU

namespace Go.Proofs.YtgkejafaggaocaaDoor.RU
open Go Go.Eng Go.FT Go.Proofs.YtgkejafaggaocaaDoor.DT Go.Proofs.YtgkejafaggaocaaDoor.EX Go.Proofs.YtgkejafaggaocaaDoor.NR Go.Proofs.YtgkejafaggaocaaDoor.TD
open Go.Proofs.YtgkejafaggaocaaDoor.RN (dIdx_eq isDig_ne trim_plain trim_minus spl_zeros all_zeros digits_bs bs_app par_bs)
open Go.Proofs.YtgkejafaggaocaaDoor.SR (plainT plain_eq)
theorem ntxt_of {t : ByteArray} {sg pt : Bool} {W P : List UInt8} (hL : L t = (if sg = true then [45] else []) ++ (W ++ (if pt = true then 46 :: P else []))) (hpt : pt = false → P = []) (hpt' : pt = true → P ≠ []) (w0 : W ≠ []) (wd : W.all isDig = true) (pd : P.all isDig = true)
    (head : W.length ≤ 1 ∨ W.head? ≠ some 48) (hz : sg = true → spl 0 (W ++ P) ≠ 0) : ntxt (if sg = true then -((spl 0 (W ++ P) : Nat) : Int) else ((spl 0 (W ++ P) : Nat) : Int)) P.length = t := by
  refine L_inj ?_
  rw [hL]
  have hW : 0 < W.length := by
    cases W with
    | nil => exact absurd rfl w0
    | cons _ _ => simp
  have hcan : canD W = true := by
    unfold canD
    rw [wd, Bool.true_and, Bool.and_eq_true, Bool.or_eq_true, decide_eq_true_eq, decide_eq_true_eq, decide_eq_true_eq]
    exact ⟨w0, head⟩
  have hpad := digits_pad (W ++ P) (by simp [w0]) (by rw [List.all_append, wd, pd]; rfl)
  rw [List.length_append] at hpad
  generalize hn : spl 0 (W ++ P) = n0 at hpad hz
  generalize hm : (if sg = true then -(n0 : Int) else (n0 : Int)) = m
  have hneg : (m < 0) ↔ sg = true := by
    rw [← hm]
    constructor
    · intro h
      cases sg with
      | true => rfl
      | false => simp at h; omega
    · intro h
      rw [if_pos h]
      have := hz h
      omega
  have habs : (if m < 0 then -m else m) = (n0 : Int) := by
    rw [← hm]
    cases sg with
    | true => simp only [if_true]; split <;> omega
    | false => simp only [Bool.false_eq_true, if_false]; split <;> omega
  have eit : Lib.itoa (n0 : Int) = Lib.decDigits n0 := by rw [itoa_pos (by omega), Int.toNat_natCast]
  have hsg : (if sg = true then [(45 : UInt8)] else []) = if m < 0 then [45] else [] := by
    by_cases h : m < 0
    · rw [if_pos h, if_pos (hneg.1 h)]
    · rw [if_neg h, if_neg (fun k => h (hneg.2 k))]
  rw [hsg]
  by_cases h0 : P.length = 0
  · have hP : P = [] := List.eq_nil_of_length_eq_zero h0
    subst hP
    have hp : pt = false := by
      cases pt with
      | false => rfl
      | true => exact absurd rfl (hpt' rfl)
    have hD : Lib.decDigits n0 = W := by
      rw [List.append_nil] at hn
      rw [← hn]; exact can_spl _ W rfl hcan
    rw [hp]
    unfold ntxt
    simp only [List.length_nil, if_true, Bool.false_eq_true, if_false, List.append_nil, L_bs]
    by_cases h : m < 0
    · rw [if_pos h] at habs
      rw [if_pos h, itoa_neg h, habs, eit, hD]; rfl
    · rw [if_neg h] at habs
      rw [if_neg h, habs, eit, hD]; rfl
  · have hp : pt = true := by
      cases pt with
      | true => rfl
      | false => exact absurd (by rw [hpt rfl]; rfl) h0
    have hS : pad (if m < 0 then -m else m) (P.length + 1) = W ++ P := by
      rw [habs]
      unfold pad
      rw [eit]
      by_cases h1 : W.length ≤ 1
      · rw [show P.length + 1 = W.length + P.length by omega]; exact hpad
      · have hh := head.resolve_left h1
        have hc2 : canD (W ++ P) = true := by
          unfold canD
          rw [List.all_append, wd, pd, Bool.true_and, Bool.true_and, Bool.and_eq_true, Bool.or_eq_true, decide_eq_true_eq, decide_eq_true_eq, decide_eq_true_eq, head_app w0]
          exact ⟨by simp [w0], .inr hh⟩
        have hD : Lib.decDigits n0 = W ++ P := by rw [← hn]; exact can_spl _ (W ++ P) rfl hc2
        rw [hD, List.length_append, show P.length + 1 - (W.length + P.length) = 0 by omega]; rfl
    rw [hp]
    unfold ntxt
    rw [if_neg h0, hS]
    unfold ptxt
    have e1 : (bs (W ++ P)).size = W.length + P.length := by rw [size_bs, List.length_append]
    simp only [L_append, L_extract, L_bs, e1]
    rw [show W.length + P.length - P.length = W.length by omega, List.drop_zero, Nat.sub_zero, List.take_left' rfl, List.drop_left' rfl, List.take_of_length_le (by omega)]
    have e2 : L (if m < 0 then bs [45] else bs []) = if m < 0 then [45] else [] := by split <;> rfl
    rw [e2]
    simp only [if_true, List.append_assoc, List.singleton_append]
/-- The way to the parsing. -/
noncomputable def mid (v : ByteArray × ByteArray × Bool) (x : Option (Nat × Bool)) : Option (Nat × Bool) :=
  bif decide ((↑v.fst.size : Int) > 1) then bif decide (0 < (↑v.fst.size : Int)) then bif bt v.fst 0 == 48 then some (0, false) else bif decide ((↑v.fst.size : Int) > 17) then some (0, false) else bif decide (v.fst.size + v.snd.fst.size ≤ 9223372036854775807) then x else none else none else bif decide ((↑v.fst.size : Int) > 17) then some (0, false) else bif decide (v.fst.size + v.snd.fst.size ≤ 9223372036854775807) then x else none
noncomputable def pre (t : ByteArray) (k : ByteArray → ByteArray × ByteArray × Bool → Option (Nat × Bool)) : Option (Nat × Bool) :=
  (dTrim t (bs [45])).bind fun val => (RN.strings_Cut val (bs [46])).bind fun v => (impl_digits v.fst).bind fun d => bif !d then some (0, false) else bif v.snd.snd then (impl_digits v.snd.fst).bind fun e => bif !e then some (0, false) else bif decide ((↑v.snd.fst.size : Int) > 6) then some (0, false) else mid v (k val v) else mid v (k val v)
noncomputable def kN (t val : ByteArray) (v : ByteArray × ByteArray × Bool) : Option (Nat × Bool) :=
  (dPar (v.fst ++ v.snd.fst) 10 64).bind fun n => bif decide (n > 1000000000000000) then some (0, false) else bif n == 0 then bif !(val.toList == t.toList) then some (0, false) else bif !(val.toList == t.toList) then (impl_ten (↑v.snd.fst.size : Int)).bind fun z => some (fdiv (fofi (IntKind.i64.wrap (0 - n))) z, true) else (impl_ten (↑v.snd.fst.size : Int)).bind fun z => some (fdiv (fofi n) z, true) else bif !(val.toList == t.toList) then (impl_ten (↑v.snd.fst.size : Int)).bind fun z => some (fdiv (fofi (IntKind.i64.wrap (0 - n))) z, true) else (impl_ten (↑v.snd.fst.size : Int)).bind fun z => some (fdiv (fofi n) z, true)
noncomputable def kB (v : ByteArray × ByteArray × Bool) : Option (Nat × Bool) := (dParR (v.fst ++ v.snd.fst) 10 64).bind fun _ => some (0, false)
theorem rn_pre {t : ByteArray} (h : plainT t) : RN.impl_ReadNumber t = pre t (kN t) := by
  obtain ⟨h1, h2, h3⟩ := plain_eq h
  unfold RN.impl_ReadNumber
  rw [h1, h2, h3, cond_false, cond_false, cond_false]
  rfl
theorem rb_pre {t : ByteArray} (h : plainT t) : RB.impl_ReadNumber t = pre t (fun _ => kB) := by
  obtain ⟨h1, h2, h3⟩ := plain_eq h
  unfold RB.impl_ReadNumber
  rw [h1, h2, h3, cond_false, cond_false, cond_false]
  rfl
/-- What the way lets through. -/
theorem pre_cases {t : ByteArray} (hs : t.size ≤ 1048576) : (∀ k, pre t k = some (0, false)) ∨ ∃ (sg pt : Bool) (R W P : List UInt8),
    L t = (if sg = true then [45] else []) ++ (W ++ (if pt = true then 46 :: P else [])) ∧ (pt = false → P = []) ∧ (pt = true → P ≠ []) ∧ W ≠ [] ∧ W.all isDig = true ∧ P.all isDig = true ∧ (W.length ≤ 1 ∨ W.head? ≠ some 48) ∧ W.length ≤ 17 ∧ P.length ≤ 6 ∧ ((bs R).toList == t.toList) = !sg ∧ ∀ k, pre t k = k (bs R) (bs W, bs P, pt) := by
  obtain ⟨sg, R, hR, hL, hx⟩ := trim_any t
  have hRl : R.length ≤ 1048576 := by
    have := congrArg List.length hL
    rw [L_length, List.length_append] at this
    omega
  obtain ⟨W, P, pt, hc, hRW, hP⟩ := cut_any (R := R) (by omega)
  have hlen : W.length + P.length ≤ 1048576 := by
    have := congrArg List.length hRW
    rw [List.length_append] at this
    cases pt with
    | true => simp only [if_true, List.length_cons] at this; omega
    | false => rw [hP rfl]; simp only [Bool.false_eq_true, if_false, List.length_nil] at this ⊢; omega
  have hdW : impl_digits (bs W) = some (W.all isDig && decide (0 < W.length)) := by rw [impl_digits_eq (by rw [size_bs]; omega), L_bs, size_bs]
  have hdP : impl_digits (bs P) = some (P.all isDig && decide (0 < P.length)) := by rw [impl_digits_eq (by rw [size_bs]; omega), L_bs, size_bs]
  have hpre : ∀ k, pre t k = (bif !(W.all isDig && decide (0 < W.length)) then some (0, false) else bif pt then bif !(P.all isDig && decide (0 < P.length)) then some (0, false) else bif decide ((↑P.length : Int) > 6) then some (0, false) else mid (bs W, bs P, pt) (k (bs R) (bs W, bs P, pt)) else mid (bs W, bs P, pt) (k (bs R) (bs W, bs P, pt))) := fun k => by
    unfold pre
    simp only [hR, Option.bind_some, hc, hdW, hdP, size_bs]
  cases hW : (W.all isDig && decide (0 < W.length)) with
  | false => left; intro k; rw [hpre, hW]; rfl
  | true =>
    rw [Bool.and_eq_true, decide_eq_true_eq] at hW
    obtain ⟨wd, wl⟩ := hW
    have w0 : W ≠ [] := by rintro rfl; simp at wl
    have hmid : (∀ x, mid (bs W, bs P, pt) x = some (0, false)) ∨ ((W.length ≤ 1 ∨ W.head? ≠ some 48) ∧ W.length ≤ 17 ∧ ∀ x, mid (bs W, bs P, pt) x = x) := by
      have hz : (bs W).size = W.length := size_bs W
      have hz2 : (bs P).size = P.length := size_bs P
      have hb : bt (bs W) 0 = ((W.getD 0 0).toNat : Int) := by
        have := bt_nat (bs W) 0
        rw [L_bs] at this; exact this
      unfold mid
      simp only [hz, hz2, hb, beqI, show W.length + P.length ≤ 9223372036854775807 by omega, show (0 : Int) < (W.length : Int) by omega, decide_true, cond_true]
      by_cases h1 : (W.length : Int) > 1
      · simp only [h1, decide_true, cond_true]
        by_cases h48 : (((W.getD 0 0).toNat : Nat) : Int) = 48
        · left; intro x; simp only [h48, decide_true, cond_true]
        · by_cases h17 : (W.length : Int) > 17
          · left; intro x; simp only [h48, h17, decide_true, decide_false, cond_true, cond_false]
          · right
            refine ⟨.inr fun hc => ?_, by omega, fun x => by simp only [h48, h17, decide_false, cond_false]⟩
            apply h48
            cases W with
            | nil => exact absurd rfl w0
            | cons c W =>
              injection hc with hc
              rw [hc]; rfl
      · simp only [h1, decide_false, cond_false, show ¬ (W.length : Int) > 17 by omega]
        right
        exact ⟨.inl (by omega), by omega, fun _ => trivial⟩
    rcases hmid with hmid | ⟨head, h17, hmid⟩
    · left; intro k
      rw [hpre, wd, decide_eq_true wl, hmid]
      cases pt with
      | false => rfl
      | true =>
        cases (P.all isDig && decide (0 < P.length)) with
        | false => rfl
        | true => cases decide ((P.length : Int) > 6) <;> rfl
    · cases pt with
      | false =>
        right
        refine ⟨sg, false, R, W, P, by rw [hL, hRW], hP, (fun h => by cases h), w0, wd, by rw [hP rfl]; rfl, head, h17, by rw [hP rfl]; simp, hx, fun k => ?_⟩
        rw [hpre, wd, decide_eq_true wl, hmid]; rfl
      | true =>
        cases hPd : (P.all isDig && decide (0 < P.length)) with
        | false => left; intro k; rw [hpre, wd, decide_eq_true wl, hPd]; rfl
        | true =>
          have hPd' := hPd
          rw [Bool.and_eq_true, decide_eq_true_eq] at hPd'
          by_cases h6 : (P.length : Int) > 6
          · left; intro k; rw [hpre, wd, decide_eq_true wl, hPd, decide_eq_true h6]; rfl
          · right
            refine ⟨sg, true, R, W, P, by rw [hL, hRW], hP, (fun _ h => by rw [h] at hPd'; simp at hPd'), w0, wd, hPd'.1, head, h17, by omega, hx, fun k => ?_⟩
            rw [hpre, wd, decide_eq_true wl, hPd, decide_eq_false h6, hmid]; rfl
end Go.Proofs.YtgkejafaggaocaaDoor.RU
