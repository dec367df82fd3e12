/-
  Part of a proof by the engine: texts that a program of ours printed, or plain lemmas on them. No condition but what each theorem says.
-/
import Derived.Test.YtgkejafaggaocaaDoorSR
import Derived.Test.YtgkejafaggaocaaDoorRNPlain
set_option linter.unusedVariables false
set_option linter.unusedSimpArgs false
namespace Go.Proofs.YtgkejafaggaocaaDoor.SR
open Go Go.Eng Go.FT Go.Proofs.YtgkejafaggaocaaDoor.DT Go.Proofs.YtgkejafaggaocaaDoor.EX Go.Proofs.YtgkejafaggaocaaDoor.NR Go.Proofs.YtgkejafaggaocaaDoor.TD Go.Proofs.YtgkejafaggaocaaDoor.RN
/-- What the loop finds: the number and its places. -/
def scan : Bool → List UInt8 → Nat → Int → Option (Nat × Int)
  | _, [], n, pl => some (n, pl)
  | b, c :: l, n, pl =>
    if c.toNat = 46 ∧ pl < 0 then scan false l n 0
    else if isDig c = true then (if n > 1000000000000000 then none else scan false l (n * 10 + (c.toNat - 48)) (if pl ≥ 0 then pl + 1 else pl))
    else if b = false ∨ c.toNat ≠ 45 then none else scan false l n pl
/-- What is made of it. -/
noncomputable def tailV (s : ByteArray) (n : Nat) (pl : Int) : Nat × Bool :=
  if pl = 0 ∨ pl > 6 ∨ n > 1000000000000000 then (0, false)
  else if ntxt (if (L s).head? = some 45 then -(n : Int) else (n : Int)) pl.toNat = s then (fdiv (fofi (if (L s).head? = some 45 then -(n : Int) else (n : Int))) (tenB pl.toNat), true) else (0, false)
noncomputable def outV (s : ByteArray) : Option (Nat × Int) → Nat × Bool
  | none => (0, false)
  | some y => tailV s y.1 y.2
theorem one_end {s : ByteArray} {m : Int} {p : Nat} (hm : m.natAbs ≤ 1000000000000000) (hp : p ≤ 6) :
    ((spec_l1Point m (p : Int)).bind fun val => bif !(val.toList == s.toList) then some ((0 : Nat), false) else (spec_l1Ten (p : Int)).bind fun val => some (fdiv (fofi m) (fofi val), true)) = some (if ntxt m p = s then (fdiv (fofi m) (tenB p), true) else (0, false)) := by
  rw [point_spec (n := m) (p := p) (by omega) (by omega), Option.bind_some, ten_spec (n := p) (by omega), Option.bind_some, ten_of p (by omega), beq_bytes]
  by_cases h : ntxt m p = s
  · rw [if_pos h, decide_eq_true h]; rfl
  · rw [if_neg h, decide_eq_false h]; rfl
theorem head_bt {s : ByteArray} (h : 0 < s.size) : (bt s 0 == 45) = decide ((L s).head? = some 45) := by
  have hb : bt s 0 = (((L s).getD 0 0).toNat : Int) := bt_nat s 0
  have hl : 0 < (L s).length := by rw [L_length]; exact h
  cases hL : L s with
  | nil => rw [hL] at hl; simp at hl
  | cons c l =>
    have hb' : bt s 0 = (c.toNat : Int) := by rw [hb, hL]; rfl
    rw [hb', beqI, List.head?_cons, decide_eq_decide]
    constructor
    · intro h
      have : c = 45 := UInt8.toNat_inj.1 (by show c.toNat = 45; omega)
      rw [this]
    · intro h
      injection h with h
      rw [h]; rfl
theorem tail_ok {s : ByteArray} {n : Nat} {pl : Int} (hn : n ≤ 10000000000000009) (hp : -1 ≤ pl) :
    (bif pl == 0 then some ((0 : Nat), false) else bif decide (pl > 6) then some (0, false) else bif decide ((n : Int) > 1000000000000000) then some (0, false) else bif decide ((↑s.size : Int) > 0) then bif decide (0 < (↑s.size : Int)) then bif bt s 0 == 45 then (spec_l1Point (IntKind.i64.wrap (0 - (n : Int))) (if 0 > pl then 0 else pl)).bind fun val => bif !ByteArray.toList val == s.toList then some (0, false) else (spec_l1Ten (if 0 > pl then 0 else pl)).bind fun val => some (fdiv (fofi (IntKind.i64.wrap (0 - (n : Int)))) (fofi val), true) else (spec_l1Point (n : Int) (if 0 > pl then 0 else pl)).bind fun val => bif !ByteArray.toList val == s.toList then some (0, false) else (spec_l1Ten (if 0 > pl then 0 else pl)).bind fun val => some (fdiv (fofi (n : Int)) (fofi val), true) else none else (spec_l1Point (n : Int) (if 0 > pl then 0 else pl)).bind fun val => bif !ByteArray.toList val == s.toList then some (0, false) else (spec_l1Ten (if 0 > pl then 0 else pl)).bind fun val => some (fdiv (fofi (n : Int)) (fofi val), true)) = some (tailV s n pl) := by
  rw [beqI]
  by_cases c1 : pl = 0
  · have e : tailV s n pl = (0, false) := by unfold tailV; exact if_pos (.inl c1)
    rw [e, decide_eq_true c1]; rfl
  · by_cases c2 : pl > 6
    · have e : tailV s n pl = (0, false) := by unfold tailV; exact if_pos (.inr (.inl c2))
      rw [e, decide_eq_false c1, decide_eq_true c2]; rfl
    · by_cases c3 : n > 1000000000000000
      · have e : tailV s n pl = (0, false) := by unfold tailV; exact if_pos (.inr (.inr c3))
        rw [e, decide_eq_false c1, decide_eq_false c2, decide_eq_true (show (n : Int) > 1000000000000000 by omega)]; rfl
      · have e : tailV s n pl = if ntxt (if (L s).head? = some 45 then -(n : Int) else (n : Int)) pl.toNat = s then (fdiv (fofi (if (L s).head? = some 45 then -(n : Int) else (n : Int))) (tenB pl.toNat), true) else (0, false) := by unfold tailV; exact if_neg (by omega)
        rw [e, decide_eq_false c1, decide_eq_false c2, decide_eq_false (show ¬ (n : Int) > 1000000000000000 by omega), cond_false, cond_false, cond_false]
        have ep : (if 0 > pl then 0 else pl) = ((pl.toNat : Nat) : Int) := by split <;> omega
        have ew : IntKind.i64.wrap (0 - (n : Int)) = -(n : Int) := by rw [w64 (by omega) (by omega)]; omega
        rw [ep, ew]
        by_cases hs : 0 < s.size
        · rw [decide_eq_true (show (s.size : Int) > 0 by omega), cond_true, cond_true, head_bt hs]
          by_cases hh : (L s).head? = some 45
          · rw [decide_eq_true hh, cond_true, if_pos hh]
            exact one_end (by omega) (by omega)
          · rw [decide_eq_false hh, cond_false, if_neg hh]
            exact one_end (by omega) (by omega)
        · have hh : ¬ (L s).head? = some 45 := by
            have : L s = [] := List.eq_nil_of_length_eq_zero (by rw [L_length]; omega)
            rw [this]; simp
          rw [decide_eq_false (show ¬ (s.size : Int) > 0 by omega), cond_false, if_neg hh]
          exact one_end (by omega) (by omega)
theorem digit_eq (c : UInt8) : spec_l1Digit (c.toNat : Int) = some (isDig c) := by
  unfold spec_l1Digit isDig
  by_cases h : (c.toNat : Int) ≥ 48
  · rw [decide_eq_true h, cond_true, decide_eq_true (show 48 ≤ c.toNat by omega), Bool.true_and]
    congr 1
    rw [decide_eq_decide]; omega
  · rw [decide_eq_false h, cond_false, decide_eq_false (show ¬ 48 ≤ c.toNat by omega), Bool.false_and]
theorem scan_loop {s : ByteArray} (hs : s.size ≤ 30) : ∀ (m i n : Nat) (pl : Int), s.size - i = m → i ≤ s.size → n ≤ 10000000000000009 → -1 ≤ pl → pl ≤ (i : Int) →
    Ev (fun k => spec_ReadNumber_L13 k s (n : Int) pl (i : Int)) (outV s (scan (decide (i = 0)) ((L s).drop i) n pl))
  | 0, i, n, pl, hm, hi, hn, h1, h2 => by
    obtain rfl : i = s.size := by omega
    apply ev_succ
    simp only [spec_ReadNumber_L13, show ¬ (s.size : Int) < (s.size : Int) by omega, decide_false, cond_false]
    rw [List.drop_eq_nil_of_le (by rw [L_length]; omega)]
    exact ev_of (tail_ok hn h1)
  | m + 1, i, n, pl, hm, hi, hn, h1, h2 => by
    have hlt : (i : Int) < (s.size : Int) := by omega
    have hl : i < (L s).length := by rw [L_length]; omega
    have hb : bt s (i : Int) = ((L s)[i].toNat : Int) := by rw [bt_nat, List.getD, List.getElem?_eq_getElem hl]; rfl
    have hw1 : IntKind.i64.wrap ((i : Int) + 1) = ((i + 1 : Nat) : Int) := wsucc (by omega)
    have hw2 : IntKind.i64.wrap (pl + 1) = pl + 1 := w64 (by omega) (by omega)
    have hne : decide (i + 1 = 0) = false := decide_eq_false (by omega)
    apply ev_succ
    rw [drop_cons hl]
    generalize (L s)[i] = c at hb
    have ih := fun n' pl' => scan_loop hs m (i + 1) n' pl' (by omega) (by omega)
    rw [hne] at ih
    simp only [spec_ReadNumber_L13, hlt, show (0 : Int) ≤ (i : Int) by omega, decide_true, cond_true, hb, digit_eq, Option.bind_some, hw1, hw2, beqI, bneI]
    unfold scan
    by_cases c0 : c.toNat = 46 ∧ pl < 0
    · rw [if_pos c0]
      simp only [show (c.toNat : Int) = 46 by omega, c0.2, decide_true, cond_true]
      exact ih n 0 (by omega) (by omega) (by omega)
    · rw [if_neg c0]
      have rest : Ev (fun k => bif isDig c then bif decide ((n : Int) > 1000000000000000) then some ((0 : Nat), false) else bif decide (pl ≥ 0) then spec_ReadNumber_L13 k s (IntKind.i64.wrap (IntKind.i64.wrap ((n : Int) * 10) + IntKind.i64.wrap (IntKind.u8.wrap ((c.toNat : Int) - 48)))) (pl + 1) ((i + 1 : Nat) : Int) else spec_ReadNumber_L13 k s (IntKind.i64.wrap (IntKind.i64.wrap ((n : Int) * 10) + IntKind.i64.wrap (IntKind.u8.wrap ((c.toNat : Int) - 48)))) pl ((i + 1 : Nat) : Int) else bif decide ((i : Int) > 0) then some (0, false) else bif !decide ((c.toNat : Int) = 45) then some (0, false) else spec_ReadNumber_L13 k s (n : Int) pl ((i + 1 : Nat) : Int))
          (outV s (if isDig c = true then (if n > 1000000000000000 then none else scan false ((L s).drop (i + 1)) (n * 10 + (c.toNat - 48)) (if pl ≥ 0 then pl + 1 else pl)) else if decide (i = 0) = false ∨ c.toNat ≠ 45 then none else scan false ((L s).drop (i + 1)) n pl)) := by
        by_cases hd : isDig c = true
        · rw [if_pos hd]
          simp only [hd, cond_true]
          by_cases hb : n > 1000000000000000
          · rw [if_pos hb]
            simp only [show (n : Int) > 1000000000000000 by omega, decide_true, cond_true]
            exact ev_now _
          · rw [if_neg hb]
            simp only [isDig, Bool.and_eq_true, decide_eq_true_eq] at hd
            have e1 : IntKind.i64.wrap (IntKind.i64.wrap ((n : Int) * 10) + IntKind.i64.wrap (IntKind.u8.wrap ((c.toNat : Int) - 48))) = ((n * 10 + (c.toNat - 48) : Nat) : Int) := by
              rw [wu8 (by omega) (by omega), w64 (n := (n : Int) * 10) (by omega) (by omega), w64 (n := (c.toNat : Int) - 48) (by omega) (by omega), w64 (by omega) (by omega)]; omega
            simp only [show ¬ (n : Int) > 1000000000000000 by omega, decide_false, cond_false, e1]
            by_cases hpl : pl ≥ 0
            · rw [if_pos hpl]
              simp only [hpl, decide_true, cond_true]
              exact ih _ _ (by omega) (by omega) (by omega)
            · rw [if_neg hpl]
              simp only [hpl, decide_false, cond_false]
              exact ih _ _ (by omega) (by omega) (by omega)
        · rw [if_neg hd]
          have hd' : isDig c = false := by cases h : isDig c <;> simp_all
          simp only [hd', cond_false]
          by_cases h0 : i = 0
          · have e0 : ¬ (i : Int) > 0 := by omega
            simp only [e0, decide_false, cond_false]
            by_cases h45 : c.toNat = 45
            · rw [if_neg (by simp [h0, h45])]
              simp only [show (c.toNat : Int) = 45 by omega, decide_true, Bool.not_true, cond_false]
              exact ih _ _ (by omega) (by omega) (by omega)
            · rw [if_pos (.inr h45)]
              simp only [show ¬ (c.toNat : Int) = 45 by omega, decide_false, Bool.not_false, cond_true]
              exact ev_now _
          · rw [if_pos (.inl (decide_eq_false h0))]
            simp only [show (i : Int) > 0 by omega, decide_true, cond_true]
            exact ev_now _
      by_cases c46 : (c.toNat : Int) = 46
      · have hpl : ¬ pl < 0 := fun h => c0 ⟨by omega, h⟩
        simp only [c46, hpl, decide_true, decide_false, cond_true, cond_false]
        rw [c46] at rest
        exact rest
      · simp only [c46, decide_false, cond_false]
        exact rest
end Go.Proofs.YtgkejafaggaocaaDoor.SR

namespace Go.Proofs.YtgkejafaggaocaaDoor.SR
open Go Go.Eng Go.FT Go.Proofs.YtgkejafaggaocaaDoor.DT Go.Proofs.YtgkejafaggaocaaDoor.EX Go.Proofs.YtgkejafaggaocaaDoor.NR Go.Proofs.YtgkejafaggaocaaDoor.TD Go.Proofs.YtgkejafaggaocaaDoor.RN
/-- None of the three words. -/
def plainT (t : ByteArray) : Prop := t ≠ bs [47] ∧ t ≠ bs [104, 105, 103, 104] ∧ t ≠ bs [108, 111, 119]
theorem plain_eq {t : ByteArray} (h : plainT t) : (t.toList == (bs [47]).toList) = false ∧ (t.toList == (bs [104, 105, 103, 104]).toList) = false ∧ (t.toList == (bs [108, 111, 119]).toList) = false := by
  obtain ⟨h1, h2, h3⟩ := h
  exact ⟨by rw [beq_bytes, decide_eq_false h1], by rw [beq_bytes, decide_eq_false h2], by rw [beq_bytes, decide_eq_false h3]⟩
theorem read_spec {t : ByteArray} (h : plainT t) : spec_ReadNumber t = some (if t.size > 30 then (0, false) else outV t (scan true (L t) 0 (-1))) := by
  obtain ⟨h1, h2, h3⟩ := plain_eq h
  refine evF_eq ?_
  unfold spec_ReadNumber_F
  simp only [h1, h2, h3, cond_false]
  by_cases hs : t.size > 30
  · rw [if_pos hs]
    simp only [show (t.size : Int) > 30 by omega, decide_true, cond_true]
    exact ev_now _
  · rw [if_neg hs]
    simp only [show ¬ (t.size : Int) > 30 by omega, decide_false, cond_false]
    exact scan_loop (s := t) (by omega) t.size 0 0 (-1) (by omega) (by omega) (by omega) (by omega) (by omega)
/-- What is no number's text is not read. -/
theorem spec_no {t : ByteArray} (h : plainT t) (hno : ∀ n p, n.natAbs ≤ 1000000000000000 → p ≤ 6 → ntxt n p ≠ t) : spec_ReadNumber t = some (0, false) := by
  rw [read_spec h]
  have key : ∀ x, outV t x = (0, false) := fun x => by
    cases x with
    | none => rfl
    | some y =>
      show tailV t y.1 y.2 = (0, false)
      unfold tailV
      by_cases c : y.2 = 0 ∨ y.2 > 6 ∨ y.1 > 1000000000000000
      · rw [if_pos c]
      · rw [if_neg c, if_neg (hno _ _ (by split <;> omega) (by omega))]
  rw [key]
  split <;> rfl
theorem scan_dig {c : UInt8} (b : Bool) (l : List UInt8) {a : Nat} (pl : Int) (hd : isDig c = true) (ha : a ≤ 1000000000000000) : scan b (c :: l) a pl = scan false l (a * 10 + (c.toNat - 48)) (if pl ≥ 0 then pl + 1 else pl) := by
  have hc := hd
  simp only [isDig, Bool.and_eq_true, decide_eq_true_eq] at hc
  rw [scan, if_neg (by omega), if_pos hd, if_neg (by omega)]
theorem scan_digits : ∀ (l r : List UInt8) (a : Nat) (pl : Int), l.all isDig = true → spl a l ≤ 1000000000000000 → -1 ≤ pl →
    scan false (l ++ r) a pl = scan false r (spl a l) (if pl ≥ 0 then pl + l.length else pl)
  | [], r, a, pl, _, _, _ => by
    show scan false r a pl = scan false r a _
    congr 1
    split
    · simp
    · rfl
  | c :: l, r, a, pl, hd, hs, hp => by
    rw [List.all_cons, Bool.and_eq_true] at hd
    have hc := hd.1
    simp only [isDig, Bool.and_eq_true, decide_eq_true_eq] at hc
    have hge := spl_ge l (a * 10 + (c.toNat - 48))
    have hpos : 0 < 10 ^ l.length := Nat.pow_pos (by omega)
    have hge2 : (a * 10 + (c.toNat - 48)) * 1 ≤ (a * 10 + (c.toNat - 48)) * 10 ^ l.length := Nat.mul_le_mul_left _ hpos
    have hs' : spl (a * 10 + (c.toNat - 48)) l ≤ 1000000000000000 := hs
    rw [List.cons_append, scan_dig false _ pl hd.1 (by omega), scan_digits l r _ _ hd.2 hs' (by split <;> omega)]
    show scan false r (spl (a * 10 + (c.toNat - 48)) l) _ = scan false r (spl (a * 10 + (c.toNat - 48)) l) _
    congr 1
    rw [List.length_cons]
    by_cases h0 : pl ≥ 0
    · rw [if_pos h0, if_pos (by omega), if_pos h0]; omega
    · rw [if_neg h0, if_neg h0]
      rw [if_neg h0]
theorem scan_first {W : List UInt8} (T : List UInt8) (b : Bool) (h0 : W ≠ []) (hd : W.all isDig = true) (hs : spl 0 W ≤ 1000000000000000) : scan b (W ++ T) 0 (-1) = scan false T (spl 0 W) (-1) := by
  have h1 := scan_digits W T 0 (-1) hd hs (by omega)
  rw [if_neg (by omega)] at h1
  rw [← h1]
  cases W with
  | nil => exact absurd rfl h0
  | cons c W =>
    rw [List.all_cons, Bool.and_eq_true] at hd
    rw [List.cons_append, scan_dig b _ _ hd.1 (by omega), scan_dig false _ _ hd.1 (by omega)]
theorem ntxt_plain {n : Int} {p : Nat} (hn : n.natAbs ≤ 1000000000000000) (hp : p ≤ 6) : plainT (ntxt n p) := by
  obtain ⟨W, P, h⟩ := parts_of hn hp
  refine ⟨fun e => ne_of h (d := 47) (r := []) (by decide) (by decide) (by rw [e]; rfl), fun e => ne_of h (d := 104) (r := [105, 103, 104]) (by decide) (by decide) (by rw [e]; rfl), fun e => ne_of h (d := 108) (r := [111, 119]) (by decide) (by decide) (by rw [e]; rfl)⟩
theorem spec_yes {n : Int} {p : Nat} (hn : n.natAbs ≤ 1000000000000000) (hp : p ≤ 6) : spec_ReadNumber (ntxt n p) = some (fdiv (fofi n) (tenB p), true) := by
  rw [read_spec (ntxt_plain hn hp)]
  obtain ⟨W, P, h⟩ := parts_of hn hp
  obtain ⟨txt, pl, w0, len, wd, pd, head, num⟩ := h
  have hsz : ¬ (ntxt n p).size > 30 := by
    rw [← L_length, txt, List.length_append, List.length_append]
    have e1 : (if n < 0 then [(45 : UInt8)] else []).length ≤ 1 := by split <;> simp
    have e2 : (if p = 0 then [] else (46 : UInt8) :: P).length ≤ P.length + 1 := by split <;> simp
    omega
  rw [if_neg hsz]
  have hsp : spl (spl 0 W) P = n.natAbs := by rw [← spl_append]; exact num
  have hge := spl_ge P (spl 0 W)
  have hpos : 0 < 10 ^ P.length := Nat.pow_pos (by omega)
  have hge2 : spl 0 W * 1 ≤ spl 0 W * 10 ^ P.length := Nat.mul_le_mul_left _ hpos
  have hW : spl 0 W ≤ 1000000000000000 := by omega
  have hT : scan false (if p = 0 then [] else 46 :: P) (spl 0 W) (-1) = some (n.natAbs, if p = 0 then -1 else (p : Int)) := by
    by_cases h0 : p = 0
    · rw [if_pos h0, if_pos h0]
      have hP : P = [] := List.eq_nil_of_length_eq_zero (by omega)
      rw [hP] at hsp
      show some (spl 0 W, (-1 : Int)) = _
      rw [show spl 0 W = n.natAbs from hsp]
    · rw [if_neg h0, if_neg h0]
      rw [scan, if_pos ⟨by decide, by omega⟩]
      have := scan_digits P [] (spl 0 W) 0 pd (by omega) (by omega)
      rw [List.append_nil] at this
      rw [this, hsp, if_pos (by omega), pl]
      show some (n.natAbs, (0 : Int) + (p : Int)) = _
      rw [Int.zero_add]
  have hscan : scan true (L (ntxt n p)) 0 (-1) = some (n.natAbs, if p = 0 then -1 else (p : Int)) := by
    rw [txt]
    by_cases hneg : n < 0
    · rw [if_pos hneg, List.singleton_append]
      rw [scan, if_neg (by rintro ⟨h, _⟩; exact absurd h (by decide)), if_neg (by decide), if_neg (by simp), scan_first _ false w0 wd hW]
      exact hT
    · rw [if_neg hneg, List.nil_append, scan_first _ true w0 wd hW]
      exact hT
  have hhead : ((L (ntxt n p)).head? = some 45) ↔ n < 0 := by
    rw [txt]
    by_cases hneg : n < 0
    · rw [if_pos hneg]; simp [hneg]
    · rw [if_neg hneg]
      cases W with
      | nil => exact absurd rfl w0
      | cons c W =>
        rw [List.all_cons, Bool.and_eq_true] at wd
        refine ⟨fun hc => ?_, fun h => absurd h hneg⟩
        injection hc with hc
        exact absurd hc (isDig_ne wd.1 (d := 45) (by decide))
  have hm : (if (L (ntxt n p)).head? = some 45 then -(n.natAbs : Int) else (n.natAbs : Int)) = n := by
    by_cases hneg : n < 0
    · rw [if_pos (hhead.2 hneg)]; omega
    · rw [if_neg (fun h => hneg (hhead.1 h))]; omega
  have hp2 : (if p = 0 then (-1 : Int) else (p : Int)).toNat = p := by split <;> omega
  rw [hscan]
  show some (tailV (ntxt n p) n.natAbs (if p = 0 then -1 else (p : Int))) = _
  unfold tailV
  rw [if_neg (by split <;> omega), hm, hp2, if_pos rfl]
end Go.Proofs.YtgkejafaggaocaaDoor.SR
