/-
  What the functions that judge a heading come to, the reference's and the program's: letters, figures, a centre's name, a mark, the whole heading. No condition but that texts are no longer than Go lets them be.
-/
import Derived.Test.YtmcmkdiefpepnaaDoorPureNumHT
namespace Go.Proofs.YtmcmkdiefpepnaaDoor.PNHT
open Go Go.RowKit Go.Proofs.YtmcmkdiefpepnaaDoorW.PrintWords Go.Proofs.YtmcmkdiefpepnaaDoor.PB Go.Proofs.YtmcmkdiefpepnaaDoor.XHT Go.Proofs.YtmcmkdiefpepnaaDoor.Ext

def up (c : UInt8) : Bool := decide (65 ≤ c.toNat) && decide (c.toNat ≤ 90)
def dig (c : UInt8) : Bool := decide (48 ≤ c.toNat) && decide (c.toNat ≤ 57)
theorem ev_and {f : Nat → Option Bool} {t r : Bool} (h : t = true → Ev f r) : Ev (fun k => if t = true then f k else some false) (t && r) := by
  cases t
  · exact ev_neg (by simp) (ev_const rfl)
  · exact ev_pos rfl (h rfl)
/-- A loop over a text's bytes that ends at the first one that isn't p. -/
theorem scan_ev {l : Nat → ByteArray → Int → Option Bool} (s : ByteArray) (p : UInt8 → Bool) (fin : Bool) (hs : s.size ≤ maxLen)
    (h0 : ∀ k, l (k + 1) s ((L s).length : Int) = some fin) (h1 : ∀ k (i : Nat) (h : i < (L s).length), l (k + 1) s (i : Int) = if p (L s)[i] = true then l k s (wrap64 ((i : Int) + 1)) else some false) :
    ∀ (d i : Nat), i + d = (L s).length → Ev (fun k => l k s (i : Int)) (((L s).drop i).all p && fin) := by
  intro d
  induction d with
  | zero =>
    intro i hi
    have : i = (L s).length := by omega
    subst this
    refine ev_round (fun k => h0 k) (ev_eq (Ev.now _) ?_)
    simp
  | succ d ih =>
    intro i hi
    have hl : i < (L s).length := by omega
    refine ev_round (fun k => h1 k i hl) ?_
    rw [List.drop_eq_getElem_cons hl, List.all_cons, Bool.and_assoc]
    refine ev_and (fun _ => ?_)
    have hw : wrap64 ((i : Int) + 1) = ((i + 1 : Nat) : Int) := by
      rw [L_length] at hl; rw [maxLen_eq] at hs; rw [w64 (by omega) (by omega)]; omega
    simp only [hw]
    exact ih (i + 1) (by omega)
theorem up_iff (c : UInt8) : up c = true ↔ ¬ ((c.toNat : Int) < 65) ∧ ¬ ((c.toNat : Int) > 90) := by
  unfold up; simp only [Bool.and_eq_true, decide_eq_true_eq]; omega
theorem dig_iff (c : UInt8) : dig c = true ↔ ¬ ((c.toNat : Int) < 48) ∧ ¬ ((c.toNat : Int) > 57) := by
  unfold dig; simp only [Bool.and_eq_true, decide_eq_true_eq]; omega
theorem ite_two {α : Type} {a b : Prop} [Decidable a] [Decidable b] {p : Bool} (hp : p = true ↔ ¬ a ∧ ¬ b) (x y : α) : (if a then x else (if b then x else y)) = if p = true then y else x := by
  by_cases ha : a
  · rw [if_pos ha, if_neg (by rw [hp]; exact fun h => h.1 ha)]
  · by_cases hb : b
    · rw [if_neg ha, if_pos hb, if_neg (by rw [hp]; exact fun h => h.2 hb)]
    · rw [if_neg ha, if_neg hb, if_pos (by rw [hp]; exact ⟨ha, hb⟩)]
theorem letters_ev (s : ByteArray) (hs : s.size ≤ maxLen) : Ev (fun k => spec_l4Letters.f k s) ((L s).all up) := by
  unfold spec_l4Letters.f
  refine ev_eq (scan_ev (l := spec_l4Letters.l0) s up true hs (fun k => ?_) (fun k i h => ?_) (L s).length 0 (by omega)) (by simp)
  · rw [spec_l4Letters.l0, if_neg (by rw [L_length]; omega)]
  · have h' := h; rw [L_length] at h'
    rw [spec_l4Letters.l0, if_pos (by omega), if_pos (by omega), bt_nat s i h, ite_two (up_iff _)]
theorem capitals_ev (s : ByteArray) (n : Nat) (hs : s.size ≤ maxLen) : Ev (fun k => impl_capitals.f k s (n : Int)) ((L s).all up && decide (s.size = n)) := by
  unfold impl_capitals.f
  refine ev_eq (scan_ev (l := fun k s i => impl_capitals.l0 k s (n : Int) i) s up (decide (s.size = n)) hs (fun k => ?_) (fun k i h => ?_) (L s).length 0 (by omega)) (by simp)
  · rw [impl_capitals.l0, if_neg (by rw [L_length]; omega)]
    refine congrArg some ?_
    rw [Bool.eq_iff_iff, beq_iff_eq, decide_eq_true_eq]; omega
  · have h' := h; rw [L_length] at h'
    rw [impl_capitals.l0, if_pos (by omega), if_pos (by omega), bt_nat s i h, ite_two (up_iff _)]
theorem digits_ev (s : ByteArray) (hs : s.size ≤ maxLen) : Ev (fun k => impl_digits.f k s) ((L s).all dig && decide (0 < s.size)) := by
  unfold impl_digits.f
  refine ev_eq (scan_ev (l := impl_digits.l0) s dig (decide (0 < s.size)) hs (fun k => ?_) (fun k i h => ?_) (L s).length 0 (by omega)) (by simp)
  · rw [impl_digits.l0, if_neg (by rw [L_length]; omega)]
    refine congrArg some ?_
    rw [Bool.eq_iff_iff, decide_eq_true_eq, decide_eq_true_eq]; omega
  · have h' := h; rw [L_length] at h'
    rw [impl_digits.l0, if_pos (by omega), if_pos (by omega), bt_nat s i h, ite_two (dig_iff _)]
theorem digit_eq (c : UInt8) : spec_l1Digit.f (c.toNat : Int) = some (dig c) := by
  unfold spec_l1Digit.f dig
  by_cases h : (c.toNat : Int) ≥ 48
  · rw [if_pos h]
    refine congrArg some ?_
    rw [Bool.eq_iff_iff]; simp only [Bool.and_eq_true, decide_eq_true_eq]; omega
  · rw [if_neg h]
    refine congrArg some ?_
    rw [Bool.eq_iff_iff]; simp only [Bool.and_eq_true, decide_eq_true_eq]
    exact ⟨fun h => (by cases h), fun h' => by omega⟩
theorem in_spec (a b c : Int) : spec_l2In.f a b c = some (decide (b ≤ a) && decide (a ≤ c)) := by
  unfold spec_l2In.f
  by_cases h : a ≥ b
  · rw [if_pos h, decide_eq_true (show b ≤ a from h), Bool.true_and]
  · rw [if_neg h, decide_eq_false (show ¬ b ≤ a from h), Bool.false_and]
theorem in_impl (a b c : Int) : impl_in.f a b c = some (decide (b ≤ a) && decide (a ≤ c)) := by
  unfold impl_in.f
  by_cases h : a ≥ b
  · rw [if_pos h, decide_eq_true (show b ≤ a from h), Bool.true_and]
  · rw [if_neg h, decide_eq_false (show ¬ b ≤ a from h), Bool.false_and]
/-- One byte cut out. -/
theorem cut_one (s : ByteArray) (i : Nat) (h : i < (L s).length) : L (s.extract i (i + 1)) = [(L s)[i]] := by
  rw [L_extract, List.drop_eq_getElem_cons h, show i + 1 - i = 1 from by omega]; rfl
theorem cut_size (s : ByteArray) (i : Nat) (h : i < (L s).length) : (s.extract i (i + 1)).size = 1 := by
  rw [← L_length, cut_one s i h]; rfl
def centre (l : List UInt8) : Bool := decide (l.length = 4) && (l.take 1).all up && (l.drop 1).all (fun c => up c || dig c)
theorem centre_spec_l (s : ByteArray) (h4 : (L s).length = 4) : ∀ (d i : Nat), i + d = 4 → Ev (fun k => spec_l4CentreOk.l0 k s (i : Int)) (((L s).drop i).all (fun c => up c || dig c)) := by
  intro d
  induction d with
  | zero =>
    intro i hi
    have : i = 4 := by omega
    subst this
    refine ev_round (fun k => rfl) (ev_neg (by omega) (ev_eq (Ev.now _) ?_))
    rw [List.drop_eq_nil_of_le (by omega)]; rfl
  | succ d ih =>
    intro i hi
    have hl : i < (L s).length := by omega
    have hz := L_length s
    have hw : wrap64 ((i : Int) + 1) = ((i + 1 : Nat) : Int) := by rw [w64 (by omega) (by omega)]; omega
    refine ev_round (fun k => rfl) (ev_pos (by omega) (ev_pos (by omega) (ev_pos (by omega) ?_)))
    simp only [bt_nat s i hl, hw, Int.toNat_natCast]
    refine ev_bindc (digit_eq _) ?_
    rw [List.drop_eq_getElem_cons hl, List.all_cons]
    cases hd : dig (L s)[i]
    · refine ev_neg (by simp) (ev_pos (by omega) (ev_pos (by omega) (Ev.bind (letters_ev _ (by rw [cut_size s i hl, maxLen_eq]; omega)) ?_)))
      rw [cut_one s i hl]
      simp only [List.all_cons, List.all_nil, Bool.and_true, Bool.or_false]
      exact ev_and (fun _ => ih (i + 1) (by omega))
    · rw [Bool.or_true, Bool.true_and]
      exact ev_pos rfl (ih (i + 1) (by omega))
theorem centre_spec (s : ByteArray) : Ev (fun k => spec_l4CentreOk.f k s) (centre (L s)) := by
  unfold spec_l4CentreOk.f centre
  have hz := L_length s
  by_cases h : (s.size : Int) = 4
  · have h4 : (L s).length = 4 := by omega
    refine ev_pos h (ev_pos (by omega) (ev_pos (by omega) (Ev.bind (letters_ev _ (by rw [cut_size s 0 (by omega), maxLen_eq]; omega)) ?_)))
    rw [cut_one s 0 (by omega)]
    have ht : (L s).take 1 = [(L s)[0]'(by omega)] := by
      exact take_one (by omega)
    rw [ht, decide_eq_true h4, Bool.true_and]
    refine ev_succ ?_
    simp only [spec_l4CentreOk.j0]
    cases hu : List.all [(L s)[0]'(by omega)] up
    · exact ev_pos (by simp) (Ev.now _)
    · refine ev_neg (by simp) (ev_eq (centre_spec_l s h4 3 1 rfl) ?_)
      rw [Bool.true_and]
  · refine ev_neg h (ev_succ ?_)
    simp only [spec_l4CentreOk.j0]
    refine ev_pos (by simp) (ev_eq (Ev.now _) ?_)
    rw [decide_eq_false (by omega)]; rfl
theorem centre_impl_l (s : ByteArray) (h4 : (L s).length = 4) : ∀ (d i : Nat), i + d = 4 → Ev (fun k => impl_centreOk.l0 k s (i : Int)) (((L s).drop i).all (fun c => up c || dig c)) := by
  intro d
  induction d with
  | zero =>
    intro i hi
    have : i = 4 := by omega
    subst this
    refine ev_round (fun k => rfl) (ev_neg (by omega) (ev_eq (Ev.now _) ?_))
    rw [List.drop_eq_nil_of_le (by omega)]; rfl
  | succ d ih =>
    intro i hi
    have hl : i < (L s).length := by omega
    have hz := L_length s
    have hw : wrap64 ((i : Int) + 1) = ((i + 1 : Nat) : Int) := by rw [w64 (by omega) (by omega)]; omega
    refine ev_round (fun k => rfl) (ev_pos (by omega) (ev_pos (by omega) ?_))
    simp only [hw, Int.toNat_natCast]
    refine ev_pos (by omega) (ev_pos (by omega) (Ev.bind (capitals_ev _ 1 (by rw [cut_size s i hl, maxLen_eq]; omega)) ?_))
    rw [cut_one s i hl, cut_size s i hl, List.drop_eq_getElem_cons hl, List.all_cons]
    simp only [List.all_cons, List.all_nil, Bool.and_true, decide_true]
    cases hd : up (L s)[i]
    · refine ev_neg (by simp) (Ev.bind (digits_ev _ (by rw [cut_size s i hl, maxLen_eq]; omega)) ?_)
      rw [cut_one s i hl, cut_size s i hl]
      simp only [List.all_cons, List.all_nil, Bool.and_true, decide_true, Nat.lt_add_one, Bool.false_or]
      exact ev_and (fun _ => ih (i + 1) (by omega))
    · rw [Bool.true_or, Bool.true_and]
      exact ev_pos rfl (ih (i + 1) (by omega))
theorem centre_impl (s : ByteArray) : Ev (fun k => impl_centreOk.f k s) (centre (L s)) := by
  unfold impl_centreOk.f centre
  have hz := L_length s
  by_cases h : (s.size : Int) = 4
  · have h4 : (L s).length = 4 := by omega
    refine ev_pos h (ev_pos (by omega) (ev_pos (by omega) (Ev.bind (capitals_ev _ 1 (by rw [cut_size s 0 (by omega), maxLen_eq]; omega)) ?_)))
    rw [cut_one s 0 (by omega), cut_size s 0 (by omega)]
    have ht : (L s).take 1 = [(L s)[0]'(by omega)] := by
      exact take_one (by omega)
    rw [ht, decide_eq_true h4, Bool.true_and, decide_eq_true rfl, Bool.and_true]
    refine ev_succ ?_
    simp only [impl_centreOk.j0]
    cases hu : List.all [(L s)[0]'(by omega)] up
    · exact ev_pos (by simp) (Ev.now _)
    · refine ev_neg (by simp) (ev_eq (centre_impl_l s h4 3 1 rfl) ?_)
      rw [Bool.true_and]
  · refine ev_neg h (ev_succ ?_)
    simp only [impl_centreOk.j0]
    refine ev_pos (by simp) (ev_eq (Ev.now _) ?_)
    rw [decide_eq_false (by omega)]; rfl
/-- What a mark says. -/
def mark : List UInt8 → Int × Int
  | [] => (0, 0)
  | [a, b, c] => if up a && (up b && up c) then (if a = 80 then (4, ((b.toNat : Int) - 65) * 26 + ((c.toNat : Int) - 65) + 1) else if a = b ∧ c.toNat ≤ 88 then (if a = 82 then (1, (c.toNat : Int) - 64) else if a = 67 then (2, (c.toNat : Int) - 64) else if a = 65 then (3, (c.toNat : Int) - 64) else (-1, 0)) else (-1, 0)) else (-1, 0)
  | _ => (-1, 0)
theorem toNat_inj {a b : UInt8} : ((a.toNat : Int) = (b.toNat : Int)) ↔ a = b := ⟨fun h => UInt8.toNat_inj.1 (by omega), fun h => by rw [h]⟩
theorem three {l : List UInt8} (h : l.length = 3) : ∃ a b c, l = [a, b, c] := by
  match l, h with
  | [a, b, c], _ => exact ⟨a, b, c, rfl⟩
theorem mark_other {l : List UInt8} (h0 : l ≠ []) (h3 : l.length ≠ 3) : mark l = (-1, 0) := by
  match l, h0, h3 with
  | [_], _, _ => rfl
  | [_, _], _, _ => rfl
  | _ :: _ :: _ :: _ :: _, _, _ => rfl
  | [_, _, _], _, h3 => exact absurd rfl h3
theorem up_nat {c : UInt8} (h : up c = true) : 65 ≤ c.toNat ∧ c.toNat ≤ 90 := by
  unfold up at h; simpa using h
theorem mark_spec (s : ByteArray) (hs : s.size ≤ maxLen) : Ev (fun k => spec_MarkOf.f k s) (mark (L s)) := by
  unfold spec_MarkOf.f
  have hz := L_length s
  rw [toList_L]
  by_cases h0 : L s = []
  · rw [h0]; exact ev_pos rfl (Ev.now _)
  refine ev_neg h0 ?_
  by_cases h3 : ¬ (s.size : Int) = 3
  · rw [mark_other h0 (by omega)]
    refine ev_neg h3 (ev_succ ?_)
    simp only [spec_MarkOf.j0]
    exact ev_pos (by simp) (Ev.now _)
  replace h3 := Classical.not_not.1 h3
  refine ev_pos h3 (Ev.bind (letters_ev s hs) ?_)
  obtain ⟨a, b, c, habc⟩ := three (l := L s) (by omega)
  have b0 : bt s 0 = (a.toNat : Int) := by have := bt_nat s 0 (by omega); simpa [habc] using this
  have b1 : bt s 1 = (b.toNat : Int) := by have := bt_nat s 1 (by omega); simpa [habc] using this
  have b2 : bt s 2 = (c.toNat : Int) := by have := bt_nat s 2 (by omega); simpa [habc] using this
  rw [habc]
  refine ev_succ ?_
  simp only [spec_MarkOf.j0, b0, b1, b2, List.all_cons, List.all_nil, Bool.and_true]
  simp only [mark]
  by_cases hu : ¬ (up a && (up b && up c)) = true
  · rw [if_neg hu]
    exact ev_pos (nb hu) (Ev.now _)
  replace hu := Classical.not_not.1 hu
  rw [if_pos hu]
  obtain ⟨ha, hb, hc⟩ : up a = true ∧ up b = true ∧ up c = true := by simpa using hu
  have na := up_nat ha; have nb := up_nat hb; have nc := up_nat hc
  have eb : ((b.toNat : Int) - 65) % 256 = (b.toNat : Int) - 65 := by omega
  have ec : ((c.toNat : Int) - 65) % 256 = (c.toNat : Int) - 65 := by omega
  simp only [eb, ec]
  refine ev_neg (by simp [hu]) (ev_pos (by omega) (ev_pos (by omega) ?_))
  by_cases hp : a = 80
  · subst hp
    rw [if_pos rfl]
    refine ev_pos rfl (ev_pos (by omega) (ev_eq (Ev.now _) ?_))
    refine Prod.ext rfl ?_
    show _ = _
    omega
  have hp' : ¬ (a.toNat : Int) = 80 := fun h => hp (toNat_inj.1 (h : (a.toNat : Int) = ((80 : UInt8).toNat : Int)))
  rw [if_neg hp]
  refine ev_neg hp' (ev_pos (by omega) ?_)
  have ec2 : (c.toNat : Int) - 65 + 1 = (c.toNat : Int) - 64 := by omega
  simp only [ec2]
  by_cases hab : ¬ a = b
  · rw [if_neg (fun h => hab h.1)]
    refine ev_neg (fun h => hab (toNat_inj.1 h)) (ev_succ ?_)
    simp only [spec_MarkOf.j1]
    exact ev_pos (by simp) (Ev.now _)
  replace hab := Classical.not_not.1 hab
  refine ev_pos (by rw [hab]) (ev_succ ?_)
  simp only [spec_MarkOf.j1]
  by_cases hc88 : ¬ c.toNat ≤ 88
  · exact ev_eq (ev_pos (decide_eq_true (by omega)) (Ev.now _)) (if_neg (fun h => hc88 h.2)).symm
  replace hc88 := Classical.not_not.1 hc88
  refine ev_eq ?_ (if_pos ⟨hab, hc88⟩).symm
  refine ev_neg (by simp; omega) (ev_pos (by omega) ?_)
  have t80 : ∀ n : UInt8, ((a.toNat : Int) = (n.toNat : Int)) ↔ a = n := fun n => toNat_inj
  have k82 : ((a.toNat : Int) = 82) ↔ a = 82 := t80 82
  have k67 : ((a.toNat : Int) = 67) ↔ a = 67 := t80 67
  have k65 : ((a.toNat : Int) = 65) ↔ a = 65 := t80 65
  simp only [b0, k82, k67, k65]
  exact ev_ite (fun _ => Ev.now _) (fun _ => ev_ite (fun _ => Ev.now _) (fun _ => ev_ite (fun _ => Ev.now _) (fun _ => Ev.now _)))
end Go.Proofs.YtmcmkdiefpepnaaDoor.PNHT
