/-
  Part of a proof by the engine: texts that a program of ours printed, or plain lemmas on them. No condition but what each theorem says.
-/
import Derived.Test.YtmcmkdiefpepnaaDoorSAP2
set_option linter.unusedVariables false
set_option linter.unusedSimpArgs false
namespace Go.Proofs.YtmcmkdiefpepnaaDoor.SA
open Go Go.Eng
abbrev Ch : Type := Int × Int × Int × Int × Int × Int × ByteArray × ByteArray × Int
theorem ev_guard {b : Bool} {F : Nat → Option Bool} {r : Bool} (h : b = true → Ev F r) : Ev (fun k => bif !b then some false else F k) (b && r) := by
  cases b with
  | true => exact h rfl
  | false => exact ev_now _
theorem ev_guard' {b : Bool} {F : Nat → Option Bool} {r : Bool} (h : b = false → Ev F r) : Ev (fun k => bif b then some false else F k) (!b && r) := by
  cases b with
  | true => exact ev_now _
  | false => exact h rfl
theorem ev_cond {α : Type} {b : Bool} {F G : Nat → Option α} {r s : α} (h1 : b = true → Ev F r) (h2 : b = false → Ev G s) : Ev (fun k => bif b then F k else G k) (bif b then r else s) := by
  cases b with
  | true => exact h1 rfl
  | false => exact h2 rfl
theorem l2Time_eq (t : Int) : spec_l2Time t = some (decide (0 ≤ t) && decide (t ≤ 52596000)) := by
  unfold spec_l2Time
  by_cases h : t ≥ 0 <;> simp [h]
theorem isTime_eq (t : Int) : impl_isTime t = some (decide (0 ≤ t) && decide (t ≤ 52596000)) := by
  simp [impl_isTime, in_eq]
def spanV (a b : Int) : Bool := (decide (0 ≤ a) && decide (a ≤ 52596000)) && ((decide (0 ≤ b) && decide (b ≤ 52596000)) && decide (a ≤ b))
theorem l2SpanOk_eq (a b : Int) : spec_l2SpanOk a b = some (spanV a b) := by
  unfold spec_l2SpanOk spanV
  simp only [l2Time_eq, Option.bind_some]
  cases (decide (0 ≤ a) && decide (a ≤ 52596000)) <;> cases (decide (0 ≤ b) && decide (b ≤ 52596000)) <;> rfl
theorem spanOk_eq (a b : Int) : impl_spanOk a b = some (spanV a b) := by
  unfold impl_spanOk spanV
  simp only [isTime_eq, Option.bind_some]
  cases (decide (0 ≤ a) && decide (a ≤ 52596000)) <;> cases (decide (0 ≤ b) && decide (b ≤ 52596000)) <;> rfl
def unsaidV (d v : Int) (w c : ByteArray) : Bool := decide (d = -1) && (decide (v = -1) && (decide (w = bs []) && decide (c = bs [])))
def kindV (vf vt : Int) (c : Ch) : Bool := if c.1 = 1 then decide (c.2.2.1 = 0) && ((decide (vf ≤ c.2.1) && decide (c.2.1 ≤ vt - 1)) && fullV c.2.2.2.1 c.2.2.2.2.1 c.2.2.2.2.2.1 c.2.2.2.2.2.2.1 c.2.2.2.2.2.2.2.1 c.2.2.2.2.2.2.2.2)
  else (decide (2 ≤ c.1) && decide (c.1 ≤ 4)) && (decide (c.2.1.tmod 60 = 0) && (decide (c.2.2.1.tmod 60 = 0) && (decide (vf ≤ c.2.1) && (decide (c.2.1 < c.2.2.1) && decide (c.2.2.1 ≤ vt)))))
def chOk (vf vt : Int) (c : Ch) : Bool := skyV c.2.2.2.1 c.2.2.2.2.1 c.2.2.2.2.2.1 c.2.2.2.2.2.2.1 c.2.2.2.2.2.2.2.1 c.2.2.2.2.2.2.2.2 && (!unsaidV c.2.2.2.1 c.2.2.2.2.2.1 c.2.2.2.2.2.2.1 c.2.2.2.2.2.2.2.1 && kindV vf vt c)
theorem unsaid_eq {d s v : Int} {w c : ByteArray} {b : Int} (h : skyV d s v w c b = true) :
    (decide (d = -1) && (decide (s = 0) && (decide (v = -1) && (decide (w = bs []) && (decide (c = bs []) && decide (b = 0)))))) = unsaidV d v w c := by
  unfold unsaidV
  by_cases h1 : d = -1
  · by_cases h5 : c = bs []
    · have hs : s = 0 := by
        simp only [skyV, windV, h1, true_or, if_true, Bool.and_eq_true] at h
        simpa using h.1
      have hb : b = 0 := by
        simp only [skyV, cloudV, h5, true_or, if_true, Bool.and_eq_true] at h
        simpa using h.2.2.2
      simp [h1, h5, hs, hb]
    · simp [h5]
  · simp [h1]
theorem l21ChangeOk_eq (a0 : ByteArray) (a1 vf vt a4 a5 a6 : Int) (a7 a8 : ByteArray) (a9 : Int) (a10 : List Ch) (c : Ch) (hv : 0 ≤ vt ∧ vt ≤ 52596000) :
    spec_l21ChangeOk a0 a1 vf vt a4 a5 a6 a7 a8 a9 a10 c.1 c.2.1 c.2.2.1 c.2.2.2.1 c.2.2.2.2.1 c.2.2.2.2.2.1 c.2.2.2.2.2.2.1 c.2.2.2.2.2.2.2.1 c.2.2.2.2.2.2.2.2 = some (chOk vf vt c) := by
  obtain ⟨k, f, t, d, s, v, w, cc, b⟩ := c
  simp only
  unfold spec_l21ChangeOk chOk kindV
  simp only [spec_SkyOk_eq, Option.bind_some, spec_l21Unsaid, beq_bytes, beqI, l2In_eq, spec_full_eq, w64 (show -9223372036854775808 ≤ vt - 1 by omega) (show vt - 1 ≤ 9223372036854775807 by omega)]
  cases hs : skyV d s v w cc b with
  | false => rfl
  | true =>
    simp only [Bool.not_true, cond_false, unsaid_eq hs, Bool.true_and]
    cases unsaidV d v w cc with
    | true => rfl
    | false =>
      simp only [cond_false, Bool.not_false, Bool.true_and]
      by_cases hk : k = 1
      · simp only [hk, decide_true, cond_true, if_true]
        by_cases ht : t = 0
        · simp only [ht, decide_true, cond_true, Bool.true_and]
          cases (decide (vf ≤ f) && decide (f ≤ vt - 1)) <;> rfl
        · simp [ht]
      · simp only [hk, decide_false, cond_false, if_false]
        cases (decide (2 ≤ k) && decide (k ≤ 4)) <;> cases decide (f.tmod 60 = 0) <;> cases decide (t.tmod 60 = 0) <;> cases decide (vf ≤ f) <;> cases decide (f < t) <;> rfl
/-- The rest of the changes. -/
def tailV (c : Ch) (e : Int) (r : Int → Bool) : Bool := if c.1 = 1 ∨ c.1 = 2 then !decide (c.2.1 < e) && r (if c.2.2.1 > c.2.1 then c.2.2.1 else c.2.1) else r e
def prevV (p : Option Int) (f : Int) : Bool := match p with
  | none => true
  | some x => decide (x ≤ f)
def chs (vf vt : Int) : List Ch → Option Int → Int → Bool
  | [], _, _ => true
  | c :: cs, p, e => chOk vf vt c && (prevV p c.2.1 && tailV c e fun e' => chs vf vt cs (some c.2.1) e')
theorem chs_init {vf vt : Int} (hf : 0 ≤ vf) : ∀ (l : List Ch) (p : Option Int), chs vf vt l p (-1) = chs vf vt l p 0
  | [], _ => rfl
  | c :: cs, p => by
    simp only [chs]
    cases h : chOk vf vt c with
    | false => rfl
    | true =>
      have hfrom : vf ≤ c.2.1 := by
        simp only [chOk, kindV, Bool.and_eq_true] at h
        have := h.2.2
        split at this <;> simp only [Bool.and_eq_true, decide_eq_true_eq] at this
        · exact this.2.1.1
        · exact this.2.2.2.1
      simp only [tailV, chs_init hf cs]
      split
      · rw [decide_eq_false (show ¬ c.2.1 < -1 by omega), decide_eq_false (show ¬ c.2.1 < 0 by omega)]
      · rfl
def prevAt (xs : List Ch) : Nat → Option Int
  | 0 => none
  | n + 1 => (xs[n]?).map (·.2.1)
theorem chs_step {vf vt e : Int} {xs : List Ch} {n : Nat} (h : n < xs.length) : chs vf vt (xs.drop n) (prevAt xs n) e = (chOk vf vt xs[n] && (prevV (prevAt xs n) xs[n].2.1 && tailV xs[n] e fun e' => chs vf vt (xs.drop (n + 1)) (prevAt xs (n + 1)) e')) := by
  rw [drop_cons h]
  simp only [chs]
  simp [prevAt, h]
theorem wpred {n : Nat} (h : n < 9223372036854775807) : IntKind.i64.wrap (((n + 1 : Nat) : Int) - 1) = (n : Int) := by
  rw [w64 (by omega) (by omega)]; omega
theorem spec_Taf_loop (a2 : ByteArray) (a3 vf vt a6 a7 a8 : Int) (a9 a10 : ByteArray) (a11 : Int) (xs : List Ch) (hx : xs.length ≤ 10) (hv : 0 ≤ vt ∧ vt ≤ 52596000) : ∀ (m n : Nat) (e : Int), xs.length - n = m → n ≤ xs.length →
    Ev (fun k => spec_TafOk_L6 k e (n : Int) a2 a3 vf vt a6 a7 a8 a9 a10 a11 xs) (chs vf vt (xs.drop n) (prevAt xs n) e) := by
  intro m
  induction m with
  | zero =>
    intro n e hm hn
    obtain rfl : n = xs.length := by omega
    apply ev_succ
    simp only [spec_TafOk_L6, Int.lt_irrefl, decide_false, cond_false]
    rw [List.drop_eq_nil_of_le (Nat.le_refl _)]
    exact ev_now _
  | succ m ih =>
    intro n e hm hn
    have hl : n < xs.length := by omega
    rw [chs_step hl]
    have ih' := fun e' => ih (n + 1) e' (by omega) (by omega)
    apply ev_succ
    simp only [spec_TafOk_L6, show (n : Int) < (xs.length : Int) by omega, show (0 : Int) ≤ (n : Int) by omega, decide_true, cond_true, rd_nat (k := K9_0) hl, wsucc (show n < 9223372036854775807 by omega)]
    simp only [l21ChangeOk_eq a2 a3 vf vt a6 a7 a8 a9 a10 a11 xs xs[n] hv, Option.bind_some]
    refine ev_guard fun _ => ?_
    generalize hc : xs[n] = c at *
    have tail : Ev (fun k => bif c.1 == 1 then bif decide (c.2.1 < e) then some false else spec_TafOk_L6 k (if c.2.2.1 > c.2.1 then c.2.2.1 else c.2.1) ((n + 1 : Nat) : Int) a2 a3 vf vt a6 a7 a8 a9 a10 a11 xs
        else bif c.1 == 2 then bif decide (c.2.1 < e) then some false else spec_TafOk_L6 k (if c.2.2.1 > c.2.1 then c.2.2.1 else c.2.1) ((n + 1 : Nat) : Int) a2 a3 vf vt a6 a7 a8 a9 a10 a11 xs
        else spec_TafOk_L6 k e ((n + 1 : Nat) : Int) a2 a3 vf vt a6 a7 a8 a9 a10 a11 xs) (tailV c e fun e' => chs vf vt (xs.drop (n + 1)) (prevAt xs (n + 1)) e') := by
      unfold tailV
      by_cases h1 : c.1 = 1
      · simp only [h1, beq_self_eq_true, cond_true, true_or, if_true]
        exact ev_guard' fun _ => ih' _
      · by_cases h2 : c.1 = 2
        · simp only [h2, beqI, show ¬ (2 : Int) = 1 by omega, decide_false, decide_true, cond_false, cond_true, or_true, if_true]
          exact ev_guard' fun _ => ih' _
        · simp only [beqI, h1, h2, decide_false, cond_false, or_self, if_false]
          exact ih' _
    cases n with
    | zero =>
      simp only [show ¬ ((0 : Nat) : Int) > 0 by omega, decide_false, cond_false, prevAt, prevV, Bool.true_and]
      exact tail
    | succ n =>
      have hl' : n < xs.length := by omega
      simp only [show ((n + 1 : Nat) : Int) > 0 by omega, decide_true, cond_true, wpred (show n < 9223372036854775807 by omega), show (0 : Int) ≤ (n : Int) by omega, show (n : Int) < (xs.length : Int) by omega, rd_nat (k := K9_0) hl']
      have hp : prevV (prevAt xs (n + 1)) c.2.1 = !decide (c.2.1 < xs[n].2.1) := by
        simp only [prevAt, List.getElem?_eq_getElem hl', Option.map_some, prevV]
        by_cases h : xs[n].2.1 ≤ c.2.1
        · simp [h, show ¬ c.2.1 < xs[n].2.1 by omega]
        · simp [h, show c.2.1 < xs[n].2.1 by omega]
      rw [hp]
      exact ev_guard' fun _ => tail

def kindI (vf vt : Int) (c : Ch) : Bool := if c.1 = 1 then !decide (c.2.1 < vf) && (!decide (c.2.1 ≥ vt) && (!!decide (c.2.2.1 = 0) && fullV c.2.2.2.1 c.2.2.2.2.1 c.2.2.2.2.2.1 c.2.2.2.2.2.2.1 c.2.2.2.2.2.2.2.1 c.2.2.2.2.2.2.2.2))
  else !decide (c.2.1 < vf) && (!decide (c.2.1 ≥ c.2.2.1) && (!decide (c.2.2.1 > vt) && (!!decide (c.2.1.tmod 60 = 0) && !!decide (c.2.2.1.tmod 60 = 0))))
theorem kind_same (vf vt : Int) (c : Ch) : ((decide (1 ≤ c.1) && decide (c.1 ≤ 4)) && kindI vf vt c) = kindV vf vt c := by
  obtain ⟨k, f, t, d, s, v, w, cc, b⟩ := c
  unfold kindI kindV
  simp only
  by_cases hk : k = 1
  · simp only [hk, if_true, show decide ((1 : Int) ≤ 1) = true by decide, show decide ((1 : Int) ≤ 4) = true by decide, Bool.and_self, Bool.true_and, Bool.not_not]
    rw [Bool.eq_iff_iff]
    simp only [Bool.and_eq_true, decide_eq_true_eq, Bool.not_eq_true', decide_eq_false_iff_not]
    constructor
    · rintro ⟨h1, h2, h3, h4⟩; exact ⟨h3, ⟨by omega, by omega⟩, h4⟩
    · rintro ⟨h1, ⟨h2, h3⟩, h4⟩; exact ⟨by omega, by omega, h1, h4⟩
  · simp only [hk, if_false, Bool.not_not]
    rw [Bool.eq_iff_iff]
    simp only [Bool.and_eq_true, decide_eq_true_eq, Bool.not_eq_true', decide_eq_false_iff_not]
    constructor
    · rintro ⟨⟨h1, h2⟩, h3, h4, h5, h6, h7⟩; exact ⟨⟨by omega, h2⟩, h6, h7, by omega, by omega, by omega⟩
    · rintro ⟨⟨h1, h2⟩, h3, h4, h5, h6, h7⟩; exact ⟨⟨by omega, h2⟩, by omega, by omega, by omega, h3, h4⟩
theorem impl_Taf_loop (b0 : ByteArray) (b1 b2 b3 b4 b5 b6 : Int) (b7 b8 : ByteArray) (b9 : Int) (vf vt : Int) (xs : List Ch) (hx : xs.length ≤ 10) : ∀ (m n : Nat) (e : Int), xs.length - n = m → n ≤ xs.length →
    Ev (fun k => impl_TafOk_L6 k e xs (xs.length : Int) (n : Int) b0 b1 b2 b3 b4 b5 b6 b7 b8 b9 xs vf vt) (chs vf vt (xs.drop n) (prevAt xs n) e) := by
  intro m
  induction m with
  | zero =>
    intro n e hm hn
    obtain rfl : n = xs.length := by omega
    apply ev_succ
    simp only [impl_TafOk_L6, Int.lt_irrefl, decide_false, cond_false]
    rw [List.drop_eq_nil_of_le (Nat.le_refl _)]
    exact ev_now _
  | succ m ih =>
    intro n e hm hn
    have hl : n < xs.length := by omega
    rw [chs_step hl]
    have ih' := fun e' => ih (n + 1) e' (by omega) (by omega)
    apply ev_succ
    simp only [impl_TafOk_L6, show (n : Int) < (xs.length : Int) by omega, show (0 : Int) ≤ (n : Int) by omega, decide_true, cond_true, rd_nat (k := K9_0) hl, wsucc (show n < 9223372036854775807 by omega)]
    generalize hc : xs[n] = c at *
    obtain ⟨k, f, t, d, s, v, w, cc, b⟩ := c
    simp only [in_eq, impl_SkyOk_eq, said_eq, impl_full_eq, Option.bind_some]
    have hu : (decide (d ≠ -1) == false && (decide (v ≠ -1) == false && (decide (w ≠ bs []) == false && decide (cc ≠ bs []) == false))) = unsaidV d v w cc := by
      unfold unsaidV
      by_cases h1 : d = -1 <;> by_cases h2 : v = -1 <;> by_cases h3 : w = bs [] <;> by_cases h4 : cc = bs [] <;> simp [h1, h2, h3, h4]
    simp only [hu]
    have tail : Ev (fun k' => bif k == 1 then bif decide (f < e) then some false else impl_TafOk_L6 k' (if t > f then t else f) xs (xs.length : Int) ((n + 1 : Nat) : Int) b0 b1 b2 b3 b4 b5 b6 b7 b8 b9 xs vf vt
        else bif k == 2 then bif decide (f < e) then some false else impl_TafOk_L6 k' (if t > f then t else f) xs (xs.length : Int) ((n + 1 : Nat) : Int) b0 b1 b2 b3 b4 b5 b6 b7 b8 b9 xs vf vt
        else impl_TafOk_L6 k' e xs (xs.length : Int) ((n + 1 : Nat) : Int) b0 b1 b2 b3 b4 b5 b6 b7 b8 b9 xs vf vt) (tailV (k, f, t, d, s, v, w, cc, b) e fun e' => chs vf vt (xs.drop (n + 1)) (prevAt xs (n + 1)) e') := by
      unfold tailV
      by_cases h1 : k = 1
      · simp only [h1, beq_self_eq_true, cond_true, true_or, if_true]
        exact ev_guard' fun _ => ih' _
      · by_cases h2 : k = 2
        · simp only [h2, beqI, show ¬ (2 : Int) = 1 by omega, decide_false, decide_true, cond_false, cond_true, or_true, if_true]
          exact ev_guard' fun _ => ih' _
        · simp only [beqI, h1, h2, decide_false, cond_false, or_self, if_false]
          exact ih' _
    have body : Ev (fun k' => bif k == 1 then bif decide (f < vf) then some false else bif decide (f ≥ vt) then some false else bif t != 0 then some false else bif !fullV d s v w cc b then some false else
          (bif k == 1 then bif decide (f < e) then some false else impl_TafOk_L6 k' (if t > f then t else f) xs (xs.length : Int) ((n + 1 : Nat) : Int) b0 b1 b2 b3 b4 b5 b6 b7 b8 b9 xs vf vt
        else bif k == 2 then bif decide (f < e) then some false else impl_TafOk_L6 k' (if t > f then t else f) xs (xs.length : Int) ((n + 1 : Nat) : Int) b0 b1 b2 b3 b4 b5 b6 b7 b8 b9 xs vf vt
        else impl_TafOk_L6 k' e xs (xs.length : Int) ((n + 1 : Nat) : Int) b0 b1 b2 b3 b4 b5 b6 b7 b8 b9 xs vf vt)
        else bif decide (f < vf) then some false else bif decide (f ≥ t) then some false else bif decide (t > vt) then some false else bif f.tmod 60 != 0 then some false else bif t.tmod 60 != 0 then some false else
          (bif k == 1 then bif decide (f < e) then some false else impl_TafOk_L6 k' (if t > f then t else f) xs (xs.length : Int) ((n + 1 : Nat) : Int) b0 b1 b2 b3 b4 b5 b6 b7 b8 b9 xs vf vt
        else bif k == 2 then bif decide (f < e) then some false else impl_TafOk_L6 k' (if t > f then t else f) xs (xs.length : Int) ((n + 1 : Nat) : Int) b0 b1 b2 b3 b4 b5 b6 b7 b8 b9 xs vf vt
        else impl_TafOk_L6 k' e xs (xs.length : Int) ((n + 1 : Nat) : Int) b0 b1 b2 b3 b4 b5 b6 b7 b8 b9 xs vf vt))
        (kindI vf vt (k, f, t, d, s, v, w, cc, b) && tailV (k, f, t, d, s, v, w, cc, b) e fun e' => chs vf vt (xs.drop (n + 1)) (prevAt xs (n + 1)) e') := by
      unfold kindI
      by_cases h1 : k = 1
      · subst h1
        simp only [beq_self_eq_true, cond_true, if_true, Bool.and_assoc, bneI] at tail ⊢
        exact ev_guard' fun _ => ev_guard' fun _ => ev_guard' fun _ => ev_guard fun _ => tail
      · simp only [beqI, h1, decide_false, cond_false, if_false, Bool.and_assoc, bneI] at tail ⊢
        exact ev_guard' fun _ => ev_guard' fun _ => ev_guard' fun _ => ev_guard' fun _ => ev_guard' fun _ => tail
    refine ev_eq (r := (decide (1 ≤ k) && decide (k ≤ 4)) && (skyV d s v w cc b && (!unsaidV d v w cc && (prevV (prevAt xs n) f && (kindI vf vt (k, f, t, d, s, v, w, cc, b) && tailV (k, f, t, d, s, v, w, cc, b) e fun e' => chs vf vt (xs.drop (n + 1)) (prevAt xs (n + 1)) e'))))) ?_ ?_
    · refine ev_guard fun _ => ev_guard fun _ => ev_guard' fun _ => ?_
      cases n with
      | zero =>
        simp only [show ¬ ((0 : Nat) : Int) > 0 by omega, decide_false, cond_false, prevAt, prevV, Bool.true_and]
        exact body
      | succ n =>
        have hl' : n < xs.length := by omega
        simp only [show ((n + 1 : Nat) : Int) > 0 by omega, decide_true, cond_true, wpred (show n < 9223372036854775807 by omega), show (0 : Int) ≤ (n : Int) by omega, show (n : Int) < (xs.length : Int) by omega, rd_nat (k := K9_0) hl']
        have hp : prevV (prevAt xs (n + 1)) f = !decide (f < xs[n].2.1) := by
          simp only [prevAt, List.getElem?_eq_getElem hl', Option.map_some, prevV]
          by_cases h : xs[n].2.1 ≤ f
          · simp [h, show ¬ f < xs[n].2.1 by omega]
          · simp [h, show f < xs[n].2.1 by omega]
        rw [hp]
        exact ev_guard' fun _ => body
    · rw [chOk, ← kind_same]
      generalize (decide (1 ≤ (k, f, t, d, s, v, w, cc, b).1) && decide ((k, f, t, d, s, v, w, cc, b).1 ≤ 4)) = x1
      generalize kindI vf vt (k, f, t, d, s, v, w, cc, b) = x2
      generalize (tailV (k, f, t, d, s, v, w, cc, b) e fun e' => chs vf vt (xs.drop (n + 1)) (prevAt xs (n + 1)) e') = x3
      generalize prevV (prevAt xs n) f = x4
      simp only
      generalize skyV d s v w cc b = x5
      generalize unsaidV d v w cc = x6
      cases x1 <;> cases x2 <;> cases x4 <;> cases x5 <;> cases x6 <;> rfl
def tafV (a0 : ByteArray) (a1 vf vt d s v : Int) (w c : ByteArray) (b : Int) (xs : List Ch) : Bool :=
  centreV a0 && ((decide (0 ≤ a1) && decide (a1 ≤ 52596000)) && (spanV vf vt && (!!decide (vf.tmod 60 = 0) && (!!decide (vt.tmod 60 = 0) && ((decide (60 ≤ vt - vf) && decide (vt - vf ≤ 2160)) && ((decide (-1440 ≤ vf - a1) && decide (vf - a1 ≤ 1440)) && (fullV d s v w c b && (!decide ((xs.length : Int) > 10) && chs vf vt xs none 0))))))))
theorem span_facts {a b : Int} (h : spanV a b = true) : (0 ≤ a ∧ a ≤ 52596000) ∧ (0 ≤ b ∧ b ≤ 52596000) ∧ a ≤ b := by
  simp only [spanV, Bool.and_eq_true, decide_eq_true_eq] at h
  exact h
theorem spec_TafOk_eq (a0 : ByteArray) (a1 vf vt d s v : Int) (w c : ByteArray) (b : Int) (xs : List Ch) : spec_TafOk a0 a1 vf vt d s v w c b xs = some (tafV a0 a1 vf vt d s v w c b xs) := by
  refine evF_eq ?_
  unfold spec_TafOk_F tafV
  simp only [spec_l4CentreOk_eq, l2Time_eq, l2SpanOk_eq, l2In_eq, spec_full_eq, Option.bind_some, bneI]
  refine ev_guard fun _ => ev_guard fun h1 => ev_guard fun h2 => ?_
  have hs := span_facts h2
  simp only [Bool.and_eq_true, decide_eq_true_eq] at h1
  rw [w64 (n := vt - vf) (by omega) (by omega), w64 (n := vf - a1) (by omega) (by omega)]
  refine ev_guard' fun _ => ev_guard' fun _ => ev_guard fun _ => ev_guard fun _ => ev_guard fun _ => ev_guard' fun h => ?_
  simp only [decide_eq_false_iff_not] at h
  exact spec_Taf_loop a0 a1 vf vt d s v w c b xs (by omega) hs.2.1 xs.length 0 0 (by omega) (by omega)
theorem impl_TafOk_eq (a0 : ByteArray) (a1 vf vt d s v : Int) (w c : ByteArray) (b : Int) (xs : List Ch) : impl_TafOk a0 a1 vf vt d s v w c b xs = some (tafV a0 a1 vf vt d s v w c b xs) := by
  refine evF_eq ?_
  unfold impl_TafOk_F tafV
  simp only [impl_centreOk_eq, isTime_eq, spanOk_eq, in_eq, impl_full_eq, Option.bind_some, bneI, impl_away]
  refine ev_guard fun _ => ev_guard fun h1 => ev_guard fun h2 => ?_
  have hs := span_facts h2
  simp only [Bool.and_eq_true, decide_eq_true_eq] at h1
  rw [w64 (n := vt - vf) (by omega) (by omega), w64 (n := vf - a1) (by omega) (by omega), w64 (n := a1 - vf) (by omega) (by omega)]
  have ha : (decide (-1440 ≤ vf - a1) && decide (vf - a1 ≤ 1440)) = !decide ((if a1 - vf > vf - a1 then a1 - vf else vf - a1) > 1440) := by
    rw [Bool.eq_iff_iff]
    simp only [Bool.and_eq_true, decide_eq_true_eq, Bool.not_eq_true', decide_eq_false_iff_not]
    split <;> omega
  rw [ha, ← chs_init hs.1.1]
  refine ev_guard' fun _ => ev_guard' fun _ => ev_guard fun _ => ev_guard' fun _ => ev_guard fun _ => ev_guard' fun h => ?_
  simp only [decide_eq_false_iff_not] at h
  exact impl_Taf_loop a0 a1 vf vt d s v w c b vf vt xs (by omega) xs.length 0 (-1) (by omega) (by omega)
end Go.Proofs.YtmcmkdiefpepnaaDoor.SA
