/-
  Part of a proof by the engine: texts that a program of ours printed, or plain lemmas on them. No condition but what each theorem says.
-/
import Derived.Test.YtgkejafaggaocaaPureLib
set_option linter.unusedVariables false
set_option linter.unusedSimpArgs false
namespace Go.TB
abbrev El := Int × Int × Int × Int
abbrev LE := List El
def lookE (t : LE) (d : Int) : Option El := t.find? fun e => e.1 == d
def isRep (d : Int) : Bool := decide (101000 ≤ d) && decide (d ≤ 199999)
def isOp (d : Int) : Bool := (decide (201000 ≤ d) && decide (d ≤ 201255)) || (decide (202000 ≤ d) && decide (d ≤ 202255))
def xOf (d : Int) : Nat := ((d - 100000) / 1000).toNat
def yOf (d : Int) : Nat := (d % 1000).toNat
/-- What a width or a scale is changed by. -/
def shf (d : Int) : Int := if d % 1000 = 0 then 0 else d % 1000 - 128
def fits (t : LE) : Nat → List Int → Bool
  | _, [] => true
  | 0, _ :: _ => false
  | k + 1, d :: r =>
    if isRep d then decide (d % 1000 ≤ 255) && (decide (xOf d ≤ r.length) && (fits t k (r.take (xOf d)) && fits t k (r.drop (xOf d))))
    else if isOp d then fits t k r
    else (lookE t d).isSome && (decide (1 ≤ d) && (decide (d ≤ 99999) && fits t k r))
abbrev St (D : Type) := Nat × Int × Int × D
structure Dev (D : Type) where
  cnt : D → Except Int (Nat × D)
  val : El → D → Except Int D
def rep {S : Type} (f : S → Except Int S) : Nat → S → Except Int S
  | 0, s => .ok s
  | n + 1, s => (f s).bind (rep f n)
def elOk (e : El) : Bool := decide (1 ≤ e.2.1) && decide (e.2.1 ≤ 32) && (decide (-10 ≤ e.2.2.1) && decide (e.2.2.1 ≤ 10))
def elAt (t : LE) (d w c : Int) : El := let e := (lookE t d).getD (0, 0, 0, 0); (e.1, e.2.1 + w, e.2.2.1 + c, e.2.2.2)
def thr {D : Type} (dv : Dev D) (t : LE) : Nat → List Int → St D → Except Int (St D)
  | _, [], s => .ok s
  | 0, _ :: _, _ => .error 2
  | k + 1, d :: r, (n, w, c, q) =>
    if 5000 < n + 1 then .error 2
    else if isRep d then
      (if yOf d = 0 then dv.cnt q else .ok (yOf d, q)).bind fun z => (rep (thr dv t k (r.take (xOf d))) z.1 (n + 1, w, c, z.2)).bind fun s => thr dv t k (r.drop (xOf d)) s
    else if isOp d then
      (if d < 202000 then thr dv t k r (n + 1, shf d, c, q) else thr dv t k r (n + 1, w, shf d, q))
    else if elOk (elAt t d w c) then (dv.val (elAt t d w c) q).bind fun q => thr dv t k r (n + 1, w, c, q)
    else .error 4
theorem bind_ok {α β : Type} {x : Except Int α} {f : α → Except Int β} {y : β} (h : x.bind f = .ok y) : ∃ a, x = .ok a ∧ f a = .ok y := by
  cases x with
  | ok a => exact ⟨a, rfl, h⟩
  | error c => cases h
/-- What holds of a device stays so. -/
structure Keeps {D : Type} (dv : Dev D) (I : Nat → D → Prop) : Prop where
  next : ∀ {n q}, I n q → I (n + 1) q
  cnt : ∀ {n q y q'}, n < 5000 → I n q → dv.cnt q = .ok (y, q') → I (n + 1) q' ∧ y ≤ 255
  val : ∀ {n e q q'}, n < 5000 → I n q → elOk e = true → dv.val e q = .ok q' → I (n + 1) q'
def GoodS {D : Type} (I : Nat → D → Prop) (s : St D) : Prop := s.1 ≤ 5000 ∧ (-128 ≤ s.2.1 ∧ s.2.1 ≤ 127) ∧ (-128 ≤ s.2.2.1 ∧ s.2.2.1 ≤ 127) ∧ I s.1 s.2.2.2
theorem rep_keeps {S : Type} {P : S → Prop} {f : S → Except Int S} (h : ∀ s s', P s → f s = .ok s' → P s') : ∀ (n : Nat) (s s' : S), P s → rep f n s = .ok s' → P s'
  | 0, s, s', hs, e => by cases e; exact hs
  | n + 1, s, s', hs, e => by
    obtain ⟨a, e1, e2⟩ := bind_ok e
    exact rep_keeps h n a s' (h s a hs e1) e2
theorem op_range {d : Int} (h : isOp d = true) : 0 ≤ d % 1000 ∧ d % 1000 ≤ 255 := by
  unfold isOp at h
  simp only [Bool.or_eq_true, Bool.and_eq_true, decide_eq_true_eq] at h
  omega
theorem shf_range {d : Int} (h : isOp d = true) : -128 ≤ shf d ∧ shf d ≤ 127 := by
  have := op_range h
  unfold shf
  split <;> omega
theorem thr_keeps {D : Type} {dv : Dev D} {I : Nat → D → Prop} (K : Keeps dv I) (t : LE) : ∀ (k : Nat) (l : List Int) (s s' : St D), GoodS I s → thr dv t k l s = .ok s' → GoodS I s'
  | k, [], s, s', hs, e => by
    cases k <;> (cases e; exact hs)
  | 0, _ :: _, s, s', hs, e => by cases e
  | k + 1, d :: r, (n, w, c, q), s', hs, e => by
    obtain ⟨h1, h2, h3, h4⟩ := hs
    simp only at h1 h2 h3 h4
    unfold thr at e
    split at e
    · cases e
    rename_i hn
    split at e
    · obtain ⟨⟨y, q1⟩, e1, e2⟩ := bind_ok e
      obtain ⟨s1, e3, e4⟩ := bind_ok e2
      refine thr_keeps K t k _ s1 s' ?_ e4
      refine rep_keeps (P := GoodS I) (fun a b ha hb => thr_keeps K t k _ a b ha hb) y _ s1 ⟨by simp only; omega, h2, h3, ?_⟩ e3
      split at e1
      · exact (K.cnt (by omega) h4 e1).1
      · cases e1; exact K.next h4
    split at e
    · rename_i ho
      have := shf_range ho
      split at e
      · exact thr_keeps K t k r _ s' ⟨by simp only; omega, this, h3, K.next h4⟩ e
      · exact thr_keeps K t k r _ s' ⟨by simp only; omega, h2, this, K.next h4⟩ e
    split at e
    · rename_i he
      obtain ⟨q1, e1, e2⟩ := bind_ok e
      exact thr_keeps K t k r _ s' ⟨by simp only; omega, h2, h3, K.val (by omega) h4 he e1⟩ e2
    · cases e
/-- Two devices of which the second answers as the first: what holds at the end (F) held at each step. -/
structure Sim {D E : Type} (d1 : Dev D) (d2 : Dev E) (F : D → Prop) (I : Nat → D → Prop) (R : D → E → Prop) (P : Int → Prop) : Prop where
  keeps : Keeps d1 I
  backC : ∀ {q y q'}, d1.cnt q = .ok (y, q') → F q' → F q
  backV : ∀ {e q q'}, d1.val e q = .ok q' → F q' → F q
  cnt : ∀ {n q y q' p}, n < 5000 → I n q → d1.cnt q = .ok (y, q') → F q' → R q p → ∃ p', d2.cnt p = .ok (y, p') ∧ R q' p'
  val : ∀ {n e q q' p}, n < 5000 → I n q → elOk e = true → P e.2.2.2 → d1.val e q = .ok q' → F q' → R q p → ∃ p', d2.val e p = .ok p' ∧ R q' p'
theorem rep_back {D : Type} {F : D → Prop} {f : St D → Except Int (St D)} (h : ∀ s s', f s = .ok s' → F s'.2.2.2 → F s.2.2.2) : ∀ (n : Nat) (s s' : St D), rep f n s = .ok s' → F s'.2.2.2 → F s.2.2.2
  | 0, s, s', e, hf => by cases e; exact hf
  | n + 1, s, s', e, hf => by
    obtain ⟨a, e1, e2⟩ := bind_ok e
    exact h s a e1 (rep_back h n a s' e2 hf)
theorem thr_back {D E : Type} {d1 : Dev D} {d2 : Dev E} {F : D → Prop} {I : Nat → D → Prop} {R : D → E → Prop} {P : Int → Prop} (S : Sim d1 d2 F I R P) (t : LE) :
    ∀ (k : Nat) (l : List Int) (s s' : St D), thr d1 t k l s = .ok s' → F s'.2.2.2 → F s.2.2.2
  | k, [], s, s', e, hf => by
    cases k <;> (cases e; exact hf)
  | 0, _ :: _, s, s', e, hf => by cases e
  | k + 1, d :: r, (n, w, c, q), s', e, hf => by
    unfold thr at e
    split at e
    · cases e
    split at e
    · obtain ⟨⟨y, q1⟩, e1, e2⟩ := bind_ok e
      obtain ⟨s1, e3, e4⟩ := bind_ok e2
      have f1 := thr_back S t k _ s1 s' e4 hf
      have f2 := rep_back (fun a b hb hf => thr_back S t k _ a b hb hf) y _ s1 e3 f1
      split at e1
      · exact S.backC e1 f2
      · cases e1; exact f2
    split at e
    · split at e
      · have h := thr_back S t k r _ s' e hf; exact h
      · have h := thr_back S t k r _ s' e hf; exact h
    split at e
    · obtain ⟨q1, e1, e2⟩ := bind_ok e
      exact S.backV e1 (thr_back S t k r _ s' e2 hf)
    · cases e
theorem rep_sim {D E : Type} {F : D → Prop} {I : Nat → D → Prop} {R : D → E → Prop} {f : St D → Except Int (St D)} {g : St E → Except Int (St E)} (hb : ∀ s s', f s = .ok s' → F s'.2.2.2 → F s.2.2.2) (hk : ∀ s s', GoodS I s → f s = .ok s' → GoodS I s')
    (h : ∀ n w c q s' p, GoodS I (n, w, c, q) → f (n, w, c, q) = .ok s' → F s'.2.2.2 → R q p → ∃ p', g (n, w, c, p) = .ok (s'.1, s'.2.1, s'.2.2.1, p') ∧ R s'.2.2.2 p') :
    ∀ (m n : Nat) (w c : Int) (q : D) (s' : St D) (p : E), GoodS I (n, w, c, q) → rep f m (n, w, c, q) = .ok s' → F s'.2.2.2 → R q p → ∃ p', rep g m (n, w, c, p) = .ok (s'.1, s'.2.1, s'.2.2.1, p') ∧ R s'.2.2.2 p'
  | 0, n, w, c, q, s', p, hg, e, hf, hr => by cases e; exact ⟨p, rfl, hr⟩
  | m + 1, n, w, c, q, s', p, hg, e, hf, hr => by
    obtain ⟨a, e1, e2⟩ := bind_ok e
    obtain ⟨p1, g1, r1⟩ := h n w c q a p hg e1 (rep_back hb m a s' e2 hf) hr
    obtain ⟨p2, g2, r2⟩ := rep_sim hb hk h m a.1 a.2.1 a.2.2.1 a.2.2.2 s' p1 (hk _ _ hg e1) e2 hf r1
    refine ⟨p2, ?_, r2⟩
    unfold rep
    rw [g1]
    exact g2
theorem thr_sim {D E : Type} {d1 : Dev D} {d2 : Dev E} {F : D → Prop} {I : Nat → D → Prop} {R : D → E → Prop} {P : Int → Prop} (S : Sim d1 d2 F I R P) (t : LE) (hP : ∀ d, P ((lookE t d).getD (0, 0, 0, 0)).2.2.2) :
    ∀ (k : Nat) (l : List Int) (n : Nat) (w c : Int) (q : D) (s' : St D) (p : E), GoodS I (n, w, c, q) → thr d1 t k l (n, w, c, q) = .ok s' → F s'.2.2.2 → R q p → ∃ p', thr d2 t k l (n, w, c, p) = .ok (s'.1, s'.2.1, s'.2.2.1, p') ∧ R s'.2.2.2 p'
  | k, [], n, w, c, q, s', p, hg, e, hf, hr => by
    cases k <;> (cases e; exact ⟨p, rfl, hr⟩)
  | 0, _ :: _, n, w, c, q, s', p, hg, e, hf, hr => by cases e
  | k + 1, d :: r, n, w, c, q, s', p, hg, e, hf, hr => by
    have hg' := hg
    obtain ⟨h1, h2, h3, h4⟩ := hg'
    simp only at h1 h2 h3 h4
    unfold thr at e ⊢
    by_cases hn : 5000 < n + 1
    · rw [if_pos hn] at e; cases e
    rw [if_neg hn] at e ⊢
    by_cases hR : isRep d = true
    · rw [if_pos hR] at e ⊢
      obtain ⟨⟨y, q1⟩, e1, e2⟩ := bind_ok e
      obtain ⟨s1, e3, e4⟩ := bind_ok e2
      have f1 := thr_back S t k _ s1 s' e4 hf
      have f2 := rep_back (fun a b hb hf => thr_back S t k _ a b hb hf) y _ s1 e3 f1
      simp only at f2 e3
      have hgood : GoodS I (n + 1, w, c, q1) ∧ ∃ p1, (if yOf d = 0 then d2.cnt p else .ok (yOf d, p)) = .ok (y, p1) ∧ R q1 p1 := by
        by_cases hy : yOf d = 0
        · rw [if_pos hy] at e1 ⊢
          exact ⟨⟨by simp only; omega, h2, h3, (S.keeps.cnt (by omega) h4 e1).1⟩, S.cnt (by omega) h4 e1 f2 hr⟩
        · rw [if_neg hy] at e1 ⊢
          cases e1
          exact ⟨⟨by simp only; omega, h2, h3, S.keeps.next h4⟩, p, rfl, hr⟩
      obtain ⟨g1, p1, b1, r1⟩ := hgood
      obtain ⟨p2, b2, r2⟩ := rep_sim (fun a b hb hf => thr_back S t k _ a b hb hf) (fun a b ha hb => thr_keeps S.keeps t k _ a b ha hb)
        (fun n w c q s' p hg e hf hr => thr_sim S t hP k _ n w c q s' p hg e hf hr) y (n + 1) w c q1 s1 p1 g1 e3 f1 r1
      have g2 : GoodS I s1 := rep_keeps (P := GoodS I) (fun a b ha hb => thr_keeps S.keeps t k _ a b ha hb) y _ s1 g1 e3
      obtain ⟨p3, b3, r3⟩ := thr_sim S t hP k _ s1.1 s1.2.1 s1.2.2.1 s1.2.2.2 s' p2 g2 e4 hf r2
      refine ⟨p3, ?_, r3⟩
      rw [b1]
      show (rep (thr d2 t k (r.take (xOf d))) y (n + 1, w, c, p1)).bind _ = _
      rw [b2]
      exact b3
    rw [if_neg hR] at e ⊢
    by_cases hO : isOp d = true
    · rw [if_pos hO] at e ⊢
      have := shf_range hO
      by_cases hd : d < 202000
      · rw [if_pos hd] at e ⊢
        exact thr_sim S t hP k r _ _ _ q s' p ⟨by simp only; omega, this, h3, S.keeps.next h4⟩ e hf hr
      · rw [if_neg hd] at e ⊢
        exact thr_sim S t hP k r _ _ _ q s' p ⟨by simp only; omega, h2, this, S.keeps.next h4⟩ e hf hr
    rw [if_neg hO] at e ⊢
    by_cases hE : elOk (elAt t d w c) = true
    · rw [if_pos hE] at e ⊢
      obtain ⟨q1, e1, e2⟩ := bind_ok e
      have f1 := thr_back S t k r _ s' e2 hf
      obtain ⟨p1, b1, r1⟩ := S.val (by omega) h4 hE (hP d) e1 f1 hr
      obtain ⟨p2, b2, r2⟩ := thr_sim S t hP k r _ _ _ q1 s' p1 ⟨by simp only; omega, h2, h3, S.keeps.val (by omega) h4 hE e1⟩ e2 hf r1
      refine ⟨p2, ?_, r2⟩
      rw [b1]
      exact b2
    · rw [if_neg hE] at e; cases e
end Go.TB
