/-
  Part of a proof by the engine: texts that a program of ours printed, or plain lemmas on them. No condition but what each theorem says.
-/
import Derived.Test.YtondfjckadlabaaGreatDoorPAPlain
import Derived.Test.YtondfjckadlabaaGreatDoorTTPlain
import Derived.Test.YtondfjckadlabaaGreatDoorTBPlain
set_option linter.unusedVariables false
set_option linter.unusedSimpArgs false
namespace Go.Proofs.YtondfjckadlabaaGreatDoor.ON
open Go Go.Eng Go.Proofs.YtondfjckadlabaaGreatDoor.DT Go.Proofs.YtondfjckadlabaaGreatDoor.SA Go.Proofs.YtondfjckadlabaaGreatDoor.EX Go.Proofs.YtondfjckadlabaaGreatDoor.ON.W
/-! ### the state between two ends -/
def Same (t u : Int) (c : Ch) : Prop := (c.2.1 ≤ t ↔ c.2.1 ≤ u) ∧ (c.2.2.1 ≤ t ↔ c.2.2.1 ≤ u)
theorem step_same {t u : Int} {s : Sk} {c : Ch} (h : Same t u c) : stepS t s c = stepS u s c := by
  unfold stepS
  simp only [h.1, h.2]
theorem fold_same {t u : Int} : ∀ (xs : List Ch) (s : Sk), (∀ c ∈ xs, Same t u c) → xs.foldl (stepS t) s = xs.foldl (stepS u) s
  | [], s, h => rfl
  | c :: cs, s, h => by
    simp only [List.foldl_cons]
    rw [step_same (h c List.mem_cons_self), fold_same cs _ fun x hx => h x (List.mem_cons_of_mem _ hx)]
theorem may_same {t u : Int} {s : Sk} : ∀ (xs : List Ch), (∀ c ∈ xs, Same t u c) → mayAt t s xs = mayAt u s xs
  | [], h => rfl
  | c :: cs, h => by
    have hc := h c List.mem_cons_self
    have e : (t < c.2.2.1) ↔ (u < c.2.2.1) := by
      have := hc.2
      constructor <;> intro _ <;> omega
    simp only [mayAt, hc.1, e, may_same cs fun x hx => h x (List.mem_cons_of_mem _ hx)]
theorem state_same {a0 : ByteArray} {a1 vf vt d s v : Int} {w c : ByteArray} {b : Int} {xs : List Ch} {t u : Int} (ht : vf ≤ t ∧ t < vt) (hu : vf ≤ u ∧ u < vt) (h : ∀ c ∈ xs, Same t u c) :
    stateV a0 a1 vf vt d s v w c b xs t = stateV a0 a1 vf vt d s v w c b xs u := by
  unfold stateV
  simp only [ht, hu, and_self, and_true]
  rw [fold_same xs _ h, may_same xs h]
/-! ### the state is right -/
theorem laid_sky {a b : Sk} (ha : skyV a.1 a.2.1 a.2.2.1 a.2.2.2.1 a.2.2.2.2.1 a.2.2.2.2.2 = true) (hb : skyV b.1 b.2.1 b.2.2.1 b.2.2.2.1 b.2.2.2.2.1 b.2.2.2.2.2 = true) :
    skyV (laidV a b).1 (laidV a b).2.1 (laidV a b).2.2.1 (laidV a b).2.2.2.1 (laidV a b).2.2.2.2.1 (laidV a b).2.2.2.2.2 = true := by
  unfold laidV
  rw [if_pos ⟨ha, hb⟩]
  obtain ⟨a0, a1, a2, a3, a4, a5⟩ := a
  obtain ⟨b0, b1, b2, b3, b4, b5⟩ := b
  simp only [skyV, Bool.and_eq_true, decide_eq_true_eq] at ha hb ⊢
  obtain ⟨h1, h2, h3, h4⟩ := ha
  obtain ⟨k1, k2, k3, k4⟩ := hb
  refine ⟨?_, ?_, ?_, ?_⟩
  · by_cases h : b0 ≠ -1 <;> simp only [h, if_true, if_false, not_true, not_false_eq_true, ne_eq] <;> assumption
  · by_cases h : b2 ≠ -1 <;> simp only [h, if_true, if_false, not_true, not_false_eq_true, ne_eq] <;> assumption
  · by_cases h : b3 ≠ bs [] <;> simp only [h, if_true, if_false, not_true, not_false_eq_true, ne_eq] <;> assumption
  · by_cases h : b4 ≠ bs [] <;> simp only [h, if_true, if_false, not_true, not_false_eq_true, ne_eq] <;> assumption
def SkyP (s : Sk) : Prop := skyV s.1 s.2.1 s.2.2.1 s.2.2.2.1 s.2.2.2.2.1 s.2.2.2.2.2 = true
theorem fold_sky (t : Int) : ∀ (xs : List Ch) (s : Sk), SkyP s → (∀ c ∈ xs, SkyP c.2.2.2) → SkyP (xs.foldl (stepS t) s)
  | [], s, h, _ => h
  | c :: cs, s, h, hc => by
    simp only [List.foldl_cons]
    refine fold_sky t cs _ ?_ fun x hx => hc x (List.mem_cons_of_mem _ hx)
    have hc0 := hc c List.mem_cons_self
    unfold stepS
    split
    · exact hc0
    · split
      · exact laid_sky h hc0
      · exact h
theorem may_len (t : Int) (s : Sk) : ∀ (xs : List Ch), (mayAt t s xs).length ≤ xs.length
  | [] => Nat.le_refl _
  | c :: cs => by
    have := may_len t s cs
    unfold mayAt
    split <;> simp <;> omega
structure StF (S : Res8) : Prop where
  ok : S.2.2.2.2.2.2.1 = true
  sky : skyV S.1 S.2.1 S.2.2.1 S.2.2.2.1 S.2.2.2.2.1 S.2.2.2.2.2.1 = true
  len : S.2.2.2.2.2.2.2.length ≤ 10
theorem state_f {a0 : ByteArray} {a1 vf vt d s v : Int} {w c : ByteArray} {b : Int} {xs : List Ch} {t : Int} (h : tafV a0 a1 vf vt d s v w c b xs = true) (ht : vf ≤ t ∧ t < vt) : StF (stateV a0 a1 vf vt d s v w c b xs t) := by
  have hl := taf_len h
  have hh := h
  simp only [tafV, fullV, Bool.and_eq_true] at hh
  have hs := hh.2.2.2.2.2.2.2.1.1
  have hx : ∀ c ∈ xs, SkyP c.2.2.2 := fun c hc => by
    have := ON.chs_all xs _ _ hh.2.2.2.2.2.2.2.2.2 c hc
    simp only [chOk, Bool.and_eq_true] at this
    exact this.1
  unfold stateV
  rw [if_pos ⟨h, ht⟩]
  exact ⟨rfl, fold_sky t xs (d, s, v, w, c, b) hs hx, Nat.le_trans (may_len t _ xs) hl⟩
/-! ### parts -/
theorem spans_get (f : Int) (l : List Int) : ∀ (n : Nat) (h : n < (spans f l).length), (spans f l)[n] = ((f :: l)[n]'(by rw [spans_len] at h; simp; omega), l[n]'(by rw [spans_len] at h; exact h)) := by
  induction l generalizing f with
  | nil => intro n h; simp [spans] at h
  | cons t r ih =>
    intro n h
    cases n with
    | zero => rfl
    | succ n =>
      simp only [spans, List.getElem_cons_succ]
      rw [ih]
structure PartF (vf vt : Int) (xs : List Ch) (ps : List (Int × Int)) : Prop where
  pos : 0 < ps.length
  first : (ps[0]'pos).1 = vf
  last : (ps[ps.length - 1]'(by omega)).2 = vt
  lt : ∀ n (h : n < ps.length), vf ≤ ps[n].1 ∧ ps[n].1 < ps[n].2 ∧ ps[n].2 ≤ vt
  next : ∀ n (h : n + 1 < ps.length), ps[n + 1].1 = (ps[n]'(by omega)).2
  same : ∀ n (h : n < ps.length) (a : Int), ps[n].1 ≤ a → a < ps[n].2 → ∀ c ∈ xs, Same ps[n].1 a c
theorem parts_f {a0 : ByteArray} {a1 vf vt d s v : Int} {w c : ByteArray} {b : Int} {xs : List Ch} (h : tafV a0 a1 vf vt d s v w c b xs = true) : PartF vf vt xs (partsV a0 a1 vf vt d s v w c b xs) := by
  obtain ⟨hf, hu, hl, hall⟩ := taf_p h
  unfold partsV
  rw [if_pos h]
  have hm : ∀ a, a ∈ el (ends vt xs) (vt - vf).toNat (vf + 1) ↔ vf + 1 ≤ a ∧ a < vf + 1 + ((vt - vf).toNat : Nat) ∧ ends vt xs a = true := fun a => mem_el (ends vt xs) (vt - vf).toNat (vf + 1) a
  have hsort := el_sorted (ends vt xs) (vt - vf).toNat (vf + 1)
  generalize el (ends vt xs) (vt - vf).toNat (vf + 1) = l at hm hsort ⊢
  have hvt : vt ∈ l := (hm vt).2 ⟨by omega, by omega, by simp [ends]⟩
  have hlen : 0 < l.length := List.length_pos_of_mem hvt
  have hb : ∀ a ∈ l, vf < a ∧ a ≤ vt := fun a ha => by
    have := (hm a).1 ha
    omega
  have hs2 : (vf :: l).Pairwise (· < ·) := List.pairwise_cons.2 ⟨fun a ha => (hb a ha).1, hsort⟩
  have hlast : l[l.length - 1] = vt := by
    obtain ⟨i, hi, he⟩ := List.getElem_of_mem hvt
    have h1 := (hb _ (List.getElem_mem (show l.length - 1 < l.length by omega))).2
    by_cases hij : i = l.length - 1
    · subst hij; exact he
    · have := List.pairwise_iff_getElem.1 hsort i (l.length - 1) hi (by omega) (by omega)
      omega
  have hlt : ∀ n (hn : n < l.length), (vf :: l)[n]'(by simp; omega) < l[n] := fun n hn => by
    have := List.pairwise_iff_getElem.1 hs2 n (n + 1) (by simp; omega) (by simp; omega) (by omega)
    simpa using this
  have hge : ∀ n (hn : n < l.length), vf ≤ (vf :: l)[n]'(by simp; omega) := fun n hn => by
    cases n with
    | zero => exact Int.le_refl _
    | succ n =>
      have := (hb _ (List.getElem_mem (show n < l.length by omega))).1
      simp only [List.getElem_cons_succ]
      omega
  refine ⟨by rw [spans_len]; exact hlen, ?_, ?_, ?_, ?_, ?_⟩
  · rw [spans_get]; rfl
  · rw [spans_get]
    simp only [spans_len]
    exact hlast
  · intro n hn
    have hn' : n < l.length := by rw [spans_len] at hn; exact hn
    rw [spans_get]
    exact ⟨hge n hn', hlt n hn', (hb _ (List.getElem_mem hn')).2⟩
  · intro n hn
    rw [spans_get, spans_get]
    rfl
  · intro n hn a h1 h2 c hc
    have hn' : n < l.length := by rw [spans_len] at hn; exact hn
    rw [spans_get] at h1 h2 ⊢
    simp only at h1 h2 ⊢
    have hg := hge n hn'
    have hle := (hb _ (List.getElem_mem hn')).2
    -- no end between
    have hno : ∀ x, (vf :: l)[n]'(by simp; omega) < x → x ≤ a → ¬ hit x c = true := fun x k1 k2 hh => by
      have hx : x ∈ l := (hm x).2 ⟨by omega, by omega, by
        unfold ends
        rw [Bool.or_eq_true]
        exact .inr (List.any_eq_true.2 ⟨c, hc, hh⟩)⟩
      obtain ⟨i, hi, he⟩ := List.getElem_of_mem hx
      by_cases hin : i < n
      · have := List.pairwise_iff_getElem.1 hs2 (i + 1) n (by simp; omega) (by simp; omega)
        by_cases e : i + 1 = n
        · subst e
          simp only [List.getElem_cons_succ] at k1
          omega
        · have := this (by omega)
          simp only [List.getElem_cons_succ] at this
          omega
      · by_cases e : i = n
        · subst e; omega
        · have := List.pairwise_iff_getElem.1 hsort n i hn' hi (by omega)
          omega
    generalize (vf :: l)[n]'(by simp; omega) = F at *
    constructor
    · constructor
      · intro k; omega
      · intro k
        by_cases hx : c.2.1 ≤ F
        · exact hx
        · exact absurd (by simp [hit]) (hno c.2.1 (by omega) k)
    · constructor
      · intro k; omega
      · intro k
        by_cases hx : c.2.2.1 ≤ F
        · exact hx
        · exact absurd (by simp [hit]) (hno c.2.2.1 (by omega) k)
/-! ### the least sight -/
theorem mn_le : ∀ (l : List Int) (w : Int), mn w l ≤ w ∧ ∀ x ∈ l, mn w l ≤ x
  | [], w => ⟨Int.le_refl _, fun x hx => by simp at hx⟩
  | y :: l, w => by
    have h := mn_le l (mi w y)
    have e : mn w (y :: l) = mn (mi w y) l := rfl
    have h1 : mi w y ≤ w ∧ mi w y ≤ y := by unfold mi; split <;> omega
    rw [e]
    refine ⟨by omega, fun x hx => ?_⟩
    rcases List.mem_cons.1 hx with rfl | hx
    · omega
    · exact h.2 x hx
theorem mn_mem : ∀ (l : List Int) (w : Int), mn w l = w ∨ mn w l ∈ l
  | [], w => .inl rfl
  | y :: l, w => by
    have e : mn w (y :: l) = mn (mi w y) l := rfl
    rw [e]
    rcases mn_mem l (mi w y) with h | h
    · rw [h]
      unfold mi
      split
      · exact .inr List.mem_cons_self
      · exact .inl rfl
    · exact .inr (List.mem_cons_of_mem _ h)
section
variable (st : Int → Res8)
/-- W is a sight at the part. -/
def At (W : Int) (p : Int × Int) : Prop := (st p.1).2.2.1 = W ∨ ∃ x ∈ (st p.1).2.2.2.2.2.2.2, x.2.2.1 = W
def Ge (W : Int) (p : Int × Int) : Prop := W ≤ (st p.1).2.2.1 ∧ ∀ x ∈ (st p.1).2.2.2.2.2.2.2, W ≤ x.2.2.1
theorem sp_le : ∀ (ps : List (Int × Int)) (w : Int), sp st w ps ≤ w ∧ ∀ p ∈ ps, Ge st (sp st w ps) p
  | [], w => ⟨Int.le_refl _, fun p hp => by simp at hp⟩
  | q :: ps, w => by
    have h := sp_le ps (mn (mi w (st q.1).2.2.1) ((st q.1).2.2.2.2.2.2.2.map vis))
    have h1 := mn_le ((st q.1).2.2.2.2.2.2.2.map vis) (mi w (st q.1).2.2.1)
    have e : sp st w (q :: ps) = sp st (mn (mi w (st q.1).2.2.1) ((st q.1).2.2.2.2.2.2.2.map vis)) ps := rfl
    have h2 : mi w (st q.1).2.2.1 ≤ w ∧ mi w (st q.1).2.2.1 ≤ (st q.1).2.2.1 := by unfold mi; split <;> omega
    rw [e]
    refine ⟨by omega, fun p hp => ?_⟩
    rcases List.mem_cons.1 hp with rfl | hp
    · refine ⟨by omega, fun x hx => ?_⟩
      have := h1.2 (vis x) (List.mem_map.2 ⟨x, hx, rfl⟩)
      have e : vis x = x.2.2.1 := rfl
      omega
    · exact h.2 p hp
theorem sp_mem : ∀ (ps : List (Int × Int)) (w : Int), sp st w ps = w ∨ ∃ p ∈ ps, At st (sp st w ps) p
  | [], w => .inl rfl
  | q :: ps, w => by
    have e : sp st w (q :: ps) = sp st (mn (mi w (st q.1).2.2.1) ((st q.1).2.2.2.2.2.2.2.map vis)) ps := rfl
    rw [e]
    rcases sp_mem ps (mn (mi w (st q.1).2.2.1) ((st q.1).2.2.2.2.2.2.2.map vis)) with h | ⟨p, hp, h⟩
    · rw [h]
      rcases mn_mem ((st q.1).2.2.2.2.2.2.2.map vis) (mi w (st q.1).2.2.1) with h1 | h1
      · rw [h1]
        unfold mi
        split
        · exact .inr ⟨q, List.mem_cons_self, .inl rfl⟩
        · exact .inl rfl
      · obtain ⟨x, hx, hv⟩ := List.mem_map.1 h1
        exact .inr ⟨q, List.mem_cons_self, .inr ⟨x, hx, hv⟩⟩
    · exact .inr ⟨p, List.mem_cons_of_mem _ hp, h⟩
/-- All sights are at least W, and W is one of them. -/
theorem worst_f {ps : List (Int × Int)} (hne : ps ≠ []) (hv : ∀ t, inV (st t).2.2.1 ∧ ∀ x ∈ (st t).2.2.2.2.2.2.2, inV x.2.2.1) :
    (∀ p ∈ ps, Ge st (ip st (-1) ps) p) ∧ ∃ p ∈ ps, At st (ip st (-1) ps) p := by
  obtain ⟨h1, h2⟩ := ip_sp st hv ps (-1)
  have h3 := h2 (.inl hne)
  have e : ip st (-1) ps = sp st 9999 ps := by
    have : gv (ip st (-1) ps) = ip st (-1) ps := by unfold gv; rw [if_neg (by omega)]
    rw [← this, h1]
    rfl
  rw [e]
  have hle := sp_le st ps 9999
  refine ⟨hle.2, ?_⟩
  rcases sp_mem st ps 9999 with h | h
  · cases ps with
    | nil => exact absurd rfl hne
    | cons p r =>
      refine ⟨p, List.mem_cons_self, .inl ?_⟩
      have k1 := (hle.2 p List.mem_cons_self).1
      have k2 := (hv p.1).1.2
      omega
  · exact h
end
theorem worst_impl (a0 : ByteArray) (a1 vf vt d s v : Int) (w c : ByteArray) (b : Int) (xs : List Ch) : impl_WorstSight a0 a1 vf vt d s v w c b xs = some (ip (stateV a0 a1 vf vt d s v w c b xs) (-1) (partsV a0 a1 vf vt d s v w c b xs)) := by
  have hp := parts_len a0 a1 vf vt d s v w c b xs
  refine evF_eq ?_
  simp only [impl_WorstSight_F, impl_Parts_eq, Option.bind_some]
  exact impl_outer a0 a1 vf vt d s v w c b xs _ (by omega) _ 0 (-1) rfl (by omega)
end Go.Proofs.YtondfjckadlabaaGreatDoor.ON

namespace Go.Proofs.YtondfjckadlabaaGreatDoor.ON
open Go Go.Eng Go.Proofs.YtondfjckadlabaaGreatDoor.DT Go.Proofs.YtondfjckadlabaaGreatDoor.NU Go.Proofs.YtondfjckadlabaaGreatDoor.SA Go.Proofs.YtondfjckadlabaaGreatDoor.TT Go.Proofs.YtondfjckadlabaaGreatDoor.RT Go.Proofs.YtondfjckadlabaaGreatDoor.DR Go.Proofs.YtondfjckadlabaaGreatDoor.TB Go.Proofs.YtondfjckadlabaaGreatDoor.EX Go.Proofs.YtondfjckadlabaaGreatDoor.ON.W
theorem sameSkies_self (xs : List Sk) (hx : xs.length ≤ 1048576) : laws_sameSkies xs xs = some true := by
  refine evF_eq ?_
  simp only [laws_sameSkies_F, bne_self_eq_false, cond_false]
  exact ev_upto (l := fun k n => laws_sameSkies_L4 k xs xs (n : Int)) (N := xs.length) (fun n hn k => by
    simp only [laws_sameSkies_L4, show (n : Int) < (xs.length : Int) by omega, show (0 : Int) ≤ (n : Int) by omega, decide_true, cond_true, wsucc (show n < 9223372036854775807 by omega), beq_self_eq_true, Bool.and_self, Bool.not_true, cond_false]) (by
    apply ev_succ
    simp only [laws_sameSkies_L4, Int.lt_irrefl, decide_false, cond_false]
    exact ev_now _)
/-- The state at a part's other times. -/
theorem l30 {W : Int} {met : Bool} {i : Nat} {c0 : ByteArray} {R vf vt d s v : Int} {w c : ByteArray} {b : Int} {P : List (Int × Int)} {xs : List Ch} {S : Res8} {at' : List Int} {r : Bool} (hi : i < 1000000) (hl : at'.length ≤ 1000) (hS : StF S)
    (hat : ∀ a ∈ at', stateV c0 R vf vt d s v w c b xs a = S) (hr : Ev (fun k => laws_FnOneState_L13 k W met ((i + 1 : Nat) : Int) c0 R vf vt d s v w c b P c0 R vf vt d s v w c b xs xs) r) :
    ∀ (m n : Nat), at'.length - n = m → n ≤ at'.length → Ev (fun k => laws_FnOneState_L30 k W met (i : Int) (n : Int) c0 R vf vt d s v w c b P c0 R vf vt d s v w c b S.1 S.2.1 S.2.2.1 S.2.2.2.1 S.2.2.2.2.1 S.2.2.2.2.2.1 S.2.2.2.2.2.2.2 at' xs xs) r := by
  intro m
  induction m with
  | zero =>
    intro n hm hn
    obtain rfl : n = at'.length := by omega
    refine ev_succ ?_
    simp only [laws_FnOneState_L30, Int.lt_irrefl, decide_false, cond_false, wsucc (show i < 9223372036854775807 by omega)]
    exact hr
  | succ m ih =>
    intro n hm hn
    have hlt : n < at'.length := by omega
    have ha := hat _ (List.getElem_mem hlt)
    have h0 := hS.len
    refine ev_succ ?_
    simp only [laws_FnOneState_L30, show (n : Int) < (at'.length : Int) by omega, show (0 : Int) ≤ (n : Int) by omega, decide_true, cond_true, rd_nat (k := .int .i64) hlt, impl_StateAt_eq, Option.bind_some, ha, hS.ok, Bool.not_true, cond_false, beq_self_eq_true, Bool.and_self, sameSkies_self S.2.2.2.2.2.2.2 (by omega), wsucc (show n < 9223372036854775807 by omega)]
    exact ih (n + 1) (by omega) (by omega)
def anyV (W : Int) (l : List Sk) : Bool := l.any fun x => x.2.2.1 == W
/-- The skies that may be. -/
theorem l23 {W F T : Int} {i : Nat} {c0 : ByteArray} {R vf vt d s v : Int} {w c : ByteArray} {b : Int} {P : List (Int × Int)} {xs : List Ch} {s0 s1 s2 : Int} {s3 s4 : ByteArray} {s5 : Int} {may : List Sk} {r : Bool} (hl : may.length ≤ 1000) (hge : ∀ x ∈ may, W ≤ x.2.2.1) :
    ∀ (m n : Nat) (met : Bool), may.length - n = m → n ≤ may.length →
    Ev (fun k => laws_FnOneState_L30 k W (met || anyV W (may.drop n)) (i : Int) 0 c0 R vf vt d s v w c b P c0 R vf vt d s v w c b s0 s1 s2 s3 s4 s5 may [if IntKind.i64.wrap (T - 1) < IntKind.i64.wrap (F + 1) then IntKind.i64.wrap (T - 1) else IntKind.i64.wrap (F + 1), IntKind.i64.wrap ((IntKind.i64.wrap (F + T)).tdiv 2), IntKind.i64.wrap (T - 1)] xs xs) r →
    Ev (fun k => laws_FnOneState_L23 k W met (i : Int) (n : Int) c0 R vf vt d s v w c b P c0 R vf vt d s v w c b F T s0 s1 s2 s3 s4 s5 may xs xs) r := by
  intro m
  induction m with
  | zero =>
    intro n met hm hn hr
    obtain rfl : n = may.length := by omega
    refine ev_succ ?_
    simp only [laws_FnOneState_L23, Int.lt_irrefl, decide_false, cond_false]
    rw [List.drop_length] at hr
    simpa [anyV] using hr
  | succ m ih =>
    intro n met hm hn hr
    have hlt : n < may.length := by omega
    have hg := hge _ (List.getElem_mem hlt)
    refine ev_succ ?_
    simp only [laws_FnOneState_L23, show (n : Int) < (may.length : Int) by omega, show (0 : Int) ≤ (n : Int) by omega, decide_true, cond_true, rd_nat (k := K6_SA1) hlt, show ¬ may[n].2.2.1 < W by omega, decide_false, cond_false, wsucc (show n < 9223372036854775807 by omega)]
    have hd : anyV W (may.drop n) = (may[n].2.2.1 == W || anyV W (may.drop (n + 1))) := by
      rw [drop_cons hlt]; rfl
    rw [hd] at hr
    cases met with
    | true =>
      simp only [cond_true]
      refine ih (n + 1) true (by omega) (by omega) ?_
      simpa only [Bool.true_or] using hr
    | false =>
      simp only [cond_false]
      refine ih (n + 1) _ (by omega) (by omega) ?_
      simpa only [Bool.false_or] using hr
/-- Is the least sight met? -/
def metV (st : Int → Res8) (W : Int) : Bool → List (Int × Int) → Bool
  | m, [] => m
  | m, p :: ps => metV st W ((m || (st p.1).2.2.1 == W) || anyV W (st p.1).2.2.2.2.2.2.2) ps
theorem metV_true (st : Int → Res8) (W : Int) : ∀ (ps : List (Int × Int)), metV st W true ps = true
  | [] => rfl
  | p :: ps => by simp only [metV, Bool.true_or]; exact metV_true st W ps
theorem metV_at (st : Int → Res8) (W : Int) : ∀ (ps : List (Int × Int)) (m : Bool), (∃ p ∈ ps, At st W p) → metV st W m ps = true
  | [], m, h => by obtain ⟨p, hp, _⟩ := h; simp at hp
  | q :: ps, m, h => by
    obtain ⟨p, hp, ha⟩ := h
    simp only [metV]
    rcases List.mem_cons.1 hp with rfl | hp
    · have : ((m || (st p.1).2.2.1 == W) || anyV W (st p.1).2.2.2.2.2.2.2) = true := by
        rcases ha with h1 | ⟨x, hx, h1⟩
        · simp [h1]
        · have : anyV W (st p.1).2.2.2.2.2.2.2 = true := List.any_eq_true.2 ⟨x, hx, by simp [h1]⟩
          simp [this]
      rw [this]
      exact metV_true st W ps
    · exact metV_at st W ps _ ⟨p, hp, ha⟩
theorem l13 {W : Int} {c0 : ByteArray} {R vf vt d s v : Int} {w c : ByteArray} {b : Int} {P : List (Int × Int)} {xs : List Ch} (hv : tafV c0 R vf vt d s v w c b xs = true) (hP : PartF vf vt xs P) (hpl : P.length ≤ 10000) (hvt : 0 ≤ vf ∧ vt ≤ 52596000) (hge : ∀ p ∈ P, Ge (stateV c0 R vf vt d s v w c b xs) W p) :
    ∀ (m n : Nat) (met : Bool), P.length - n = m → n ≤ P.length → Ev (fun k => laws_FnOneState_L13 k W met (n : Int) c0 R vf vt d s v w c b P c0 R vf vt d s v w c b xs xs) (metV (stateV c0 R vf vt d s v w c b xs) W met (P.drop n)) := by
  intro m
  induction m with
  | zero =>
    intro n met hm hn
    obtain rfl : n = P.length := by omega
    refine ev_succ ?_
    simp only [laws_FnOneState_L13, Int.lt_irrefl, decide_false, cond_false, List.drop_length, metV]
    exact ev_now _
  | succ m ih =>
    intro n met hm hn
    have hlt : n < P.length := by omega
    obtain ⟨q1, q2, q3⟩ := hP.lt n hlt
    obtain ⟨g1, g2⟩ := hge _ (List.getElem_mem hlt)
    have hS := state_f (t := P[n].1) hv ⟨q1, by omega⟩
    have hat : ∀ a, P[n].1 ≤ a → a < P[n].2 → stateV c0 R vf vt d s v w c b xs a = stateV c0 R vf vt d s v w c b xs P[n].1 := fun a k1 k2 =>
      (state_same ⟨q1, by omega⟩ ⟨by omega, by omega⟩ (hP.same n hlt a k1 k2)).symm
    have ih' := fun met => ih (n + 1) met (by omega) (by omega)
    have hlen := hS.len
    rw [drop_cons hlt]
    simp only [metV]
    have fin : Ev (fun k => laws_FnOneState_L23 k W (met || (stateV c0 R vf vt d s v w c b xs P[n].1).2.2.1 == W) (n : Int) 0 c0 R vf vt d s v w c b P c0 R vf vt d s v w c b P[n].1 P[n].2 (stateV c0 R vf vt d s v w c b xs P[n].1).1 (stateV c0 R vf vt d s v w c b xs P[n].1).2.1 (stateV c0 R vf vt d s v w c b xs P[n].1).2.2.1 (stateV c0 R vf vt d s v w c b xs P[n].1).2.2.2.1 (stateV c0 R vf vt d s v w c b xs P[n].1).2.2.2.2.1 (stateV c0 R vf vt d s v w c b xs P[n].1).2.2.2.2.2.1 (stateV c0 R vf vt d s v w c b xs P[n].1).2.2.2.2.2.2.2 xs xs) (metV (stateV c0 R vf vt d s v w c b xs) W ((met || (stateV c0 R vf vt d s v w c b xs P[n].1).2.2.1 == W) || anyV W (stateV c0 R vf vt d s v w c b xs P[n].1).2.2.2.2.2.2.2) (P.drop (n + 1))) := by
      refine l23 (by omega) g2 _ 0 _ rfl (by omega) ?_
      rw [List.drop_zero]
      refine l30 (by omega) (by simp) hS ?_ (ih' _) _ 0 rfl (by omega)
      intro a ha
      rw [w64 (n := P[n].2 - 1) (by omega) (by omega), w64 (n := P[n].1 + 1) (by omega) (by omega), w64 (n := P[n].1 + P[n].2) (by omega) (by omega), Int.tdiv_eq_ediv_of_nonneg (by omega), w64 (by omega) (by omega)] at ha
      refine hat a ?_ ?_
      all_goals
        simp only [List.mem_cons, List.not_mem_nil, or_false] at ha
        rcases ha with ha | ha | ha
        · split at ha <;> omega
        · omega
        · omega
    refine ev_succ ?_
    cases n with
    | zero =>
      simp only [laws_FnOneState_L13, show ((0 : Nat) : Int) < (P.length : Int) by omega, show (0 : Int) ≤ ((0 : Nat) : Int) by omega, show ¬ ((0 : Nat) : Int) > 0 by omega, decide_true, decide_false, cond_true, cond_false, rd_nat (k := K2_ON2) hlt, show ¬ P[0].1 ≥ P[0].2 by omega, impl_StateAt_eq, Option.bind_some, hS.ok, Bool.not_true, spec_SkyOk_eq, hS.sky, show ¬ (stateV c0 R vf vt d s v w c b xs P[0].1).2.2.1 < W by omega]
      cases met with
      | true => simpa only [cond_true, Bool.true_or] using fin
      | false => simpa only [cond_false, Bool.false_or] using fin
    | succ n =>
      have hnx := hP.next n hlt
      have hlt' : n < P.length := by omega
      simp only [laws_FnOneState_L13, show ((n + 1 : Nat) : Int) < (P.length : Int) by omega, show (0 : Int) ≤ ((n + 1 : Nat) : Int) by omega, show ((n + 1 : Nat) : Int) > 0 by omega, wpred (show n < 9223372036854775807 by omega), show (0 : Int) ≤ (n : Int) by omega, show (n : Int) < (P.length : Int) by omega, decide_true, decide_false, cond_true, cond_false, rd_nat (k := K2_ON2) hlt, rd_nat (k := K2_ON2) hlt', show ¬ P[n + 1].1 ≥ P[n + 1].2 by omega, hnx.symm, bne_self_eq_false, impl_StateAt_eq, Option.bind_some, hS.ok, Bool.not_true, spec_SkyOk_eq, hS.sky, show ¬ (stateV c0 R vf vt d s v w c b xs P[n + 1].1).2.2.1 < W by omega]
      cases met with
      | true => simpa only [cond_true, Bool.true_or] using fin
      | false => simpa only [cond_false, Bool.false_or] using fin
end Go.Proofs.YtondfjckadlabaaGreatDoor.ON

namespace Go.Proofs.YtondfjckadlabaaGreatDoor.ON
open Go Go.Eng Go.Proofs.YtondfjckadlabaaGreatDoor.DT Go.Proofs.YtondfjckadlabaaGreatDoor.NU Go.Proofs.YtondfjckadlabaaGreatDoor.SA Go.Proofs.YtondfjckadlabaaGreatDoor.TT Go.Proofs.YtondfjckadlabaaGreatDoor.RT Go.Proofs.YtondfjckadlabaaGreatDoor.DR Go.Proofs.YtondfjckadlabaaGreatDoor.TB Go.Proofs.YtondfjckadlabaaGreatDoor.EX Go.Proofs.YtondfjckadlabaaGreatDoor.ON.W
theorem drawP {l : List Int} (hl : l.length ≤ 1048576) (hb : ∀ x ∈ l, 0 ≤ x ∧ x ≤ 255) : Answ (fun _ => True) (spec_DrawParts l) := by
  unfold spec_DrawParts
  exact good_bind (open_good hl hb) fun y hy => good_bind (draw_good hy) fun z hz => ⟨_, rfl, trivial⟩
theorem law (x : List Int) (hx : ∀ c ∈ x, 0 ≤ c ∧ c ≤ 255) : laws_FnOneState x = some true := by
  refine evF_eq ?_
  unfold laws_FnOneState_F laws_big
  simp only [Option.bind_some]
  by_cases h1 : (x.length : Int) > 1048576
  · simp only [h1, decide_true, cond_true]
    exact ev_now _
  obtain ⟨⟨c0, R, vf, vt, d, s, v, w, c, b, xs⟩, e, _⟩ := drawP (l := x) (by omega) hx
  simp only [h1, decide_false, cond_false, e, Option.bind_some, impl_Parts_eq, spec_TafOk_eq, worst_impl, impl_TafText_eq]
  cases hv : tafV c0 R vf vt d s v w c b xs with
  | false =>
    have hp : partsV c0 R vf vt d s v w c b xs = [] := by unfold partsV; rw [if_neg (by rw [hv]; simp)]
    simp only [hp, List.length_nil, Bool.not_false, cond_true, ip]
    exact ev_now _
  | true =>
    have hP := parts_f hv
    have hpl := parts_len c0 R vf vt d s v w c b xs
    have hpos := hP.pos
    have hT := (taf_g hv).f
    have hrd := read_id (ref := R) hv hT.t (by omega) (by omega)
    obtain ⟨W, eW, eI⟩ := worst_eq c0 R vf vt d s v w c b xs
    rw [worst_impl] at eI
    obtain rfl := Option.some.inj eI
    obtain ⟨hge, hat⟩ := worst_f (stateV c0 R vf vt d s v w c b xs) (ps := partsV c0 R vf vt d s v w c b xs) (fun h => by rw [h] at hpos; simp at hpos) (state_v c0 R vf vt d s v w c b xs)
    have h0 : rd K2_ON2 (partsV c0 R vf vt d s v w c b xs) 0 = (partsV c0 R vf vt d s v w c b xs)[0] := rd_nat (k := K2_ON2) (n := 0) hpos
    have hlast : IntKind.i64.wrap (((partsV c0 R vf vt d s v w c b xs).length : Int) - 1) = (((partsV c0 R vf vt d s v w c b xs).length - 1 : Nat) : Int) := by rw [w64 (by omega) (by omega)]; omega
    have h9 : rd K2_ON2 (partsV c0 R vf vt d s v w c b xs) (((partsV c0 R vf vt d s v w c b xs).length - 1 : Nat) : Int) = (partsV c0 R vf vt d s v w c b xs)[(partsV c0 R vf vt d s v w c b xs).length - 1]'(by omega) := rd_nat (k := K2_ON2) (by omega)
    have hne : ((((partsV c0 R vf vt d s v w c b xs).length : Nat) : Int) == 0) = false := by simp only [beqI, decide_eq_false_iff_not]; omega
    simp only [Bool.not_true, cond_false, hrd, Option.bind_some, hne, show (0 : Int) < ((partsV c0 R vf vt d s v w c b xs).length : Int) by omega, decide_true, cond_true, h0, hP.first, bne_self_eq_false, hlast, h9, hP.last, show (0 : Int) ≤ (((partsV c0 R vf vt d s v w c b xs).length - 1 : Nat) : Int) by omega, show (((partsV c0 R vf vt d s v w c b xs).length - 1 : Nat) : Int) < ((partsV c0 R vf vt d s v w c b xs).length : Int) by omega, eW]
    have := l13 hv hP (by omega) ⟨hT.f.1, hT.u.2⟩ hge _ 0 false rfl (by omega)
    rw [List.drop_zero, metV_at _ _ _ _ hat] at this
    exact this
theorem pure (z0 : denKs [.sl (.int .u8)]) (h0 : wfKs [.sl (.int .u8)] z0) :
    g_laws_FnOneState.fn ((z0.1, ()), ()) = some true := by
  obtain ⟨w0, _⟩ := h0
  exact law z0.1 (fun x hx => wf_u8.1 ((wf_sl.1 w0).2 x hx))
end Go.Proofs.YtondfjckadlabaaGreatDoor.ON
