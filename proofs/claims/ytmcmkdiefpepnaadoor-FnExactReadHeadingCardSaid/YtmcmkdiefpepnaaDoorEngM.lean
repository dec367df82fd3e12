/-
  The engine, thirteenth part: what comes back of a call.
-/
import Derived.Test.YtmcmkdiefpepnaaDoorEngL
set_option linter.unusedVariables false
set_option linter.unusedSimpArgs false
namespace Go.Eng

/-! ### Renaming -/
def Cell.free : Cell → Bool
  | .sl .. | .vptr .. => false
  | _ => true
section
variable {w : World} {S S' : St} {r : Nat → Nat}
theorem RepK.imm_free {imm imm' : Nat → Prop} : ∀ {k : Kind} {x : k.den} {f : Nat → Option Value}, k.slfree = true → RepK w imm k x f → RepK w imm' k x f
  | .int _, _, _, _, h => h
  | .bool, _, _, _, h => h
  | .str, _, _, _, h => h
  | .flt, _, _, _, h => h
  | .sl _, _, _, hk, _ => by cases hk
  | .pair a b, x, f, hk, h => by
    simp only [Kind.slfree, Bool.and_eq_true] at hk
    exact ⟨RepK.imm_free hk.1 h.1, RepK.imm_free hk.2 h.2⟩
theorem RepC.ren (hv : ∀ j u, S.val j = some u → S'.val (r j) = some u) {c : Cell} {v : Value} (hi : (∀ b, S.imm b → S'.imm b) ∨ c.free = true) (h : RepC w S c v) : RepC w S' (c.ren r) v := by
  cases c with
  | sl k xs => rcases hi with hi | hi; exact SlV.keep (fun _ _ => rfl) hi h; cases hi
  | ref n => exact ⟨hv _ _ h.1, h.2⟩
  | ptr n o => obtain ⟨b, h1, h2⟩ := h; exact ⟨b, hv _ _ h1, h2⟩
  | eptr n sz i o => obtain ⟨b, len, cap, h1, h2⟩ := h; exact ⟨b, len, cap, hv _ _ h1, h2⟩
  | vptr k xs i o =>
    rcases hi with hi | hi
    · obtain ⟨b, p, h1, h2, h3, h4, h5⟩ := h
      exact ⟨b, p, h1, hi b h2, h3, h4, fun j x hx => (h5 j x hx).keep (fun _ _ => rfl) hi (fun _ _ => rfl)⟩
    · cases hi
  | fn f caps =>
    obtain ⟨vs, h1, h2, h3⟩ := h
    refine ⟨vs, h1, by simp [h2], fun i n hn => ?_⟩
    rw [List.getElem?_map] at hn
    cases hc : caps[i]? with
    | none => rw [hc] at hn; cases hn
    | some m =>
      rw [hc] at hn; cases hn
      obtain ⟨b, hb1, hb2⟩ := h3 i m hc
      exact ⟨b, hv _ _ hb1, hb2⟩
  | _ => exact h
theorem RepL.ren (hv : ∀ j u, S.val j = some u → S'.val (r j) = some u) : ∀ {cs : List Cell} {vs : List Value}, (∀ c ∈ cs, (∀ b, S.imm b → S'.imm b) ∨ c.free = true) → RepL w S cs vs → RepL w S' (cs.map (·.ren r)) vs
  | [], [], _, _ => trivial
  | c :: cs, _ :: _, hi, h => ⟨h.1.ren hv (hi c (by simp)), RepL.ren hv (fun d hd => hi d (by simp [hd])) h.2⟩
theorem RepB.ren (hv : ∀ j u, S.val j = some u → S'.val (r j) = some u) {p : Bool × List Cell} {v : Value} (hi : ∀ c ∈ p.2, (∀ b, S.imm b → S'.imm b) ∨ c.free = true) (h : RepB w S p v) : RepB w S' (p.1, p.2.map (·.ren r)) v := by
  match p, h with
  | (true, cs), ⟨vs, h1, h2⟩ => exact ⟨vs, h1, h2.ren hv hi⟩
  | (false, [c]), h => exact ⟨h.1.ren hv (hi c (by simp)), h.2⟩
  | (false, []), h => exact h.elim
  | (false, _ :: _ :: _), h => exact h.elim
theorem RepT.ren (hv : ∀ j u, S.val j = some u → S'.val (r j) = some u) : ∀ {l : List (Bool × List Cell)} {vs : List Value}, (∀ p ∈ l, ∀ c ∈ p.2, (∀ b, S.imm b → S'.imm b) ∨ c.free = true) → RepT w S l vs → RepT w S' (l.map fun p => (p.1, p.2.map (·.ren r))) vs
  | [], [], _, _ => trivial
  | p :: l, _ :: _, hi, h => ⟨h.1.ren hv (hi p (by simp)), RepT.ren hv (fun q hq => hi q (by simp [hq])) h.2⟩
/-- All cells of a value. -/
def AVal.all (p : Cell → Prop) : AVal → Prop
  | .c x => p x
  | .agg cs => ∀ c ∈ cs, p c
  | .tup l => ∀ q ∈ l, ∀ c ∈ q.2, p c
theorem RepA.ren (hv : ∀ j u, S.val j = some u → S'.val (r j) = some u) {x : AVal} {v : Value} (hi : x.all fun c => (∀ b, S.imm b → S'.imm b) ∨ c.free = true) (h : RepA w S x v) : RepA w S' (x.ren r) v := by
  cases x with
  | c x => exact ⟨h.1.ren hv hi, h.2⟩
  | agg cs => obtain ⟨vs, h1, h2⟩ := h; exact ⟨vs, h1, h2.ren hv hi⟩
  | tup l => obtain ⟨vs, h1, h2⟩ := h; exact ⟨vs, h1, h2.ren hv hi⟩
/-- What of an object hangs on blocks that nobody writes. -/
def Obj.free : Obj → Bool
  | .lst _ k _ => k.slfree
  | .frz .. => false
  | .box _ cs => cs.all Cell.free
  | .dead => true
theorem RepO.ren (hv : ∀ j u, S.val j = some u → S'.val (r j) = some u) {j : Nat} {o : Obj} (hi : (∀ b, S.imm b → S'.imm b) ∨ o.free = true) (h : RepO w S j o) : RepO w S' (r j) (o.ren r) := by
  cases o with
  | lst e k xs =>
    obtain ⟨v, flat, h1, h2, h3, h4⟩ := h
    refine ⟨v, flat, hv _ _ h1, h2, fun i x hx => ?_, h4⟩
    rcases hi with hi | hi
    · exact (h3 i x hx).keep (fun _ _ => rfl) hi (fun _ _ => rfl)
    · exact (h3 i x hx).imm_free hi
  | frz k xs =>
    obtain ⟨v, h1, h2⟩ := h
    rcases hi with hi | hi
    · exact ⟨v, hv _ _ h1, SlV.keep (fun _ _ => rfl) hi h2⟩
    · cases hi
  | box t cs =>
    obtain ⟨b, vs, h1, h2, h3, h4⟩ := h
    refine ⟨b, vs, hv _ _ h1, h2, h3.ren hv fun c hc => ?_, h4⟩
    rcases hi with hi | hi
    · exact .inl hi
    · exact .inr (List.all_eq_true.1 hi c hc)
  | dead => obtain ⟨v, h⟩ := h; exact ⟨v, hv _ _ h⟩
end

/-! ### Shapes without slices -/
theorem encC_free {s : SC} {x : s.den} (h : Shape.slfreeC s = true) : (encC s x).free = true := by cases s <;> first | rfl | cases h
theorem encL_free : ∀ {l : List SC} {x : denL l}, l.all Shape.slfreeC = true → ∀ c ∈ encL l x, c.free = true
  | [], _, _, c, hc => by cases hc
  | s :: l, x, h, c, hc => by
    simp only [List.all_cons, Bool.and_eq_true] at h
    rcases List.mem_cons.1 hc with rfl | hc
    · exact encC_free h.1
    · exact encL_free h.2 c hc
theorem encB_free : ∀ {l : List (Bool × List SC)} {x : denB l}, (l.all fun q => q.2.all Shape.slfreeC) = true → ∀ p ∈ encB l x, ∀ c ∈ p.2, c.free = true
  | [], _, _, p, hp => by cases hp
  | s :: l, x, h, p, hp => by
    simp only [List.all_cons, Bool.and_eq_true] at h
    rcases List.mem_cons.1 hp with rfl | hp
    · exact encL_free h.1
    · exact encB_free h.2 p hp
theorem encA_free {s : SA} {x : s.den} (h : Shape.slfreeA s = true) : (encA s x).all fun c => c.free = true := by
  cases s with
  | c s => exact encC_free h
  | agg l => exact encL_free h
  | tup l => exact encB_free h
theorem encT_free : ∀ {l : List (Nat × SA)} {x : denT l} {p : Nat} {v : AVal}, (l.all fun p => Shape.slfreeA p.2) = true → encT l x = [(p, v)] → v.all fun c => c.free = true
  | q :: l, x, p, v, h, he => by
    simp only [encT, List.cons.injEq, Prod.mk.injEq] at he
    simp only [List.all_cons, Bool.and_eq_true] at h
    rw [← he.1.2]
    exact encA_free h.1
  | [], _, _, _, _, he => by simp [encT] at he
theorem encO_free {s : SO} {x : s.den} (h : Shape.slfreeO s = true) : (encO s x).free = true := by
  cases s with
  | lst e k => exact h
  | box t l => exact List.all_eq_true.2 (encL_free h)
  | dead => rfl
theorem encH_free : ∀ {l : List SO} {j : Nat} {x : denO l}, l.all Shape.slfreeO = true → ∀ i o, AL.get (encH j l x) i = some o → o.free = true
  | [], _, _, _, i, o, h => by cases h
  | s :: l, j, x, hf, i, o, h => by
    simp only [List.all_cons, Bool.and_eq_true] at hf
    simp only [encH, AL.get] at h
    cases hb : Nat.beq i j with
    | true => rw [hb] at h; simp only [cond_true, Option.some.injEq] at h; subst h; exact encO_free hf.1
    | false => rw [hb] at h; exact encH_free hf.2 i o h

/-! ### Setting many -/
theorem setAll_notin {ups : List (Nat × Obj)} {h : AL Obj} {n : Nat} (hn : ∀ p ∈ ups, p.1 ≠ n) : (setAll ups h).get n = h.get n := by
  refine setAll_other ups h n ?_
  rw [List.any_eq_false]
  intro p hp hb
  exact hn p hp (beq_iff.1 hb)
theorem setAll_in : ∀ {ups : List (Nat × Obj)} {h h' : AL Obj} {n : Nat}, (∃ p ∈ ups, p.1 = n) → (setAll ups h).get n = (setAll ups h').get n
  | [], _, _, _, hn => by obtain ⟨p, hp, _⟩ := hn; cases hp
  | (m, o) :: ups, h, h', n, hn => by
    simp only [setAll]
    by_cases hex : ∃ p ∈ ups, p.1 = n
    · exact setAll_in hex
    · have hno : ∀ p ∈ ups, p.1 ≠ n := fun p hp hc => hex ⟨p, hp, hc⟩
      rw [setAll_notin hno, setAll_notin hno, AL.get_set, AL.get_set]
      obtain ⟨p, hp, hpn⟩ := hn
      rcases List.mem_cons.1 hp with rfl | hp
      · simp at hpn; subst hpn; simp
      · exact absurd hpn (hno p hp)

section
variable {Fr : Fd} {nt : Nat} {S : St} {t : AL AVal} {h : AL Obj} {a : Act} {w : World}
/-- Lists that were lent are frozen, one after the other. -/
theorem freezeAll (immTop : Nat → Prop) : ∀ (l : List (Nat × Obj)) {S : St} {h : AL Obj}, Inv Fr nt S ⟨t, h⟩ a w →
    (∀ n ob, (n, ob) ∈ l → ∃ k xs, ob = .frz k xs ∧ ((∃ e, h.get n = some (.lst e k xs)) ∨ h.get n = some (.frz k xs))) →
    (∀ b, S.imm b → immTop b) → (∀ n ob v b, (n, ob) ∈ l → S.val n = some v → blk v = some b → immTop b) →
    ∃ S', Inv Fr nt S' ⟨t, setAll l h⟩ a w ∧ S'.val = S.val ∧ (∀ b, S.imm b → S'.imm b) ∧ ∀ b, S'.imm b → immTop b
  | [], S, h, hI, _, hi, _ => ⟨S, hI, rfl, fun _ h => h, hi⟩
  | (n, ob) :: l, S, h, hI, hl, hi, ht => by
    obtain ⟨k, xs, rfl, hn⟩ := hl n ob (by simp)
    have step : ∃ S1, Inv Fr nt S1 ⟨t, h.set n (.frz k xs)⟩ a w ∧ S1.val = S.val ∧ (∀ b, S.imm b → S1.imm b) ∧ ∀ b, S1.imm b → immTop b := by
      rcases hn with ⟨e, hn⟩ | hn
      · obtain ⟨v, hv, h1⟩ := hI.freeze hn k.sz_pos
        exact ⟨_, h1, rfl, fun _ h => .inl h, fun b hb => hb.elim (hi b) (ht n (.frz k xs) v b (by simp) hv)⟩
      · exact ⟨S, hI.congr (fun m => by rw [AL.get_set]; split; rename_i hm; subst hm; exact hn.symm; rfl), rfl, fun _ h => h, hi⟩
    obtain ⟨S1, I1, v1, i1, t1⟩ := step
    have hl' : ∀ n' ob', (n', ob') ∈ l → ∃ k' xs', ob' = .frz k' xs' ∧ ((∃ e, (h.set n (.frz k xs)).get n' = some (.lst e k' xs')) ∨ (h.set n (.frz k xs)).get n' = some (.frz k' xs')) := fun n' ob' hm => by
      obtain ⟨k', xs', rfl, hn'⟩ := hl n' ob' (by simp [hm])
      refine ⟨k', xs', rfl, ?_⟩
      rw [AL.get_set]
      split
      · rename_i hnn
        subst hnn
        right
        rcases hn with ⟨e1, hn⟩ | hn <;> rcases hn' with ⟨e2, hn'⟩ | hn' <;> (rw [hn] at hn'; cases hn'; try rfl)
      · exact hn'
    obtain ⟨S2, I2, v2, i2, t2⟩ := freezeAll immTop l (h := h.set n (.frz k xs)) I1 hl' t1 (fun n' ob' v b hm hv hb => ht n' ob' v b (by simp [hm]) (by rw [← v1]; exact hv) hb)
    exact ⟨S2, I2, v2.trans v1, fun b hb => i2 b (i1 b hb), t2⟩

/-- Objects that are given away stand for nothing. -/
theorem killAll : ∀ (l : List (Nat × Obj)) {h : AL Obj}, Inv Fr nt S ⟨t, h⟩ a w → (∀ p ∈ l, p.2 = .dead ∧ ∃ o, h.get p.1 = some o) → Inv Fr nt S ⟨t, setAll l h⟩ a w
  | [], _, hI, _ => hI
  | (n, o) :: l, h, hI, hl => by
    obtain ⟨h1, o', h2⟩ := hl (n, o) (by simp)
    simp only at h1; subst h1
    refine killAll l (hI.kill h2) fun p hp => ⟨(hl p (by simp [hp])).1, ?_⟩
    obtain ⟨_, o2, h3⟩ := hl p (by simp [hp])
    rw [AL.get_set]
    split
    · exact ⟨_, rfl⟩
    · exact ⟨o2, h3⟩

/-- More blocks that nobody writes. -/
theorem Inv.moreImm (hI : Inv Fr nt S ⟨t, h⟩ a w) (P : Nat → Prop) (h1 : ∀ b, P b → b < w.heap.size ∧ (Fr.imm0 b ∨ Fr.w0.heap.size ≤ b ∨ Fr.pw b)) (h2 : ∀ n o v b, h.get n = some o → o.mut = true → S.val n = some v → blk v = some b → ¬ P b) :
    Inv Fr nt ⟨S.val, fun b => S.imm b ∨ P b⟩ ⟨t, h⟩ a w :=
  have hle : S.le ⟨S.val, fun b => S.imm b ∨ P b⟩ := ⟨fun _ _ h => h, fun _ h => Or.inl h⟩
  hI.more hle (fun n o hn => (hI.objs n o hn).keep hle (fun _ _ => rfl) (fun _ _ _ _ _ => rfl)) hI.news
    (fun n o v b hn hm hv hb => ⟨fun hc => hc.elim (hI.wr n o v b hn hm hv hb).1 (h2 n o v b hn hm hv hb), (hI.wr n o v b hn hm hv hb).2⟩) hI.dis (fun b hb => hb.elim (hI.imm b) (h1 b))

/-- New names are given what they stand for. -/
theorem bindAll : ∀ (l : List (Nat × Value)) {S : St} {h : AL Obj}, Inv Fr nt S ⟨t, h⟩ a w → (∀ p ∈ l, S.val p.1 = none ∨ S.val p.1 = some p.2) → (∀ p ∈ l, ∀ q ∈ l, p.1 = q.1 → p.2 = q.2) →
    ∃ S', Inv Fr nt S' ⟨t, setAll (l.map fun p => (p.1, .dead)) h⟩ a w ∧ S'.imm = S.imm ∧ (∀ n v, S.val n = some v → S'.val n = some v) ∧ (∀ p ∈ l, S'.val p.1 = some p.2) ∧ (∀ n, (∀ p ∈ l, p.1 ≠ n) → S'.val n = S.val n)
  | [], S, h, hI, _, _ => ⟨S, hI, rfl, fun _ _ h => h, (fun p hp => by cases hp), fun _ _ => rfl⟩
  | (n, v) :: l, S, h, hI, hn, hf => by
    have hnv := hn (n, v) (by simp)
    have h1 := hI.set (n := n) (o := .dead) (v := v) hnv ⟨v, by simp [St.bind]⟩ (fun b hm => by cases hm)
    have hval : ∀ m, (S.bind n v).val m = if m = n then some v else S.val m := fun _ => rfl
    obtain ⟨S2, I2, i2, g2, p2, o2⟩ := bindAll l (S := S.bind n v) h1 (fun p hp => by
      rw [hval]
      split
      · rename_i hpn; right; exact congrArg some (hf (n, v) (by simp) p (by simp [hp]) hpn.symm)
      · exact hn p (by simp [hp])) (fun p hp q hq => hf p (by simp [hp]) q (by simp [hq]))
    refine ⟨S2, I2, i2, fun m u hm => g2 m u ((St.le_bind hnv).val m u hm), fun p hp => ?_, fun m hm => ?_⟩
    · rcases List.mem_cons.1 hp with rfl | hp
      · exact g2 n v (by rw [hval, if_pos rfl])
      · exact p2 p hp
    · rw [o2 m (fun p hp => hm p (by simp [hp])), hval, if_neg (fun hc => hm (n, v) (by simp) hc.symm)]
end
end Go.Eng
