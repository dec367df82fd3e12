/-
  The engine, fourth part: what each operation does to memory, and that it is what the engine says.
-/
import Derived.Test.YtmcmkdiefpepnaaDoorEngC
import Derived.Laws.Small
set_option linter.unusedVariables false
set_option linter.unusedSimpArgs false
namespace Go.Eng

/-! ### Lists of one's own -/
section
variable {P : Program} {w : World}
/-- append, with where the row lies then. -/
theorem run_append (t ty e : TypeId) (i : TypeInfo) (z : Value) (size bytes : Nat) (ht : P.underlying t = some (.slice e)) (hi : P.info? e = some i) (hz : i.zero = some z)
    (hsize : i.size = size) (hby : i.bytes = bytes) (hzs : z.cells.size = size) (hsz : 0 < size)
    (v : Value) (n : Nat) (xs : List Value) (hown : w.ownsRow 0 e size v n xs) (x : Value) (m : Nat) (news : List Value)
    (hx : (x = .slice none 0 0 ∧ m = 0 ∧ news = []) ∨ ∃ a c, x = .slice (some a) m c ∧ news.length = m * size ∧ ∀ (j : Nat) u, news[j]? = some u → w.cell? (a.add j) = some u)
    (h1 : ∀ u ∈ news, u.oneCell' = true) (h63 : n + m ≤ maxLen) (hbytes : (n + m) * bytes ≤ 140737488355328) :
    ∃ v' w', (Builtin.append_ #[t, t] ty #[v, x]).run P w = .ok v' w' ∧ w'.ownsRow 0 e size v' (n + m) (xs ++ news) ∧ w.grownBy w' v.ownBlock ∧ ∀ b, blk v' = some b → blk v = some b ∨ w.heap.size ≤ b := by
  rcases hx with ⟨rfl, rfl, rfl⟩ | ⟨a, c, rfl, hl, hnews⟩
  · refine ⟨v, w, run_append_owned_none w 0 t ty e i size ht hi v n xs hown, by simpa using hown, ⟨rfl, rfl, rfl, Nat.le_refl _, fun _ _ _ => rfl⟩, fun b hb => .inl hb⟩
  · obtain ⟨v', w', hr, h2, h3, h4⟩ := run_append_own (P := P) w 0 t ty e i z size bytes ht hi hz hsize hby hzs hsz v n xs hown a m c news hl hnews h1 h63 hbytes (Nat.zero_le _)
    refine ⟨v', w', hr, h2, h3, fun b hb => ?_⟩
    subst hsize
    rcases hown.2 with ⟨rfl, rfl⟩ | ⟨g, cap, cur, rfl, hbg, hg, hnc, hcm, hcs, htake⟩
    · by_cases hm : m = 0
      · rw [(h4.2 ⟨rfl, hm⟩)] at hb; simp [blk] at hb
      · have hr' := run_append_nil (P := P) w t ty e i z ht hi hz a m c news hl hnews (by omega) (by simp only [maxLen] at h63; omega) (by rw [hby]; have hb := hbytes; simp only [Nat.zero_add] at hb; omega)
        rw [hr] at hr'
        injection hr' with e1 e2
        subst e1
        simp only [blk, Option.some.injEq] at hb
        exact .inr (by omega)
    · by_cases hroom : n + m ≤ cap
      · have hfit : n * i.size + news.length ≤ cur.size := by rw [hl, hcs, ← Nat.add_mul]; exact Nat.mul_le_mul_right _ hroom
        have hr' := run_append_room (P := P) w t ty e i ht hi g n cap cur hg a m c news hl hnews h1 hroom hfit
        rw [hr] at hr'
        injection hr' with e1 e2
        subst e1
        exact .inl hb
      · have holds : ∀ (j : Nat) u, xs[j]? = some u → w.cell? ((⟨g, 0, none⟩ : Addr).add j) = some u := hown.cells (g := g) rfl
        have hr' := run_append_grow (P := P) w t ty e i z ht hi hz ⟨g, 0, none⟩ n cap xs hown.1 holds a m c news hl hnews (by omega) (by simp only [maxLen] at h63; omega) (by rw [hby]; exact growslice_fits (by omega) hbytes)
        rw [hr] at hr'
        injection hr' with e1 e2
        subst e1
        simp only [blk, Option.some.injEq] at hb
        exact .inr (by omega)

theorem splice_get {α : Type} (l us : List α) (o : Nat) (ho : o ≤ l.length) (j : Nat) :
    (l.take o ++ (us ++ l.drop (o + us.length)))[j]? = if j < o then l[j]? else if j < o + us.length then us[j - o]? else l[j]? := by
  have e : (l.take o).length = o := by simp; omega
  by_cases h1 : j < o
  · rw [if_pos h1, List.getElem?_append_left (by omega), List.getElem?_take, if_pos h1]
  · rw [if_neg h1, List.getElem?_append_right (by omega), e]
    by_cases h2 : j < o + us.length
    · rw [if_pos h2, List.getElem?_append_left (by omega)]
    · rw [if_neg h2, List.getElem?_append_right (by omega), List.getElem?_drop]
      congr 1; omega

/-- A list's cells, written in a stretch. -/
theorem ownsRow_setRow {e : TypeId} {size n cap g : Nat} {xs : List Value} {cur : Array Value} (h : w.ownsRow 0 e size (.slice (some ⟨g, 0, none⟩) n cap) n xs) (hg : w.heap[g]? = some (.cells cur e (0, 0)))
    (o : Nat) (us : List Value) (ho : o + us.length ≤ n * size) :
    (w.setRow g (cur.toList.take o ++ us ++ cur.toList.drop (o + us.length)).toArray).ownsRow 0 e size (.slice (some ⟨g, 0, none⟩) n cap) n (xs.take o ++ (us ++ xs.drop (o + us.length))) := by
  rcases h.2 with ⟨h', _⟩ | ⟨g', cap', cur', h', hb, hg', hnc, hcm, hcs, htake⟩
  · cases h'
  · cases h'
    rw [hg] at hg'; cases hg'
    have hle : n * size ≤ cur.size := by rw [hcs]; exact Nat.mul_le_mul_right _ hnc
    have hl := h.1
    refine ⟨by simp [hl]; omega, .inr ⟨g, cap, _, rfl, hb, setRow_heap w g cur _ e _ hg, hnc, hcm, ?_, ?_⟩⟩
    · simp; omega
    · simp only
      apply List.ext_getElem?
      intro j
      rw [List.getElem?_take, List.append_assoc, splice_get _ _ _ (by simp; omega), splice_get _ _ _ (by omega)]
      by_cases hj : j < n * size
      · have hx : xs[j]? = cur.toList[j]? := by rw [← htake, List.getElem?_take, if_pos hj]
        rw [if_pos hj, hx]
      · have hx : xs[j]? = none := List.getElem?_eq_none (by omega)
        rw [if_neg hj, hx, if_neg (by omega), if_neg (by omega)]
end

/-! ### The invariant across writes -/
section
variable {Fr : Fd} {nt : Nat} {S : St} {e : Env} {a : Act} {w : World}
theorem Inv.congr (h : Inv Fr nt S e a w) {h' : AL Obj} (hh : ∀ n, h'.get n = e.h.get n) : Inv Fr nt S ⟨e.t, h'⟩ a w :=
  { h with objs := fun n o hn => h.objs n o (by rw [← hh]; exact hn), news := fun n hn => h.news n (by rw [← hh]; exact hn),
           wr := fun n o v b hn => h.wr n o v b (by rw [← hh]; exact hn), dis := fun n m o p v u b hne hn hm => h.dis n m o p v u b hne (by rw [← hh]; exact hn) (by rw [← hh]; exact hm) }
/-- An object's own block is written: the world elsewhere is as it was. -/
theorem Inv.rewrite (h : Inv Fr nt S e a w) {n : Nat} {o o' : Obj} {v : Value} {b : Nat} (hn : e.h.get n = some o) (hm : o.mut = true) (hv : S.val n = some v) (hbv : blk v = some b) {w' : World}
    (hb : ∀ k, k ≠ b → w'.heap[k]? = w.heap[k]?) (hs : w'.heap.size = w.heap.size) (ho : w'.os = w.os) (ht : w'.tape = w.tape) (hout : w'.output = w.output)
    (hr : RepO w' S n o') : Inv Fr nt S ⟨e.t, e.h.set n o'⟩ a w' := by
  have hw := h.wr n o v b hn hm hv hbv
  have hd : ∀ m p u, m ≠ n → e.h.get m = some p → p.mut = true → S.val m = some u → blk u ≠ some b := fun m p u hmn hp hpm hu hc => h.dis m n p o u v b hmn hp hn hpm hm hu hv hc hbv
  have h1 := h.kill hn
  have h2 := h1.world (w' := w') (fun k => k = b) (fun k hk => by
    subst hk
    refine ⟨hw.1, hw.2, fun m p u hp hpm hu => ?_⟩
    rw [AL.get_set] at hp
    split at hp
    · cases hp; cases hpm
    · rename_i hmn; exact hd m p u hmn hp hpm hu) (fun k _ hk => hb k hk) (by omega) ho ht hout
  have h3 := h2.set (n := n) (o := o') (v := v) (.inr hv) (by rw [St.bind_same hv]; exact hr) (fun k _ hk => by
    rw [hbv] at hk; cases hk
    refine ⟨hw.1, hw.2, fun m p u hmn hp hpm hu => ?_⟩
    rw [AL.get_set, if_neg hmn] at hp
    exact hd m p u hmn hp hpm hu)
  rw [St.bind_same hv] at h3
  refine h3.congr fun m => ?_
  simp only [AL.get_set]
  split <;> rfl

/-- A new object in a new block. -/
theorem Inv.new (h : Inv Fr nt S e a w) {n : Nat} (hn : e.h.get n = none) {o : Obj} {v : Value} {obj : Go.Obj} (hb : blk v = some w.heap.size) (ho : RepO (w.alloc obj) (S.bind n v) n o) :
    Inv Fr nt (S.bind n v) ⟨e.t, e.h.set n o⟩ a (w.alloc obj) := by
  refine (h.alloc obj).set (.inl (h.news n hn)) ho fun b _ hbv => ?_
  rw [hb] at hbv; cases hbv
  refine ⟨fun hi => Nat.lt_irrefl _ (h.imm _ hi).1, .inl h.grow, fun m p u _ hp hm hu hc => ?_⟩
  have hr := h.objs m p hp
  cases p with
  | lst t k xs =>
    obtain ⟨v', flat, h1, h2, _⟩ := hr
    rw [hu] at h1; cases h1
    rcases h2.2 with ⟨rfl, _⟩ | ⟨g, cap, cur, rfl, _, hg, _⟩
    · simp [blk] at hc
    · simp only [blk, Option.some.injEq] at hc
      have := (Array.getElem?_eq_some_iff.1 hg).1; omega
  | box t cs =>
    obtain ⟨b', vs, h1, h2, _⟩ := hr
    rw [hu] at h1; cases h1
    simp only [blk, Option.some.injEq] at hc
    have := (Array.getElem?_eq_some_iff.1 h2).1; omega
  | _ => cases hm
end

/-! ### What an operation has to do -/
def Did (P : Program) (Fr : Fd) (nt : Nat) (o : Oper) (e : Env) (a : Act) (w : World) (r : Res) : Prop :=
  ∀ (K : Act → World → Prop) (Q : Exit → Act → World → Prop), (∀ u w' S', (∀ x, r.v = some x → RepA w' S' x u) → Inv Fr nt S' ⟨e.t, setAll r.news (setAll r.ups e.h)⟩ a w' → K (a.put o.dst u) w') → o.wp P a w K Q

section
variable {P : Program} {Fr : Fd} {nt : Nat} {S : St} {o : Oper} {e : Env} {a : Act} {w : World} {r : Res}
theorem did_value {v : Value} {w' : World} {S' : St} (hr : (execOp a.eval o).run P w = .ok (.value v) w') (hv : ∀ x, r.v = some x → RepA w' S' x v)
    (hI : Inv Fr nt S' ⟨e.t, setAll r.news (setAll r.ups e.h)⟩ a w') : Did P Fr nt o e a w r := fun K Q hK => by
  unfold Oper.wp; rw [hr]; exact hK v w' S' hv hI
theorem did_skip {w' : World} {S' : St} (hr : (execOp a.eval o).run P w = .ok .skip w') (hv : r.v = none)
    (hI : Inv Fr nt S' ⟨e.t, setAll r.news (setAll r.ups e.h)⟩ a w') : Did P Fr nt o e a w r := fun K Q hK => by
  unfold Oper.wp; rw [hr]; exact hK undef w' S' (fun x hx => by rw [hv] at hx; cases hx) hI
/-- It only answers. -/
theorem did_pure (hI : Inv Fr nt S e a w) {v : Value} {x : AVal} (hr : (execOp a.eval o).run P w = .ok (.value v) w) (hx : RepA w S x v) : Did P Fr nt o e a w ⟨some x, [], []⟩ :=
  did_value hr (fun y hy => by cases hy; exact hx) hI
end

/-! ### Freezing -/
section
variable {Fr : Fd} {nt : Nat} {S : St} {e : Env} {a : Act} {w : World}
theorem Kind.sz_pos : ∀ (k : Kind), 0 < k.sz
  | .pair a b => by have := Kind.sz_pos a; simp only [Kind.sz]; omega
  | .int _ | .bool | .str | .flt | .sl _ => by simp [Kind.sz]
/-- Some lists of e0 are frozen in h. -/
def Fz (h0 h : AL Obj) : Prop := ∀ n, h.get n = h0.get n ∨ ∃ t k xs, h0.get n = some (.lst t k xs) ∧ h.get n = some (.frz k xs)
theorem Inv.fz1 {h0 : AL Obj} (hI : Inv Fr nt S e a w) (hf : Fz h0 e.h) {n : Nat} {t : TypeId} {k : Kind} {xs : List k.den} (hn : h0.get n = some (.lst t k xs)) :
    ∃ S', S.le S' ∧ Inv Fr nt S' ⟨e.t, e.h.set n (.frz k xs)⟩ a w ∧ Fz h0 (e.h.set n (.frz k xs)) := by
  have hz : Fz h0 (e.h.set n (.frz k xs)) := fun m => by
    rw [AL.get_set]
    split
    · rename_i hm; subst hm; exact .inr ⟨t, k, xs, hn, rfl⟩
    · exact hf m
  rcases hf n with h1 | ⟨t', k', xs', h1, h2⟩
  · rw [hn] at h1
    obtain ⟨v, _, h3⟩ := hI.freeze h1 k.sz_pos
    exact ⟨_, St.le_froze, h3, hz⟩
  · rw [hn] at h1; cases h1
    exact ⟨S, St.le.refl S, hI.congr (fun m => by rw [AL.get_set]; split; rename_i hm; subst hm; exact h2.symm; rfl), hz⟩

theorem valL_rep {h0 : AL Obj} : ∀ {cs ds : List Cell} {vs : List Value} {ups : List (Nat × Obj)} {F : List Nat} {S : St} {h : AL Obj}, Inv Fr nt S ⟨e.t, h⟩ a w → Fz h0 h → RepL w S cs vs → (valL cs).run h0.get = some ((ds, ups), F) →
    ∃ S', S.le S' ∧ Inv Fr nt S' ⟨e.t, setAll ups h⟩ a w ∧ Fz h0 (setAll ups h) ∧ RepL w S' ds vs
  | [], ds, vs, ups, F, S, h, hI, hf, hr, hx => by
    simp only [valL, RM.run, Option.some.injEq, Prod.mk.injEq] at hx
    obtain ⟨⟨rfl, rfl⟩, _⟩ := hx
    exact ⟨S, St.le.refl S, hI, hf, hr⟩
  | c :: cs, ds, v :: vs, ups, F, S, h, hI, hf, hr, hx => by
    simp only [valL] at hx
    obtain ⟨⟨c', u1⟩, F1, F2, h1, h2, _⟩ := RM.run_bind hx
    obtain ⟨⟨ds', u2⟩, F3, F4, h3, h4, _⟩ := RM.run_bind h2
    simp only [RM.run, Option.some.injEq, Prod.mk.injEq] at h4
    obtain ⟨⟨rfl, rfl⟩, _⟩ := h4
    have hset : ∀ (u1 u2 : List (Nat × Obj)) (h : AL Obj), setAll (u1 ++ u2) h = setAll u2 (setAll u1 h) := fun u1 => by
      induction u1 with
      | nil => intro u2 h; rfl
      | cons p u1 ih => intro u2 h; obtain ⟨n, o⟩ := p; simp [setAll, ih]
    have hone : ∃ S', S.le S' ∧ Inv Fr nt S' ⟨e.t, setAll u1 h⟩ a w ∧ Fz h0 (setAll u1 h) ∧ RepC w S' c' v := by
      have same : (c', u1) = (c, []) → ∃ S', S.le S' ∧ Inv Fr nt S' ⟨e.t, setAll u1 h⟩ a w ∧ Fz h0 (setAll u1 h) ∧ RepC w S' c' v := fun hc => by
        cases hc; exact ⟨S, St.le.refl S, hI, hf, hr.1⟩
      cases c with
      | ref n =>
        simp only [valC] at h1
        obtain ⟨ob, F', hn, h1, _⟩ := RM.run_look h1
        cases ob with
        | lst t k xs =>
          simp only [RM.run, Option.some.injEq, Prod.mk.injEq] at h1
          obtain ⟨⟨rfl, rfl⟩, _⟩ := h1
          obtain ⟨S', hle, hI', hf'⟩ := hI.fz1 hf hn
          refine ⟨S', hle, hI', hf', ?_⟩
          obtain ⟨v', hv', hs⟩ := hI'.objs n (.frz k xs) (by simp [AL.get_set])
          have : S'.val n = some v := hle.val _ _ hr.1.1
          rw [hv'] at this; cases this
          exact hs
        | frz k xs =>
          simp only [RM.run, Option.some.injEq, Prod.mk.injEq] at h1
          obtain ⟨⟨rfl, rfl⟩, _⟩ := h1
          refine ⟨S, St.le.refl S, hI, hf, ?_⟩
          rcases hf n with hq | ⟨t, k', xs', hq, _⟩
          · obtain ⟨v', hv', hs⟩ := hI.objs n (.frz k xs) (hq.trans hn)
            rw [hr.1.1] at hv'; cases hv'
            exact hs
          · rw [hn] at hq; cases hq
        | _ => simp [RM.run] at h1
      | _ => simp only [valC, RM.run, Option.some.injEq, Prod.mk.injEq] at h1; exact same (by rw [h1.1.1, h1.1.2])
    obtain ⟨S1, l1, I1, f1, r1⟩ := hone
    obtain ⟨S2, l2, I2, f2, r2⟩ := valL_rep I1 f1 (hr.2.keep l1 (fun _ _ => rfl)) h3
    refine ⟨S2, l1.trans l2, by rw [hset]; exact I2, by rw [hset]; exact f2, r1.keep l2 (fun _ _ => rfl), r2⟩
theorem Fz.refl (h : AL Obj) : Fz h h := fun _ => .inl rfl
theorem setAll_append (u1 u2 : List (Nat × Obj)) (h : AL Obj) : setAll (u1 ++ u2) h = setAll u2 (setAll u1 h) := by
  induction u1 generalizing h with
  | nil => rfl
  | cons p u1 ih => obtain ⟨n, o⟩ := p; simp [setAll, ih]
end
end Go.Eng
