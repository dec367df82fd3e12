/-
  The engine, twelfth part: a state told anew by a shape (at a cut, at a call, at a return).
-/
import Derived.Test.YtmcmkdiefpepnaaDoorEngK
set_option linter.unusedVariables false
set_option linter.unusedSimpArgs false
namespace Go.Eng
section
variable {Fr : Fd} {nt : Nat} {S : St} {e : Env} {a : Act} {w : World}

theorem fitH_ok (hI : Inv Fr nt S e a w) : ∀ {l : List SO} {j : Nat} {x : denO l} {s s' : FS} {F : List Nat}, s.Ok e.h.get S → (fitH j l s).run e.h.get = some ((x, s'), F) →
    s.le s' ∧ s'.Ok e.h.get S ∧ ∀ i o, AL.get (encH j l x) i = some o → j ≤ i ∧ i < j + l.length ∧ (∀ S', s'.Sees S S' → RepO w S' i o) ∧ (o.mut = true → ∀ n, s'.nameOf i = some n → ∃ ob, e.h.get n = some ob ∧ ob.mut = true) ∧ (i ∈ s'.z ∨ ∃ n, s'.nameOf i = some n)
  | [], j, x, s, s', F, hs, hx => by
    obtain ⟨h1, _⟩ := run_ret hx; cases h1
    exact ⟨FS.le.refl _, hs, fun i o hi => by simp [encH, AL.get] at hi⟩
  | so :: l, j, x, s, s', F, hs, hx => by
    obtain ⟨⟨y, s1⟩, F1, F2, h1, h2, _⟩ := RM.run_bind hx
    obtain ⟨⟨z, s2⟩, F3, F4, h3, h4, _⟩ := RM.run_bind h2
    obtain ⟨h5, _⟩ := run_ret h4; cases h5
    obtain ⟨l1, o1, r1, m1, t1⟩ := fitO_ok hI hs h1
    obtain ⟨l2, o2, r2⟩ := fitH_ok hI o1 h3
    refine ⟨l1.trans l2, o2, fun i o hi => ?_⟩
    simp only [encH, AL.get] at hi
    cases hb : Nat.beq i j with
    | true =>
      rw [hb] at hi
      simp only [cond_true, Option.some.injEq] at hi
      have := beq_iff.1 hb
      subst this hi
      refine ⟨Nat.le_refl _, by simp, fun S' h' => r1 S' (h'.of_le l2), fun hm n hn => ?_, t1.elim (fun h => .inl (l2.z i h)) (fun ⟨n, hn⟩ => .inr ⟨n, l2.m i n hn⟩)⟩
      rcases t1 with h | ⟨n', hn'⟩
      · have := o2.z i (l2.z i h); rw [this] at hn; cases hn
      · have := l2.m i n' hn'; rw [this] at hn; cases hn; exact m1 hm _ hn'
    | false =>
      rw [hb] at hi
      obtain ⟨g1, g2, g3⟩ := r2 i o hi
      exact ⟨by omega, by simp; omega, g3⟩

theorem encH_none : ∀ {l : List SO} {j : Nat} {x : denO l} {i : Nat}, AL.get (encH j l x) i = none → ¬ (j ≤ i ∧ i < j + l.length)
  | [], j, x, i, _ => by simp
  | so :: l, j, x, i, h => by
    simp only [encH, AL.get] at h
    cases hb : Nat.beq i j with
    | true => rw [hb] at h; cases h
    | false =>
      rw [hb] at h
      have h1 := encH_none h
      have : i ≠ j := fun hc => by rw [beq_iff.2 hc] at hb; cases hb
      simp; omega
theorem encH_some {l : List SO} {j : Nat} {x : denO l} {i : Nat} (h1 : j ≤ i) (h2 : i < j + l.length) : ∃ o, AL.get (encH j l x) i = some o := by
  cases h : AL.get (encH j l x) i with
  | none => exact absurd ⟨h1, h2⟩ (encH_none h)
  | some o => exact ⟨o, rfl⟩
theorem AL.get_mem {β : Type} : ∀ {l : AL β} {n : Nat} {b : β}, l.get n = some b → ∃ i : Nat, l[i]? = some (n, b)
  | (m, c) :: l, n, b, h => by
    simp only [AL.get] at h
    cases hb : Nat.beq n m with
    | true =>
      rw [hb] at h
      simp only [cond_true, Option.some.injEq] at h
      exact ⟨0, by simp [beq_iff.1 hb, h]⟩
    | false =>
      rw [hb] at h
      obtain ⟨i, hi⟩ := AL.get_mem h
      exact ⟨i + 1, by simpa using hi⟩

/-- What the numbers of a shape stand for. -/
def FS.view (s : FS) (S : St) : St :=
  ⟨fun j => match s.nameOf j with
    | some n => S.val n
    | none => bif mem j s.z then some (.slice none 0 0) else none,
   fun b => S.imm b ∨ ∃ n ob v, (n, ob) ∈ s.l ∧ S.val n = some v ∧ blk v = some b⟩
theorem FS.Ok.sees {h : Nat → Option Obj} {s : FS} (hs : s.Ok h S) : s.Sees S (s.view S) :=
  ⟨fun j n hj => by simp [FS.view, hj], fun j hj => by simp [FS.view, hs.z j hj, mem_iff.2 hj], fun n ob v b h1 h2 h3 => .inr ⟨n, ob, v, h1, h2, h3⟩, fun b hb => .inl hb⟩
theorem within_m {s : FS} {n : Nat} (h : s.within n = true) : (∀ j m, s.nameOf j = some m → j < n) ∧ ∀ j, j ∈ s.z → j < n := by
  unfold FS.within at h
  simp only [Bool.and_eq_true, List.all_eq_true] at h
  refine ⟨fun j m hj => ?_, fun j hj => Nat.le_of_ble_eq_true (h.2 j hj)⟩
  obtain ⟨i, hi⟩ := AL.get_mem (l := s.m) hj
  exact Nat.le_of_ble_eq_true (h.1 _ (List.mem_of_getElem? hi))

/-- Facts on what has been told anew. -/
structure Anew (w : World) (S : St) (e : Env) (S' : St) (h' : AL Obj) : Prop where
  objs : ∀ n o, h'.get n = some o → RepO w S' n o
  news : ∀ n, h'.get n = none → S'.val n = none
  old : ∀ i o v b, h'.get i = some o → o.mut = true → S'.val i = some v → blk v = some b → ∃ n ob, e.h.get n = some ob ∧ ob.mut = true ∧ S.val n = some v
  wr : ∀ i o v b, h'.get i = some o → o.mut = true → S'.val i = some v → blk v = some b → ¬ S'.imm b
  dis : ∀ n m o p v u b, n ≠ m → h'.get n = some o → h'.get m = some p → o.mut = true → p.mut = true → S'.val n = some v → S'.val m = some u → blk v = some b → blk u ≠ some b
  imm : ∀ b, S'.imm b → S.imm b ∨ ∃ n t k xs v, e.h.get n = some (.lst t k xs) ∧ S.val n = some v ∧ blk v = some b
  imm0 : ∀ b, S.imm b → S'.imm b

theorem fit_anew (hI : Inv Fr nt S e a w) {get : Nat → Option AVal} {val : Nat → Option Value} (hg : ∀ i v, get i = some v → ∃ u, val i = some u ∧ RepA w S v u) {sh : Shape} {x : sh.den} {s0 s : FS} {F : List Nat}
    (hs0 : s0.Ok e.h.get S) (hx : (fit sh get s0).run e.h.get = some ((x, s), F)) :
    s0.le s ∧ s.Ok e.h.get S ∧ (∀ (i p : Nat) (v : AVal), (encT sh.t x.1)[i]? = some (p, v) → ∃ u, val p = some u ∧ RepA w (s.view S) v u) ∧ Anew w S e (s.view S) (encH 0 sh.h x.2) ∧
      (∀ i o n, AL.get (encH 0 sh.h x.2) i = some o → o.mut = true → s.nameOf i = some n → ∃ ob, e.h.get n = some ob ∧ ob.mut = true) ∧ (∀ i, i < sh.h.length → i ∈ s.z ∨ ∃ n, s.nameOf i = some n) ∧ (∀ j m, s.nameOf j = some m → j < sh.h.length) := by
  obtain ⟨⟨y, s1⟩, F1, F2, h1, h2, _⟩ := RM.run_bind hx
  obtain ⟨⟨z, s2⟩, F3, F4, h3, h4, _⟩ := RM.run_bind h2
  simp only at h4
  cases hwi : s2.within sh.h.length with
  | false => rw [hwi] at h4; exact run_fail h4
  | true =>
    rw [hwi] at h4
    obtain ⟨h5, _⟩ := run_ret h4; cases h5
    obtain ⟨l1, o1, r1⟩ := fitT_ok hI hg hs0 h1
    obtain ⟨l2, o2, r2⟩ := fitH_ok hI o1 h3
    have hsee := o2.sees
    have hwm := within_m hwi
    have old : ∀ i o v b, AL.get (encH 0 sh.h z) i = some o → o.mut = true → (s.view S).val i = some v → blk v = some b → ∃ n ob, s.nameOf i = some n ∧ e.h.get n = some ob ∧ ob.mut = true ∧ S.val n = some v := fun i o v b hi hm hv hb => by
      obtain ⟨_, _, _, hmu, ht⟩ := r2 i o hi
      rcases ht with ht | ⟨n, hn⟩
      · rw [hsee.z i ht] at hv; cases hv; cases hb
      · obtain ⟨ob, h6, h7⟩ := hmu hm n hn
        exact ⟨n, ob, hn, h6, h7, (hsee.m i n hn).symm.trans hv⟩
    refine ⟨l1.trans l2, o2, fun i p v hi => r1 _ (hsee.of_le l2) i p v hi, ⟨fun n o hn => (r2 n o hn).2.2.1 _ hsee, fun n hn => ?_, fun i o v b hi hm hv hb => ?_, fun i o v b hi hm hv hb hc => ?_, fun i j o p v u b hij hi hj hm hm' hv hu hb hc => ?_, fun b hb => ?_, hsee.imm⟩, fun i o n hi hm hn => (r2 i o hi).2.2.2.1 hm n hn, fun i hi => ?_, hwm.1⟩
    · have hlt := encH_none hn
      have h6 : s.nameOf n = none := by
        cases h7 : s.nameOf n with
        | none => rfl
        | some m => exact absurd ⟨Nat.zero_le _, by have := hwm.1 n m h7; omega⟩ hlt
      have h8 : mem n s.z = false := by
        cases h9 : mem n s.z with
        | false => rfl
        | true => exact absurd ⟨Nat.zero_le _, by have := hwm.2 n (mem_iff.1 h9); omega⟩ hlt
      simp [FS.view, h6, h8]
    · obtain ⟨n, ob, _, h6, h7, h8⟩ := old i o v b hi hm hv hb
      exact ⟨n, ob, h6, h7, h8⟩
    · obtain ⟨n, ob, h5, h6, h7, h8⟩ := old i o v b hi hm hv hb
      rcases hc with hc | ⟨n', ob', v', h9, h10, h11⟩
      · exact (hI.wr n ob v b h6 h7 h8 hb).1 hc
      · obtain ⟨t, k, xs, h12, h13⟩ := o2.lst n' ob' h9
        have hne : n' ≠ n := fun hc => by subst hc; exact o2.lent i n' ob' h5 h9
        exact hI.dis n' n _ ob v' v b hne h12 h6 rfl h7 h10 h8 h11 hb
    · obtain ⟨n, ob, h5, h6, h7, h8⟩ := old i o v b hi hm hv hb
      obtain ⟨n', ob', h5', h6', h7', h8'⟩ := old j p u b hj hm' hu hc
      have hne : n ≠ n' := fun hc => hij (o2.one i j n h5 (by rw [hc]; exact h5'))
      exact hI.dis n n' ob ob' v u b hne h6 h6' h7 h7' h8 h8' hb hc
    · rcases hb with hb | ⟨n, ob, v, h9, h10, h11⟩
      · exact .inl hb
      · obtain ⟨t, k, xs, h12, h13⟩ := o2.lst n ob h9
        exact .inr ⟨n, t, k, xs, v, h12, h10, h11⟩
    · obtain ⟨o, ho⟩ := encH_some (l := sh.h) (j := 0) (x := z) (i := i) (Nat.zero_le _) (by omega)
      exact (r2 i o ho).2.2.2.2

theorem lst_lt (hI : Inv Fr nt S e a w) {n : Nat} {t : TypeId} {k : Kind} {xs : List k.den} {v : Value} {b : Nat} (hn : e.h.get n = some (.lst t k xs)) (hv : S.val n = some v) (hb : blk v = some b) : b < w.heap.size := by
  obtain ⟨v', flat, h1, h2, _⟩ := hI.objs n _ hn
  rw [hv] at h1; cases h1
  rcases h2.2 with ⟨rfl, _⟩ | ⟨g, cap, cur, rfl, _, hg, _⟩
  · simp [blk] at hb
  · simp only [blk, Option.some.injEq] at hb; subst hb
    exact (Array.getElem?_eq_some_iff.1 hg).1

/-- The same activation, told anew. -/
theorem Anew.inv (hI : Inv Fr nt S e a w) {S' : St} {T : AL AVal} {h' : AL Obj} (hA : Anew w S e S' h') (ht : ∀ t v, T.get t = some v → ∃ u, a.tmps[t]? = some u ∧ RepA w S' v u) (hown : ∀ j, j < Fr.np → S'.val j = S.val j) : Inv Fr nt S' ⟨T, h'⟩ a w :=
  { defers := hI.defers, size := hI.size, tmps := ht, objs := hA.objs, news := hA.news,
    wr := fun i o v b hi hm hv hb => ⟨hA.wr i o v b hi hm hv hb, let ⟨n, ob, h1, h2, h3⟩ := hA.old i o v b hi hm hv hb; (hI.wr n ob v b h1 h2 h3 hb).2⟩,
    dis := hA.dis,
    imm := fun b hb => (hA.imm b hb).elim (hI.imm b) fun ⟨n, t, k, xs, v, h1, h2, h3⟩ => ⟨lst_lt hI h1 h2 h3, .inr (hI.wr n _ v b h1 rfl h2 h3).2⟩,
    imm0 := fun b hb => hA.imm0 b (hI.imm0 b hb), own := fun j hj => (hown j hj).trans (hI.own j hj), frame := hI.frame, os := hI.os, tape := hI.tape, output := hI.output, grow := hI.grow,
    glob := fun g cs hg => let ⟨h1, vs, h2, h3, h4⟩ := hI.glob g cs hg
      ⟨hA.imm0 g h1, vs, RepL.keep (S := ⟨fun _ => none, S.imm⟩) (S' := ⟨fun _ => none, S'.imm⟩) ⟨fun _ _ h => h, hA.imm0⟩ (fun _ _ => rfl) h2, h3, h4⟩ }

/-- What a callee is given. -/
def FdOf (gl : Nat → Option (List Cell)) (w : World) (S : St) (np : Nat) : Fd :=
  { gl, w0 := w, imm0 := S.imm, pw := fun b => ∃ n v, n < np ∧ S.val n = some v ∧ blk v = some b, np, val0 := fun n => (S.val n).getD undef }
def noAct : Act := ⟨#[], []⟩
theorem Anew.call (hI : Inv Fr nt S e a w) {S' : St} {h' : AL Obj} {np : Nat} (hA : Anew w S e S' h') (hnp : ∀ j, j < np → ∃ v, S'.val j = some v) (hle : ∀ j o, h'.get j = some o → j < np) : Inv (FdOf Fr.gl w S' np) 0 S' ⟨[], h'⟩ noAct w :=
  { defers := rfl, size := rfl, tmps := (fun t v ht => by cases ht), objs := hA.objs, news := hA.news,
    wr := fun i o v b hi hm hv hb => ⟨hA.wr i o v b hi hm hv hb, .inr ⟨i, v, hle i o hi, hv, hb⟩⟩,
    dis := hA.dis,
    imm := fun b hb => ⟨(hA.imm b hb).elim (fun h => (hI.imm b h).1) fun ⟨n, t, k, xs, v, h1, h2, h3⟩ => lst_lt hI h1 h2 h3, .inl hb⟩,
    imm0 := fun b hb => hb, own := fun j hj => by obtain ⟨v, hv⟩ := hnp j hj; simp [FdOf, hv], frame := fun _ _ _ => rfl, os := rfl, tape := rfl, output := rfl, grow := Nat.le_refl _,
    glob := fun g cs hg => let ⟨h1, vs, h2, h3, h4⟩ := hI.glob g cs hg
      ⟨hA.imm0 g h1, vs, RepL.keep (S := ⟨fun _ => none, S.imm⟩) (S' := ⟨fun _ => none, S'.imm⟩) ⟨fun _ _ h => h, hA.imm0⟩ (fun _ _ => rfl) h2, h3, h4⟩ }

/-- **The contract of a function**: what it answers, as the engine says it. -/
def Sound (P : Program) (gl : Nat → Option (List Cell)) (f : FuncId) (g : Sg) : Prop :=
  ∀ (w : World) (S : St) (vals : Array Value) (x : g.ins.den) (y : g.β), Inv (FdOf gl w S g.ins.h.length) 0 S ⟨[], encH 0 g.ins.h x.2⟩ noAct w → RepAs w S ((encT g.ins.t x.1).map (·.2)) vals.toList → g.fn x = some y →
    Calls P f vals w fun en w' => ∃ v S', en = .returned v ∧ (∃ p r, encT g.outs.t (g.dn y).1 = [(p, r)] ∧ RepA w' S' r v) ∧ Inv (FdOf gl w S g.ins.h.length) 0 S' ⟨[], encH 0 g.outs.h (g.dn y).2⟩ noAct w'
end
end Go.Eng
