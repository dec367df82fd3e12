/-
  The engine, seventeenth part: what does not touch, may change places.
-/
import Derived.Test.YtmcmkdiefpepnaaDoorEngP
import Derived.Orders
set_option linter.unusedSimpArgs false
set_option linter.unusedVariables false
namespace Go.Eng

/-! ### What an operation sees -/
theorem argsA_congr {tm tm' : Nat → Option AVal} : ∀ {xs : List Operand}, (∀ x ∈ xs, evalA tm x = evalA tm' x) → argsA tm xs = argsA tm' xs
  | [], _ => rfl
  | x :: xs, h => by simp only [argsA]; rw [h x (by simp), argsA_congr fun y hy => h y (by simp [hy])]
theorem fillA_congr {fs : List (TypeId × Nat × Nat)} {tm tm' : Nat → Option AVal} : ∀ {ps : List (Nat × Operand)} {cs : List Cell}, (∀ x ∈ ps.map (·.2), evalA tm x = evalA tm' x) → fillA fs tm ps cs = fillA fs tm' ps cs
  | [], _, _ => rfl
  | (i, x) :: ps, cs, h => by
    simp only [fillA]
    rw [h x (by simp)]
    have ih := fun cs => fillA_congr (fs := fs) (tm := tm) (tm' := tm') (ps := ps) (cs := cs) fun y hy => h y (by simp only [List.map_cons, List.mem_cons]; exact .inr hy)
    simp only [ih]
theorem effA_congr {C : Ctx} {tm tm' : Nat → Option AVal} {dst : Option Nat} {op : Op} (h : ∀ x ∈ op.operands.toList, evalA tm x = evalA tm' x) : effA C tm dst op = effA C tm' dst op := by
  cases op with
  | move x | assign x | box _ x | load _ x | nilCheck x | unOp _ _ x | convert _ _ x | fieldAddr _ x _ | field _ x _ | extract x _ =>
    have h1 := h x (by simp [Op.operands])
    simp only [effA, h1]
  | store _ x y | binOp _ _ x y _ | indexAddr _ x y | index _ x y | makeSlice _ x y =>
    have h1 := h x (by simp [Op.operands])
    have h2 := h y (by simp [Op.operands])
    simp only [effA, h1, h2]
  | pick x y z =>
    have h1 := h x (by simp [Op.operands])
    have h2 := h y (by simp [Op.operands])
    have h3 := h z (by simp [Op.operands])
    simp only [effA, h1, h2, h3]
  | build t ps =>
    have h1 := fun fs cs => fillA_congr (fs := fs) (tm := tm) (tm' := tm') (ps := ps.toList) (cs := cs) fun x hx => h x (by simpa [Op.operands] using hx)
    simp only [effA, h1]
  | buildSlice t n ps =>
    have h1 := fun fs cs => fillA_congr (fs := fs) (tm := tm) (tm' := tm') (ps := ps.toList) (cs := cs) fun x hx => h x (by simpa [Op.operands] using hx)
    simp only [effA, h1]
  | slice t x lo hi mx =>
    have h1 := h x (by simp [Op.operands])
    cases lo with
    | none =>
      cases hi with
      | none => simp only [effA, h1]
      | some u =>
        have h2 := h u (by simp [Op.operands])
        simp only [effA, h1, h2]
    | some l =>
      have h3 := h l (by simp [Op.operands])
      cases hi with
      | none => simp only [effA, h1, h3]
      | some u =>
        have h2 := h u (by simp [Op.operands])
        simp only [effA, h1, h2, h3]
  | makeFunc fn first caps =>
    have h1 := argsA_congr (tm := tm) (tm' := tm') (xs := caps.toList) fun x hx => h x (by simp only [Op.operands, Array.toList_append, List.mem_append]; exact .inr hx)
    cases fn with
    | func f => simp only [effA, h1]
    | _ => rfl
  | call c =>
    have h1 := argsA_congr (tm := tm) (tm' := tm') (xs := c.args.toList) fun x hx => h x (by simp only [Op.operands, Call.operands, Array.toList_append, List.mem_append]; exact .inr hx)
    simp only [effA, h1]
    cases hc : c.callee with
    | value f =>
      have h2 := h f (by simp [Op.operands, Call.operands, hc])
      simp only [h2]
    | builtin b => rfl
    | invoke r m => rfl
  | _ => rfl

theorem RM.run_local {α : Type} {h h' : Nat → Option Obj} : ∀ {m : RM α} {a : α} {F : List Nat}, m.run h = some (a, F) → (∀ n ∈ F, h' n = h n) → m.run h' = some (a, F)
  | .ret a, b, F, H, _ => H
  | .fail, b, F, H, _ => by cases H
  | .look n k, b, F, H, hF => by
    obtain ⟨o, F', h1, h2, rfl⟩ := RM.run_look H
    have := RM.run_local h2 fun m hm => hF m (by simp [hm])
    simp only [RM.run, hF n (by simp), h1, this]
  | .ite c t e, b, F, H, hF => by
    cases c with
    | true => exact RM.run_local (m := t) H hF
    | false => exact RM.run_local (m := e) H hF
  | .bnd o k, b, F, H, hF => by
    cases o with
    | none => cases H
    | some y => exact RM.run_local (m := k y) H hF

theorem newOk_local : ∀ {ps : List (Nat × Obj)} {h h' : AL Obj}, (∀ n ∈ ps.map (·.1), h'.get n = h.get n) → writesOk.newOk h ps = writesOk.newOk h' ps
  | [], _, _, _ => rfl
  | p :: ps, h, h', hh => by
    simp only [writesOk.newOk]
    have h1 : h.has p.1 = h'.has p.1 := by
      have := hh p.1 (by simp)
      cases hb : h.has p.1 with
      | false => rw [AL.has_iff] at hb; exact ((AL.has_iff _ _).2 (by rw [this, hb])).symm
      | true =>
        cases hb' : h'.has p.1 with
        | true => rfl
        | false =>
          rw [AL.has_iff, this, ← AL.has_iff, hb] at hb'
          cases hb'
    rw [h1, newOk_local (h := h.set p.1 p.2) (h' := h'.set p.1 p.2)]
    intro n hn
    rw [AL.get_set, AL.get_set]
    split
    · rfl
    · exact hh n (by simp only [List.map_cons, List.mem_cons]; exact .inr hn)

/-- Where two tell the same. -/
def Like (T H : Nat → Prop) (e f : Env) : Prop := (∀ n, T n → f.t.get n = e.t.get n) ∧ ∀ n, H n → f.h.get n = e.h.get n
/-- 'f′' is to 'f' what 'e′' is to 'e': there alone as at 'T' and 'H' it is turned. -/
structure Turn (dst : Option Nat) (W : List Nat) (e' f f' : Env) : Prop where
  t1 : ∀ n, dst = some n → f'.t.get n = e'.t.get n
  t2 : ∀ n, dst ≠ some n → f'.t.get n = f.t.get n
  h1 : ∀ n, n ∈ W → f'.h.get n = e'.h.get n
  h2 : ∀ n, n ∉ W → f'.h.get n = f.h.get n

theorem putV_get (t : AL AVal) (dst : Option Nat) (v : Option AVal) (n : Nat) : (putV t dst v).get n = if dst = some n then v else t.get n := by
  cases dst with
  | none => simp [putV]
  | some d =>
    cases v with
    | none =>
      simp only [putV, AL.get_del, Option.some.injEq]
      by_cases h : n = d
      · simp [h]
      · rw [if_neg h, if_neg (fun hc => h hc.symm)]
    | some v =>
      simp only [putV, AL.get_set, Option.some.injEq]
      by_cases h : n = d
      · simp [h]
      · rw [if_neg h, if_neg (fun hc => h hc.symm)]

theorem setAll_turn {r : Res} {h h' : AL Obj} {n : Nat} :
    (n ∈ (r.ups ++ r.news).map (·.1) → (setAll r.news (setAll r.ups h)).get n = (setAll r.news (setAll r.ups h')).get n) ∧
    (n ∉ (r.ups ++ r.news).map (·.1) → (setAll r.news (setAll r.ups h)).get n = h.get n) := by
  rw [← setAll_append, ← setAll_append]
  constructor
  · intro hn
    obtain ⟨p, hp, rfl⟩ := List.mem_map.1 hn
    exact setAll_in ⟨p, hp, rfl⟩
  · intro hn
    exact setAll_notin fun p hp hc => hn (List.mem_map.2 ⟨p, hp, hc⟩)

/-- The slots that an operation's operands name. -/
theorem step_frame {C : Ctx} {dst : Option Nat} {op : Op} {e e' f : Env} {l : Log} (h : step C dst op e = some (e', l))
    (ht : ∀ t, Operand.tmp t ∈ op.operands.toList → f.t.get t = e.t.get t) (hh : ∀ n, n ∈ l.F ∨ n ∈ l.W → f.h.get n = e.h.get n) :
    ∃ f', step C dst op f = some (f', l) ∧ Turn dst l.W e' f f' := by
  obtain ⟨r, F, h1, h2, h3, rfl, rfl⟩ := step_inv h
  have hE : effA C f.t.get dst op = effA C e.t.get dst op := effA_congr fun x hx => by
    cases x with
    | tmp t => exact ht t hx
    | const v => rfl
    | global g => rfl
    | func g => rfl
  have hR : (effA C f.t.get dst op).run f.h.get = some (r, F) := by
    rw [hE]
    exact RM.run_local h1 fun n hn => hh n (.inl (by simpa using hn))
  have hW : writesOk f.h F.reverse r = true := by
    unfold writesOk at h2 ⊢
    rw [← newOk_local (h := e.h) (h' := f.h)]
    · exact h2
    · intro n hn
      refine hh n (.inr ?_)
      simp only [List.map_append, List.mem_append]
      exact .inr hn
  refine ⟨⟨putV f.t dst r.v, setAll r.news (setAll r.ups f.h)⟩, ?_, ?_⟩
  · unfold step
    rw [hR]
    simp only [hW, h3, Bool.and_self, cond_true]
  · exact ⟨fun n hn => by simp [putV_get, hn], fun n hn => by simp [putV_get, hn], fun n hn => (setAll_turn (h' := e.h)).1 hn, fun n hn => (setAll_turn (h' := e.h)).2 hn⟩

theorem stepG_frame {C : Ctx} {ops : Array Oper} {o : Oper} {e e' f : Env} {l : Log} (h : stepG C ops o e = some (e', l))
    (ht : ∀ t, t ∈ o.looksAt ops → f.t.get t = e.t.get t) (hh : ∀ n, n ∈ l.F ∨ n ∈ l.W → f.h.get n = e.h.get n) :
    ∃ f', stepG C ops o f = some (f', l) ∧ Turn o.dst l.W e' f f' := by
  have ht1 : ∀ t, Operand.tmp t ∈ o.op.operands.toList → f.t.get t = e.t.get t := fun t hx => ht t (by
    unfold Oper.looksAt
    rw [List.mem_append]
    exact .inl (List.mem_filterMap.2 ⟨_, hx, rfl⟩))
  unfold stepG at h ⊢
  cases hg : o.guard with
  | none =>
    rw [hg] at h
    exact step_frame h ht1 hh
  | some gw =>
    obtain ⟨g, want⟩ := gw
    rw [hg] at h
    simp only at h ⊢
    cases hgt : guardTmp ops g with
    | none => rw [hgt] at h; cases h
    | some d =>
      rw [hgt] at h
      simp only at h ⊢
      have hd : f.t.get d = e.t.get d := ht d (by
        unfold Oper.looksAt
        rw [hg, List.mem_append]
        refine .inr ?_
        unfold guardTmp at hgt
        cases ho : ops[g]? with
        | none => rw [ho] at hgt; cases hgt
        | some p => rw [ho] at hgt; simp only at hgt; simp [hgt, ho])
      rw [hd]
      cases hv : e.t.get d with
      | none => rw [hv] at h; cases h
      | some v =>
        rw [hv] at h
        match v, h with
        | .c (.bool b), h =>
          simp only at h ⊢
          cases hb : (b == want) with
          | true => rw [hb] at h; exact step_frame h ht1 hh
          | false =>
            rw [hb] at h
            cases hdo : dstOk C.nt o.dst with
            | false => rw [hdo] at h; cases h
            | true =>
            rw [hdo] at h
            simp only [cond_false, cond_true, Option.some.injEq, Prod.mk.injEq] at h
            obtain ⟨rfl, rfl⟩ := h
            exact ⟨_, rfl, ⟨fun n hn => by simp [putV_get, hn], fun n hn => by simp [putV_get, hn], fun n hn => (by cases hn), fun n hn => rfl⟩⟩
        | .tup [], h =>
          simp only at h ⊢
          cases hdo : dstOk C.nt o.dst with
          | false => rw [hdo] at h; cases h
          | true =>
            rw [hdo] at h
            simp only [cond_true, Option.some.injEq, Prod.mk.injEq] at h
            obtain ⟨rfl, rfl⟩ := h
            exact ⟨_, rfl, ⟨fun n hn => by simp [putV_get, hn], fun n hn => by simp [putV_get, hn], fun n hn => (by cases hn), fun n hn => rfl⟩⟩
        | .c (.int ..), hx | .c (.str _), hx | .c (.flt _), hx | .c (.sl ..), hx | .c .nil, hx | .c (.ref _), hx | .c (.ptr ..), hx | .c (.eptr ..), hx | .c (.vptr ..), hx | .c (.gptr ..), hx
        | .c (.fn ..), hx | .c (.opq _), hx | .agg _, hx | .tup (_ :: _), hx => cases hx

theorem disj_iff {a b : List Nat} : disj a b = true ↔ ∀ x ∈ a, x ∉ b := by
  unfold disj
  rw [List.all_eq_true]
  constructor
  · intro h x hx hb
    have := h x hx
    rw [mem_iff.2 hb] at this
    cases this
  · intro h x hx
    cases hm : mem x b with
    | false => rfl
    | true => exact absurd (mem_iff.1 hm) (h x hx)
theorem apartL_iff {x y : Log} (h : apartL x y = true) : (∀ n ∈ x.F, n ∉ y.W) ∧ (∀ n ∈ y.F, n ∉ x.W) ∧ (∀ n ∈ x.W, n ∉ y.W) := by
  unfold apartL at h
  simp only [Bool.and_eq_true] at h
  exact ⟨disj_iff.1 h.1.1, disj_iff.1 h.1.2, disj_iff.1 h.2⟩

/-- The same to whoever asks. -/
def Eqv (e f : Env) : Prop := (∀ n, f.t.get n = e.t.get n) ∧ ∀ n, f.h.get n = e.h.get n
theorem Eqv.rfl {e : Env} : Eqv e e := ⟨fun _ => Eq.refl _, fun _ => Eq.refl _⟩
theorem Eqv.symm {e f : Env} (h : Eqv e f) : Eqv f e := ⟨fun n => (h.1 n).symm, fun n => (h.2 n).symm⟩
theorem Eqv.trans {e f g : Env} (h : Eqv e f) (k : Eqv f g) : Eqv e g := ⟨fun n => (k.1 n).trans (h.1 n), fun n => (k.2 n).trans (h.2 n)⟩

theorem stepG_eqv {C : Ctx} {ops : Array Oper} {o : Oper} {e e' f : Env} {l : Log} (h : stepG C ops o e = some (e', l)) (hf : Eqv e f) : ∃ f', stepG C ops o f = some (f', l) ∧ Eqv e' f' := by
  obtain ⟨f', h1, h2⟩ := stepG_frame h (fun t _ => hf.1 t) (fun n _ => hf.2 n)
  obtain ⟨e2, h3, h4⟩ := stepG_frame h (fun t _ => Eq.refl _) (fun n _ => Eq.refl _)
  rw [h] at h3
  simp only [Option.some.injEq, Prod.mk.injEq, and_true] at h3
  subst h3
  refine ⟨f', h1, ⟨fun n => ?_, fun n => ?_⟩⟩
  · by_cases hd : o.dst = some n
    · exact h2.t1 n hd
    · rw [h2.t2 n hd, h4.t2 n hd, hf.1 n]
  · by_cases hd : n ∈ l.W
    · exact h2.h1 n hd
    · rw [h2.h2 n hd, h4.h2 n hd, hf.2 n]

/-- Two that do not touch change places. -/
theorem stepG_swap {C : Ctx} {ops : Array Oper} {x y : Oper} {e e1 e2 : Env} {lx ly : Log} (hx : stepG C ops x e = some (e1, lx)) (hy : stepG C ops y e1 = some (e2, ly))
    (ha : x.apart ops y = true) (hl : apartL lx ly = true) : ∃ f1 f2, stepG C ops y e = some (f1, ly) ∧ stepG C ops x f1 = some (f2, lx) ∧ Eqv e2 f2 := by
  obtain ⟨a1, a2, a3⟩ := Oper.apart_spec ha
  obtain ⟨b1, b2, b3⟩ := apartL_iff hl
  have self : ∀ {o : Oper} {e e' : Env} {l : Log}, stepG C ops o e = some (e', l) → Turn o.dst l.W e' e e' := fun {o e e' l} h => by
    obtain ⟨f', h1, h2⟩ := stepG_frame h (f := e) (fun _ _ => rfl) (fun _ _ => rfl)
    rw [h] at h1
    simp only [Option.some.injEq, Prod.mk.injEq, and_true] at h1
    subst h1
    exact h2
  have tx := self hx
  have ty := self hy
  obtain ⟨f1, h1, t1⟩ := stepG_frame hy (f := e) (fun t ht => (tx.t2 t fun hc => a1 t hc ht).symm) (fun n hn => (tx.h2 n fun hc => by
    rcases hn with hn | hn
    · exact b2 n hn hc
    · exact b3 n hc hn).symm)
  obtain ⟨f2, h2, t2⟩ := stepG_frame hx (f := f1) (fun t ht => t1.t2 t fun hc => a3 t hc ht) (fun n hn => t1.h2 n fun hc => by
    rcases hn with hn | hn
    · exact b1 n hn hc
    · exact b3 n hn hc)
  refine ⟨f1, f2, h1, h2, fun n => ?_, fun n => ?_⟩
  · by_cases hd : x.dst = some n
    · rw [t2.t1 n hd, ty.t2 n (a2 n hd)]
    · rw [t2.t2 n hd]
      by_cases hd' : y.dst = some n
      · rw [t1.t1 n hd']
      · rw [t1.t2 n hd', ty.t2 n hd', tx.t2 n hd]
  · by_cases hd : n ∈ lx.W
    · rw [t2.h1 n hd, ty.h2 n (b3 n hd)]
    · rw [t2.h2 n hd]
      by_cases hd' : n ∈ ly.W
      · rw [t1.h1 n hd']
      · rw [t1.h2 n hd', ty.h2 n hd', tx.h2 n hd]
end Go.Eng
