/-
  The engine, fourteenth part: the state of a caller behind a call.
-/
import Derived.Test.YtmcmkdiefpepnaaDoorEngM
set_option linter.unusedVariables false
set_option linter.unusedSimpArgs false
namespace Go.Eng
section
variable {Fr : Fd} {nt : Nat} {S : St} {e : Env} {a : Act} {w : World}

theorem encH_mem : ∀ {l : List SO} {j : Nat} {x : denO l} {p : Nat × Obj}, p ∈ encH j l x → j ≤ p.1 ∧ p.1 < j + l.length ∧ AL.get (encH j l x) p.1 = some p.2
  | [], _, _, _, h => by cases h
  | s :: l, j, x, p, h => by
    rcases List.mem_cons.1 h with rfl | h
    · exact ⟨Nat.le_refl _, by simp, by simp [encH, AL.get, Nat.beq_refl]⟩
    · obtain ⟨h1, h2, h3⟩ := encH_mem h
      refine ⟨by omega, by simp; omega, ?_⟩
      have hb : Nat.beq p.1 j = false := by cases hh : Nat.beq p.1 j with
        | true => have := beq_iff.1 hh; omega
        | false => rfl
      simp only [encH, AL.get, hb, cond_false]; exact h3
theorem encH_length : ∀ (l : List SO) (j : Nat) (x : denO l), (encH j l x).length = l.length
  | [], _, _ => rfl
  | _ :: l, j, x => by simp [encH, encH_length l]
theorem encH_key : ∀ {l : List SO} {j i : Nat} {x : denO l} {p : Nat × Obj}, (encH j l x)[i]? = some p → p.1 = j + i
  | [], _, _, _, _, h => by simp [encH] at h
  | s :: l, j, 0, x, p, h => by simp [encH] at h; subst h; rfl
  | s :: l, j, i + 1, x, p, h => by
    have := encH_key (i := i) (j := j + 1) (by simpa [encH] using h)
    omega

/-- Objects laid one after the other, each under the name of its number. -/
theorem layAll {S2 S3 : St} {name : Nat → Nat} {H : AL Obj} {t : AL AVal} (old : Nat → Prop)
    (hval : ∀ j o v, H.get j = some o → S2.val j = some v → S3.val (name j) = some v) (hinj : ∀ i j o p, H.get i = some o → H.get j = some p → name i = name j → i = j)
    (hrep : ∀ j o, H.get j = some o → RepO w S3 (name j) (o.ren name))
    (hfree : ∀ j o v b, H.get j = some o → o.mut = true → S2.val j = some v → blk v = some b → ¬ S3.imm b ∧ (Fr.w0.heap.size ≤ b ∨ Fr.pw b) ∧ ¬ old b)
    (hdis : ∀ n m o p v u b, n ≠ m → H.get n = some o → H.get m = some p → o.mut = true → p.mut = true → S2.val n = some v → S2.val m = some u → blk v = some b → blk u ≠ some b)
    (hsome : ∀ j o, H.get j = some o → ∃ v, S2.val j = some v) :
    ∀ (l : List (Nat × Obj)) {h : AL Obj}, (∀ p ∈ l, H.get p.1 = some p.2) → Inv Fr nt S3 ⟨t, h⟩ a w →
      (∀ n o v b, h.get n = some o → o.mut = true → S3.val n = some v → blk v = some b → old b ∨ ∃ j p, H.get j = some p ∧ n = name j ∧ p.mut = true) →
      Inv Fr nt S3 ⟨t, setAll (l.map fun p => (name p.1, p.2.ren name)) h⟩ a w
  | [], h, _, hI, _ => hI
  | (j, o) :: l, h, hl, hI, hcl => by
    have hj := hl (j, o) (by simp)
    simp only at hj
    obtain ⟨v, hv⟩ := hsome j o hj
    have hv3 := hval j o v hj hv
    have hmut : ∀ p : Obj, (p.ren name).mut = p.mut := fun p => by cases p <;> rfl
    have h1 := hI.set (n := name j) (o := o.ren name) (v := v) (.inr hv3) (by rw [St.bind_same hv3]; exact hrep j o hj) (fun b hm hb => by
      rw [hmut] at hm
      obtain ⟨f1, f2, f3⟩ := hfree j o v b hj hm hv hb
      refine ⟨f1, f2, fun m p u hmn hp hpm hu hc => ?_⟩
      rcases hcl m p u b hp hpm hu hc with h4 | ⟨j', p', h5, rfl, h6⟩
      · exact f3 h4
      · obtain ⟨v', hv'⟩ := hsome j' p' h5
        rw [hval j' p' v' h5 hv'] at hu; cases hu
        exact hdis j' j p' o u v b (fun hc => hmn (by rw [hc])) h5 hj h6 hm hv' hv hc hb)
    rw [St.bind_same hv3] at h1
    refine layAll old hval hinj hrep hfree hdis hsome l (fun p hp => hl p (by simp [hp])) h1 fun n p u b hn hm hu hb => ?_
    rw [AL.get_set] at hn
    split at hn
    · rename_i hnj; subst hnj; cases hn; rw [hmut] at hm; exact .inr ⟨j, o, hj, rfl, hm⟩
    · exact hcl n p u b hn hm hu hb

theorem mut_lt (hI : Inv Fr nt S e a w) {n : Nat} {o : Obj} {v : Value} {b : Nat} (hn : e.h.get n = some o) (hm : o.mut = true) (hv : S.val n = some v) (hb : blk v = some b) : b < w.heap.size := by
  cases o with
  | lst t k xs => exact lst_lt hI hn hv hb
  | box t cs =>
    obtain ⟨b', vs, h1, h2, _⟩ := hI.objs n _ hn
    rw [hv] at h1; cases h1
    simp only [blk, Option.some.injEq] at hb; subst hb
    exact (Array.getElem?_eq_some_iff.1 h2).1
  | _ => cases hm
theorem setAll_dead : ∀ {ups : List (Nat × Obj)} {h : AL Obj} {n : Nat}, (∀ p ∈ ups, p.2 = .dead) → (∃ p ∈ ups, p.1 = n) → (setAll ups h).get n = some .dead
  | [], _, _, _, hn => by obtain ⟨p, hp, _⟩ := hn; cases hp
  | (m, o) :: ups, h, n, hd, hn => by
    simp only [setAll]
    by_cases hex : ∃ p ∈ ups, p.1 = n
    · exact setAll_dead (fun p hp => hd p (by simp [hp])) hex
    · have hno : ∀ p ∈ ups, p.1 ≠ n := fun p hp hc => hex ⟨p, hp, hc⟩
      rw [setAll_notin hno, AL.get_set]
      obtain ⟨p, hp, hpn⟩ := hn
      rcases List.mem_cons.1 hp with rfl | hp
      · simp at hpn; subst hpn; simp; exact hd (m, o) (by simp)
      · exact absurd hpn (hno p hp)
theorem setAll_frz : ∀ {ups : List (Nat × Obj)} {h : AL Obj} {n : Nat}, (∀ p ∈ ups, p.2.mut = false) → (∃ p ∈ ups, p.1 = n) → ∃ o, (setAll ups h).get n = some o ∧ o.mut = false
  | [], _, _, _, hn => by obtain ⟨p, hp, _⟩ := hn; cases hp
  | (m, o) :: ups, h, n, hd, hn => by
    simp only [setAll]
    by_cases hex : ∃ p ∈ ups, p.1 = n
    · exact setAll_frz (fun p hp => hd p (by simp [hp])) hex
    · have hno : ∀ p ∈ ups, p.1 ≠ n := fun p hp hc => hex ⟨p, hp, hc⟩
      rw [setAll_notin hno, AL.get_set]
      obtain ⟨p, hp, hpn⟩ := hn
      rcases List.mem_cons.1 hp with rfl | hp
      · simp at hpn; subst hpn; exact ⟨o, by simp, hd (m, o) (by simp)⟩
      · exact absurd hpn (hno p hp)

/-- Behind a call. -/
theorem back {gl : Nat → Option (List Cell)} (hgl : Fr.gl = gl) (hI : Inv Fr nt S e a w) {g : Sg} {x : g.ins.den} {y : g.β} {s : FS} {d : Nat} {w' : World} {S2 : St} {p0 : Nat} {v0 : AVal} {u : Value} {r : Res} {F F' : List Nat} {hh : Nat → Option Obj}
    (hs : s.Ok e.h.get S) (hA : Anew w S e (s.view S) (encH 0 g.ins.h x.2)) (hwi : ∀ j m, s.nameOf j = some m → j < g.ins.h.length)
    (hle : g.ins.h.length ≤ g.outs.h.length) (hpass : ∀ j, j < g.ins.h.length → ∃ n ob v, s.nameOf j = some n ∧ e.h.get n = some ob ∧ ob.mut = true ∧ S.val n = some v)
    (I2 : Inv (FdOf gl w (s.view S) g.ins.h.length) 0 S2 ⟨[], encH 0 g.outs.h (g.dn y).2⟩ noAct w') (ht : encT g.outs.t (g.dn y).1 = [(p0, v0)]) (hv : RepA w' S2 v0 u)
    (hr : (backRes g s d y).run hh = some (r, F)) (hw : writesOk e.h F' r = true) :
    ∃ S3, Inv Fr nt S3 ⟨e.t, setAll r.news (setAll r.ups e.h)⟩ a w' ∧ ∀ z, r.v = some z → RepA w' S3 z u := by
  generalize hm : g.ins.h.length = m at *
  generalize hlen : g.outs.h.length = len at *
  generalize hH : encH 0 g.outs.h (g.dn y).2 = H at *
  let name := nameFor s d m
  -- the answer
  have hrr : r = ⟨some (v0.ren name), (bif g.outs.slfree then [] else s.l) ++ (H.map fun p => (name p.1, p.2.ren name)).take m, (H.map fun p => (name p.1, p.2.ren name)).drop m⟩ := by
    unfold backRes at hr
    simp only [Shape.enc, ht, hH, hm] at hr
    exact (run_ret hr).1
  have hHl : H.length = len := by rw [← hH, encH_length, hlen]
  have hget : ∀ i o, H.get i = some o → i < len := fun i o hi => by
    have := AL.get_mem hi
    obtain ⟨k, hk⟩ := this
    have := encH_mem (l := g.outs.h) (j := 0) (x := (g.dn y).2) (p := (i, o)) (by rw [hH]; exact List.mem_of_getElem? hk)
    omega
  have hsome : ∀ i, i < len → ∃ o, H.get i = some o := fun i hi => by
    have := encH_some (l := g.outs.h) (j := 0) (x := (g.dn y).2) (i := i) (Nat.zero_le _) (by omega)
    rwa [hH] at this
  have hmemH : ∀ p ∈ H, p.1 < len ∧ H.get p.1 = some p.2 := fun p hp => by
    have := encH_mem (l := g.outs.h) (j := 0) (x := (g.dn y).2) (p := p) (by rw [hH]; exact hp)
    rw [hH] at this
    exact ⟨by omega, this.2.2⟩
  have hkey : ∀ (i : Nat) (p : Nat × Obj), H[i]? = some p → p.1 = i := fun i p hp => by
    have := encH_key (l := g.outs.h) (j := 0) (x := (g.dn y).2) (by rw [hH]; exact hp)
    omega
  have hnew : ∀ j, m ≤ j → name j = nm d (j - m) := fun j hj => by
    have : s.nameOf j = none := by
      cases h : s.nameOf j with
      | none => rfl
      | some n => have := hwi j n h; omega
    simp [name, nameFor, this]
  -- the new names are new
  have habs : ∀ j, m ≤ j → j < len → e.h.get (name j) = none := fun j hj hjl => by
    rw [hrr] at hw
    simp only [writesOk, Bool.and_eq_true] at hw
    have key : ∀ (l : List (Nat × Obj)) (h : AL Obj), writesOk.newOk h l = true → ∀ p ∈ l, h.get p.1 = none := fun l => by
      induction l with
      | nil => intro h _ p hp; cases hp
      | cons q l ih =>
        intro h ho p hp
        have hq := has_none (n := q.1) (ob := q.2) (ps := l) ho
        rcases List.mem_cons.1 hp with rfl | hp
        · exact hq
        · simp only [writesOk.newOk, Bool.and_eq_true] at ho
          have := ih _ ho.2 p hp
          rw [AL.get_set] at this
          split at this
          · cases this
          · exact this
    have hlt : j < H.length := by omega
    have hmem : (name j, (H[j].2).ren name) ∈ (H.map fun p => (name p.1, p.2.ren name)).drop m := by
      have hk := hkey j H[j] (List.getElem?_eq_getElem hlt)
      refine List.mem_of_getElem? (i := j - m) ?_
      rw [List.getElem?_drop, show m + (j - m) = j by omega, List.getElem?_map, List.getElem?_eq_getElem hlt]
      simp [hk]
    exact key _ _ hw.2 _ hmem
  have hvalOld : ∀ j n, s.nameOf j = some n → (s.view S).val j = S.val n := fun j n hn => hs.sees.m j n hn
  have hSn : ∀ j n, s.nameOf j = some n → ∃ v, S.val n = some v := hs.val
  have hS2old : ∀ j n v, s.nameOf j = some n → S.val n = some v → S2.val j = some v := fun j n v hn hv => by
    have h1 := I2.own j (hwi j n hn)
    have h2 : (FdOf gl w (s.view S) m).val0 j = v := by show ((s.view S).val j).getD undef = v; rw [hvalOld j n hn, hv]; rfl
    rw [h1, h2]
  have hvPass : ∀ j, j < m → ∃ ob v, e.h.get (name j) = some ob ∧ ob.mut = true ∧ S.val (name j) = some v ∧ (s.view S).val j = some v ∧ S2.val j = some v ∧ s.nameOf j = some (name j) := fun j hj => by
    obtain ⟨n, ob, v, h1, h2, h3, h4⟩ := hpass j hj
    have hn : name j = n := by simp [name, nameFor, h1]
    rw [hn]
    exact ⟨ob, v, h2, h3, h4, (hvalOld j n h1).trans h4, hS2old j n v h1 h4, h1⟩
  have hnInj : ∀ i j, i < len → j < len → name i = name j → i = j := fun i j hi hj hij => by
    by_cases h1 : i < m <;> by_cases h2 : j < m
    · obtain ⟨_, _, _, _, _, _, _, e1⟩ := hvPass i h1
      obtain ⟨_, _, _, _, _, _, _, e2⟩ := hvPass j h2
      rw [hij] at e1
      exact hs.one i j _ e1 e2
    · obtain ⟨ob, _, e1, _⟩ := hvPass i h1
      rw [hij, habs j (by omega) hj] at e1; cases e1
    · obtain ⟨ob, _, e1, _⟩ := hvPass j h2
      rw [← hij, habs i (by omega) hi] at e1; cases e1
    · rw [hnew i (by omega), hnew j (by omega)] at hij
      unfold nm at hij; omega
  -- the blocks that the callee may write
  let pwC : Nat → Prop := (FdOf gl w (s.view S) m).pw
  have hpw : ∀ b, pwC b → ∃ j ob v, j < m ∧ e.h.get (name j) = some ob ∧ ob.mut = true ∧ S.val (name j) = some v ∧ blk v = some b := fun b ⟨j, v, hj, hv, hb⟩ => by
    obtain ⟨ob, v', e1, e2, e3, e4, _⟩ := hvPass j hj
    rw [hv] at e4; cases e4
    exact ⟨j, ob, v, hj, e1, e2, e3, hb⟩
  have hpwOther : ∀ n o v b, e.h.get n = some o → o.mut = true → S.val n = some v → blk v = some b → (∀ j, j < m → name j ≠ n) → ¬ pwC b := fun n o v b h1 h2 h3 h4 h5 hc => by
    obtain ⟨j, ob, v', e1, e2, e3, e4, e5⟩ := hpw b hc
    exact hI.dis (name j) n ob o v' v b (h5 j e1) e2 h1 e3 h2 e4 h3 e5 h4
  -- B: what is passed is away
  have hkd : ∀ p ∈ (List.range m).map (fun j => (name j, Obj.dead)), p.2 = .dead := fun p hp => by obtain ⟨j, _, rfl⟩ := List.mem_map.1 hp; rfl
  have I1 := killAll ((List.range m).map fun j => (name j, Obj.dead)) (h := e.h) hI (fun p hp => by
    obtain ⟨j, hj, rfl⟩ := List.mem_map.1 hp
    obtain ⟨ob, v, e1, _⟩ := hvPass j (by simpa using hj)
    exact ⟨rfl, ob, e1⟩)
  generalize hh1 : setAll ((List.range m).map fun j => (name j, Obj.dead)) e.h = h1 at I1
  have g1 : ∀ n, (∀ j, j < m → name j ≠ n) → h1.get n = e.h.get n := fun n hn => by
    rw [← hh1]; exact setAll_notin fun p hp => by obtain ⟨j, hj, rfl⟩ := List.mem_map.1 hp; exact hn j (by simpa using hj)
  have g1m : ∀ n o, h1.get n = some o → o.mut = true → e.h.get n = some o ∧ ∀ j, j < m → name j ≠ n := fun n o hn hm => by
    have hne : ∀ j, j < m → name j ≠ n := fun j hj hc => by
      have := setAll_dead (h := e.h) (n := n) hkd ⟨(name j, .dead), List.mem_map.2 ⟨j, by simpa using hj, rfl⟩, hc⟩
      rw [hh1, hn] at this; cases this; cases hm
    exact ⟨(g1 n hne).symm.trans hn, hne⟩
  -- C: the callee's world
  have IC := I1.world (w' := w') pwC (fun b hb => by
    obtain ⟨j, ob, v, hj, e1, e2, e3, e4⟩ := hpw b hb
    have hw1 := hI.wr _ ob v b e1 e2 e3 e4
    refine ⟨hw1.1, hw1.2, fun n o u hn hm hu hc => ?_⟩
    obtain ⟨e5, e6⟩ := g1m n o hn hm
    exact hpwOther n o u b e5 hm hu hc e6 hb) (fun b hb hnb => I2.frame b hb hnb) I2.grow I2.os I2.tape I2.output
  -- D: what was lent is frozen, if something of it may have come back
  have hL : ∃ SA, Inv Fr nt SA ⟨e.t, setAll (bif g.outs.slfree then [] else s.l) h1⟩ a w' ∧ SA.val = S.val ∧ (∀ b, S.imm b → SA.imm b) ∧ ∀ b, SA.imm b → (s.view S).imm b := by
    refine freezeAll (s.view S).imm _ IC (fun n ob hm => ?_) (fun b hb => hA.imm0 b hb) (fun n ob v b hm hv hb => ?_)
    · cases hsf : g.outs.slfree with
      | true => rw [hsf] at hm; cases hm
      | false =>
        rw [hsf] at hm
        obtain ⟨t, k, xs, e1, rfl⟩ := hs.lst n ob hm
        refine ⟨k, xs, rfl, .inl ⟨t, ?_⟩⟩
        rw [g1 n (fun j hj hc => ?_)]
        · exact e1
        · obtain ⟨_, _, _, _, _, _, _, e8⟩ := hvPass j hj
          rw [hc] at e8
          exact hs.lent j n _ e8 hm
    · cases hsf : g.outs.slfree with
      | true => rw [hsf] at hm; cases hm
      | false => rw [hsf] at hm; exact .inr ⟨n, ob, v, hm, hv, hb⟩
  obtain ⟨SA, IA, vA, iA, tA⟩ := hL
  generalize hLL : (bif g.outs.slfree then [] else s.l) = L at *
  have hLfr : ∀ p ∈ L, p.2.mut = false := fun p hp => by
    cases hsf : g.outs.slfree with
    | true => rw [hsf] at hLL; subst hLL; cases hp
    | false =>
      rw [hsf] at hLL; subst hLL
      obtain ⟨t, k, xs, _, h⟩ := hs.lst p.1 p.2 hp
      rw [h]; rfl
  generalize hh2 : setAll L h1 = h2 at IA
  have g2m : ∀ n o, h2.get n = some o → o.mut = true → h1.get n = some o ∧ ∀ p ∈ L, p.1 ≠ n := fun n o hn hm => by
    have hne : ∀ p ∈ L, p.1 ≠ n := fun p hp hc => by
      obtain ⟨o', e1, e2⟩ := setAll_frz (h := h1) hLfr ⟨p, hp, hc⟩
      rw [hh2, hn] at e1; cases e1; rw [hm] at e2; cases e2
    exact ⟨by rw [← hh2, setAll_notin hne] at hn; exact hn, hne⟩
  have himm2 : ∀ b, S2.imm b → b < w'.heap.size ∧ ((s.view S).imm b ∨ w.heap.size ≤ b ∨ pwC b) := fun b hb => I2.imm b hb
  have hview : ∀ b, (s.view S).imm b → S2.imm b := fun b hb => I2.imm0 b hb
  have hFr : ∀ b, (w.heap.size ≤ b ∨ pwC b) → (Fr.w0.heap.size ≤ b ∨ Fr.pw b) := fun b hb => by
    rcases hb with hb | hb
    · exact .inl (Nat.le_trans hI.grow hb)
    · obtain ⟨j, ob, v, hj, e1, e2, e3, e4⟩ := hpw b hb
      exact (hI.wr _ ob v b e1 e2 e3 e4).2
  -- E: what the callee left for good
  have IB := IA.moreImm (fun b => g.outs.slfree = false ∧ S2.imm b) (fun b hb => by
    obtain ⟨e1, e2⟩ := himm2 b hb.2
    refine ⟨e1, ?_⟩
    rcases e2 with e2 | e2
    · rcases hA.imm b e2 with e3 | ⟨n, t, k, xs, v, e3, e4, e5⟩
      · exact (hI.imm b e3).2
      · exact .inr (hI.wr n _ v b e3 rfl e4 e5).2
    · exact .inr (hFr b e2)) (fun n o v b hn hm hv hb hc => by
    obtain ⟨e1, e2⟩ := g2m n o hn hm
    obtain ⟨e3, e4⟩ := g1m n o e1 hm
    rw [vA] at hv
    obtain ⟨_, e5⟩ := himm2 b hc.2
    rcases e5 with e5 | e5 | e5
    · rcases e5 with e5 | ⟨n', ob', v', e6, e7, e8⟩
      · exact (hI.wr n o v b e3 hm hv hb).1 e5
      · obtain ⟨t, k, xs, e9, _⟩ := hs.lst n' ob' e6
        have hne : n' ≠ n := fun hcc => by
          refine e2 (n', ob') ?_ hcc
          rw [hc.1] at hLL; rw [← hLL]; exact e6
        exact hI.dis n' n _ o v' v b hne e9 e3 rfl hm e7 hv e8 hb
    · have := mut_lt hI e3 hm hv hb; omega
    · exact hpwOther n o v b e3 hm hv hb e4 e5)
  -- F: the new names
  have hS2some : ∀ j, j < len → ∃ v, S2.val j = some v := fun j hj => by
    obtain ⟨o, ho⟩ := hsome j hj
    exact (I2.objs j o ho).val
  have hnl : ∀ p ∈ (List.range (len - m)).map (fun i => (name (m + i), (S2.val (m + i)).getD undef)), ∃ j, m ≤ j ∧ j < len ∧ p.1 = name j ∧ S2.val j = some p.2 := fun p hp => by
    obtain ⟨i, hi, rfl⟩ := List.mem_map.1 hp
    have hi' : i < len - m := by simpa using hi
    obtain ⟨v, hv⟩ := hS2some (m + i) (by omega)
    exact ⟨m + i, by omega, by omega, rfl, by simp [hv]⟩
  obtain ⟨SC, ICC, iC, gC, pC, oC⟩ := bindAll ((List.range (len - m)).map fun i => (name (m + i), (S2.val (m + i)).getD undef)) IB (fun p hp => by
    obtain ⟨j, e1, e2, e3, e4⟩ := hnl p hp
    left
    show SA.val p.1 = none
    rw [vA, e3]
    exact hI.news _ (habs j e1 e2)) (fun p hp q hq hpq => by
    obtain ⟨j, e1, e2, e3, e4⟩ := hnl p hp
    obtain ⟨j', e1', e2', e3', e4'⟩ := hnl q hq
    have := hnInj j j' e2 e2' (by rw [← e3, ← e3', hpq])
    subst this
    rw [e4] at e4'; exact Option.some.inj e4')
  have hSC : ∀ j v, S2.val j = some v → SC.val (name j) = some v := fun j v hv => by
    by_cases hj : j < len
    · by_cases hjm : j < m
      · obtain ⟨ob, v', e1, e2, e3, e4, e5, e6⟩ := hvPass j hjm
        rw [hv] at e5; cases e5
        exact gC _ _ (by show SA.val (name j) = some v; rw [vA]; exact e3)
      · have := pC (name (m + (j - m)), (S2.val (m + (j - m))).getD undef) (List.mem_map.2 ⟨j - m, by simp; omega, rfl⟩)
        rw [show m + (j - m) = j by omega] at this
        rw [this, hv]; rfl
    · have : H.get j = none := by
        cases h : H.get j with
        | none => rfl
        | some o => exact absurd (hget j o h) hj
      rw [I2.news j this] at hv; cases hv
  generalize hh3 : setAll (((List.range (len - m)).map fun i => (name (m + i), (S2.val (m + i)).getD undef)).map fun p => (p.1, Obj.dead)) h2 = h3 at ICC
  have g3 : ∀ n, (∀ j, m ≤ j → j < len → name j ≠ n) → h3.get n = h2.get n := fun n hn => by
    rw [← hh3]; refine setAll_notin fun p hp => ?_
    obtain ⟨q, hq, rfl⟩ := List.mem_map.1 hp
    obtain ⟨j, e1, e2, e3, _⟩ := hnl q hq
    show q.1 ≠ n
    rw [e3]; exact hn j e1 e2
  have g3m : ∀ n o, h3.get n = some o → o.mut = true → h2.get n = some o := fun n o hn hm => by
    rw [← g3 n (fun j e1 e2 hc => ?_)]
    · exact hn
    · have := setAll_dead (h := h2) (n := n) (ups := ((List.range (len - m)).map fun i => (name (m + i), (S2.val (m + i)).getD undef)).map fun p => (p.1, Obj.dead)) (fun p hp => by obtain ⟨q, _, rfl⟩ := List.mem_map.1 hp; rfl)
        ⟨_, List.mem_map.2 ⟨_, List.mem_map.2 ⟨j - m, by simp; omega, rfl⟩, rfl⟩, by show name (m + (j - m)) = n; rw [show m + (j - m) = j by omega]; exact hc⟩
      rw [hh3, hn] at this; cases this; cases hm
  -- G: the objects as they came back
  have himmC : ∀ b, SC.imm b ↔ (SA.imm b ∨ (g.outs.slfree = false ∧ S2.imm b)) := fun b => by rw [iC]
  have hfreeCell : ∀ (c : Cell), (g.outs.slfree = true → c.free = true) → (∀ b, S2.imm b → SC.imm b) ∨ c.free = true := fun c hc => by
    cases hsf : g.outs.slfree with
    | true => exact .inr (hc hsf)
    | false => exact .inl fun b hb => (himmC b).2 (.inr ⟨hsf, hb⟩)
  have hslf : g.outs.slfree = true → g.outs.h.all Shape.slfreeO = true ∧ (g.outs.t.all fun p => Shape.slfreeA p.2) = true := fun h => by
    unfold Shape.slfree at h
    exact Bool.and_eq_true _ _ ▸ h
  have IG := layAll (S2 := S2) (S3 := SC) (name := name) (H := H) (fun b => b < w.heap.size ∧ ¬ pwC b) (fun j o v _ hv => hSC j v hv) (fun i j o p hi hj hij => hnInj i j (hget i o hi) (hget j p hj) hij)
    (fun j o ho => (I2.objs j o ho).ren hSC (by
      cases hsf : g.outs.slfree with
      | true =>
        right
        refine encH_free (l := g.outs.h) (j := 0) (x := (g.dn y).2) (hslf hsf).1 j o ?_
        rw [hH]; exact ho
      | false => exact .inl fun b hb => (himmC b).2 (.inr ⟨hsf, hb⟩)))
    (fun j o v b ho hm hv hb => by
      have hw2 := I2.wr j o v b ho hm hv hb
      refine ⟨fun hc => ?_, hFr b hw2.2, fun hc => ?_⟩
      · rcases (himmC b).1 hc with hc | hc
        · exact hw2.1 (hview b (tA b hc))
        · exact hw2.1 hc.2
      · rcases hw2.2 with h | h
        · have : w.heap.size ≤ b := h; omega
        · exact hc.2 h)
    I2.dis (fun j o ho => (I2.objs j o ho).val) H (fun p hp => (hmemH p hp).2) ICC (fun n o v b hn hm hv hb => by
      have e1 := g3m n o hn hm
      obtain ⟨e2, _⟩ := g2m n o e1 hm
      obtain ⟨e3, e4⟩ := g1m n o e2 hm
      left
      obtain ⟨v', hv'⟩ := (hI.objs n o e3).val
      have : SC.val n = some v' := gC n v' (by show SA.val n = some v'; rw [vA]; exact hv')
      rw [hv] at this; cases this
      exact ⟨mut_lt hI e3 hm hv' hb, hpwOther n o v b e3 hm hv' hb e4⟩)
  -- H: the same objects as the engine says
  refine ⟨SC, ?_, fun z hz => ?_⟩
  · rw [hrr]
    show Inv Fr nt SC ⟨e.t, setAll ((H.map fun p => (name p.1, p.2.ren name)).drop m) (setAll (L ++ (H.map fun p => (name p.1, p.2.ren name)).take m) e.h)⟩ a w'
    have hsplit : setAll ((H.map fun p => (name p.1, p.2.ren name)).drop m) (setAll (L ++ (H.map fun p => (name p.1, p.2.ren name)).take m) e.h) = setAll (H.map fun p => (name p.1, p.2.ren name)) (setAll L e.h) := by
      rw [setAll_append, ← setAll_append, List.take_append_drop]
    rw [hsplit]
    refine IG.congr fun n => ?_
    by_cases hex : ∃ p ∈ H.map (fun p => (name p.1, p.2.ren name)), p.1 = n
    · exact setAll_in hex
    · have hno : ∀ p ∈ H.map (fun p => (name p.1, p.2.ren name)), p.1 ≠ n := fun p hp hc => hex ⟨p, hp, hc⟩
      have hnj : ∀ j, j < len → name j ≠ n := fun j hj hc => by
        obtain ⟨o, ho⟩ := hsome j hj
        obtain ⟨k, hk⟩ := AL.get_mem ho
        exact hno (name j, o.ren name) (List.mem_map.2 ⟨(j, o), List.mem_of_getElem? hk, rfl⟩) hc
      rw [setAll_notin hno]
      show (setAll L e.h).get n = (setAll (H.map fun p => (name p.1, p.2.ren name)) h3).get n
      rw [setAll_notin hno, g3 n (fun j _ hj => hnj j hj), ← hh2]
      by_cases hexL : ∃ p ∈ L, p.1 = n
      · exact setAll_in hexL
      · have hnoL : ∀ p ∈ L, p.1 ≠ n := fun p hp hc => hexL ⟨p, hp, hc⟩
        rw [setAll_notin hnoL, setAll_notin hnoL, g1 n (fun j hj => hnj j (by omega))]
  · rw [hrr] at hz
    cases hz
    refine hv.ren hSC ?_
    have hall : g.outs.slfree = true → v0.all fun c => c.free = true := fun hsf => encT_free (hslf hsf).2 ht
    cases v0 with
    | c c => exact hfreeCell c hall
    | agg cs => exact fun c hc => hfreeCell c fun h => hall h c hc
    | tup l => exact fun q hq c hc => hfreeCell c fun h => hall h q hq c hc
end
end Go.Eng
