/-
  The engine, sixteenth part: regions, in whatever order.
-/
import Derived.Test.YtmcmkdiefpepnaaDoorEngO
set_option linter.unusedVariables false
set_option linter.unusedSimpArgs false
namespace Go.Eng

/-! ### Steps -/
theorem step_of_stepK {R : Type} {C : Ctx} {dst : Option Nat} {op : Op} {e : Env} {K : Env → Log → Option R} {r : R} (h : stepK C dst op e K = some r) : ∃ e' l, step C dst op e = some (e', l) ∧ K e' l = some r := by
  unfold stepK at h
  obtain ⟨a, F', h1, h2⟩ := RM.run_runK h
  simp only [List.append_nil] at h2
  cases hb : (writesOk e.h F'.reverse a && dstOk C.nt dst) with
  | false => rw [hb] at h2; cases h2
  | true =>
    rw [hb] at h2
    exact ⟨_, _, by unfold step; rw [h1]; simp only [hb, cond_true], h2⟩
theorem step_inv {C : Ctx} {dst : Option Nat} {op : Op} {e e' : Env} {l : Log} (h : step C dst op e = some (e', l)) :
    ∃ r F, (effA C e.t.get dst op).run e.h.get = some (r, F) ∧ writesOk e.h F.reverse r = true ∧ dstOk C.nt dst = true ∧ e' = ⟨putV e.t dst r.v, setAll r.news (setAll r.ups e.h)⟩ ∧ l = ⟨F.reverse, (r.ups ++ r.news).map (·.1)⟩ := by
  unfold step at h
  cases hr : (effA C e.t.get dst op).run e.h.get with
  | none => rw [hr] at h; cases h
  | some p =>
    obtain ⟨r, F⟩ := p
    rw [hr] at h
    simp only at h
    cases hb : (writesOk e.h F.reverse r && dstOk C.nt dst) with
    | false => rw [hb] at h; cases h
    | true =>
      rw [hb] at h
      simp only [cond_true, Option.some.injEq, Prod.mk.injEq] at h
      simp only [Bool.and_eq_true] at hb
      exact ⟨r, F, rfl, hb.1, hb.2, h.1.symm, h.2.symm⟩

/-- An operation under its guard. -/
def stepG (C : Ctx) (ops : Array Oper) (o : Oper) (e : Env) : Option (Env × Log) := match o.guard with
  | none => step C o.dst o.op e
  | some (g, want) => match guardTmp ops g with
    | none => none
    | some d => match e.t.get d with
      | some (.c (.bool b)) => bif (b == want) then step C o.dst o.op e else bif dstOk C.nt o.dst then some ({ e with t := putV e.t o.dst (some (.tup [])) }, ⟨[], []⟩) else none
      | some (.tup []) => bif dstOk C.nt o.dst then some ({ e with t := putV e.t o.dst (some (.tup [])) }, ⟨[], []⟩) else none
      | _ => none

section
variable {P : Program} {C : Ctx} {Fr : Fd} {ops : Array Oper}

theorem Inv.undef {nt : Nat} {S : St} {e : Env} {a : Act} {w : World} (h : Inv Fr nt S e a w) {dst : Option Nat} (hd : dstOk nt dst = true) : Inv Fr nt S ⟨putV e.t dst (some (.tup [])), e.h⟩ (a.put dst undef) w :=
  h.put (v := some (.tup [])) (u := Go.undef) (fun x hx => by cases hx; exact ⟨[], rfl, trivial⟩) hd
theorem yielded_tup {nt : Nat} {S : St} {e : Env} {a : Act} {w : World} (h : Inv Fr nt S e a w) {g d : Nat} (hg : guardTmp ops g = some d) (hb : e.t.get d = some (.tup [])) : yielded ops a.tmps g = none := by
  obtain ⟨u, h1, vs, h2, h3⟩ := h.tmps d _ hb
  cases vs with
  | cons _ _ => exact h3.elim
  | nil =>
    subst h2
    unfold guardTmp at hg
    unfold yielded
    cases ho : ops[g]? with
    | none => rw [ho] at hg; cases hg
    | some o =>
      rw [ho] at hg
      simp only at hg
      simp [hg, h1]

theorem yielded_of {nt : Nat} {S : St} {e : Env} {a : Act} {w : World} (h : Inv Fr nt S e a w) {g d : Nat} {b : Bool} (hg : guardTmp ops g = some d) (hb : e.t.get d = some (.c (.bool b))) : yielded ops a.tmps g = some b := by
  obtain ⟨u, h1, h2, _⟩ := h.tmps d _ hb
  have h2' : u = .bool b := h2
  subst h2'
  unfold guardTmp at hg
  unfold yielded
  cases ho : ops[g]? with
  | none => rw [ho] at hg; cases hg
  | some o =>
    rw [ho] at hg
    simp only at hg
    simp [hg, h1]

theorem wpOp_of_stepG (hC : C.Ok P) (hsg : ∀ f g, C.sg f = some g → callable P f = true ∧ Sound P C.gl f g) (hgl : Fr.gl = C.gl) {S : St} {e e' : Env} {a : Act} {w : World} {l : Log} (hI : Inv Fr C.nt S e a w) {i : Nat} {o : Oper} (ho : ops[i]? = some o)
    (hs : stepG C ops o e = some (e', l)) {K : Act → World → Prop} {Q : Exit → Act → World → Prop} (hK : ∀ a' w' S', Inv Fr C.nt S' e' a' w' → K a' w') : wpOp P ops Q i K a w := by
  have act : ∀ {e' : Env} {l : Log}, step C o.dst o.op e = some (e', l) → (∀ a' w' S', Inv Fr C.nt S' e' a' w' → K a' w') → o.wp P a w K Q := fun {e' l} hs hK => by
    obtain ⟨r, F, h1, h2, h3, rfl, _⟩ := step_inv hs
    exact did_op hC hsg hgl hI h1 h2 K Q fun u w' S' hv hI' => hK _ _ S' (hI'.put hv h3)
  unfold wpOp
  rw [ho]
  show if Region.wanted o (yielded ops a.tmps) = true then _ else _
  unfold stepG at hs
  cases hg : o.guard with
  | none =>
    rw [hg] at hs
    rw [if_pos (by simp [Region.wanted, hg])]
    exact .inl (act hs hK)
  | some gw =>
    obtain ⟨g, want⟩ := gw
    rw [hg] at hs
    simp only at hs
    cases hgt : guardTmp ops g with
    | none => rw [hgt] at hs; cases hs
    | some d =>
      rw [hgt] at hs
      simp only at hs
      cases hd : e.t.get d with
      | none => rw [hd] at hs; cases hs
      | some v =>
        rw [hd] at hs
        match v, hd, hs with
        | .c (.bool b), hd, hs =>
          have hy := yielded_of hI hgt hd
          simp only at hs
          have hwn : Region.wanted o (yielded ops a.tmps) = (b == want) := by
            unfold Region.wanted; rw [hg]; simp only [hy]; cases b <;> cases want <;> rfl
          cases hbw : (b == want) with
          | true =>
            rw [hbw] at hs
            rw [if_pos (by rw [hwn, hbw])]
            exact .inl (act hs hK)
          | false =>
            rw [hbw] at hs
            cases hdo : dstOk C.nt o.dst with
            | false => rw [hdo] at hs; cases hs
            | true =>
              rw [hdo] at hs
              simp only [cond_false, cond_true, Option.some.injEq, Prod.mk.injEq] at hs
              obtain ⟨rfl, _⟩ := hs
              rw [if_neg (by rw [hwn, hbw]; simp)]
              exact hK _ _ S (hI.undef hdo)
        | .tup [], hd, hs =>
          have hy := yielded_tup hI hgt hd
          simp only at hs
          have hwn : Region.wanted o (yielded ops a.tmps) = false := by
            unfold Region.wanted; rw [hg]; simp only [hy]; cases want <;> rfl
          cases hdo : dstOk C.nt o.dst with
          | false => rw [hdo] at hs; cases hs
          | true =>
            rw [hdo] at hs
            simp only [cond_true, Option.some.injEq, Prod.mk.injEq] at hs
            obtain ⟨rfl, _⟩ := hs
            rw [if_neg (by rw [hwn]; simp)]
            exact hK _ _ S (hI.undef hdo)
        | .c (.int ..), _, hx | .c (.str _), _, hx | .c (.flt _), _, hx | .c (.sl ..), _, hx | .c .nil, _, hx | .c (.ref _), _, hx | .c (.ptr ..), _, hx | .c (.eptr ..), _, hx | .c (.vptr ..), _, hx | .c (.gptr ..), _, hx
        | .c (.fn ..), _, hx | .c (.opq _), _, hx | .agg _, _, hx | .tup (_ :: _), _, hx => cases hx

/-! ### The order of the text -/
/-- Operations, by their numbers, one behind the other; 'lg' says each one's log. -/
def RunI (C : Ctx) (ops : Array Oper) (lg : Nat → Log) : List Nat → Env → Env → Prop
  | [], e, e' => (∀ n, e.t.get n = e'.t.get n) ∧ ∀ n, e.h.get n = e'.h.get n
  | i :: is, e, e' => ∃ o e1, ops[i]? = some o ∧ stepG C ops o e = some (e1, lg i) ∧ RunI C ops lg is e1 e'

theorem Inv.same {nt : Nat} {S : St} {e e' : Env} {a : Act} {w : World} (h : Inv Fr nt S e a w) (ht : ∀ n, e.t.get n = e'.t.get n) (hh : ∀ n, e.h.get n = e'.h.get n) : Inv Fr nt S e' a w :=
  { h.congr (h' := e'.h) (fun n => (hh n).symm) with tmps := fun t v hv => h.tmps t v (by rw [ht]; exact hv) }

theorem wpOps_run (hC : C.Ok P) (hsg : ∀ f g, C.sg f = some g → callable P f = true ∧ Sound P C.gl f g) (hgl : Fr.gl = C.gl) {lg : Nat → Log} {Q : Exit → Act → World → Prop} {e' : Env} (hQ : ∀ a w S, Inv Fr C.nt S e' a w → Q .normal a w) :
    ∀ {is : List Nat} {e : Env} {a : Act} {w : World} {S : St}, Inv Fr C.nt S e a w → RunI C ops lg is e e' → wpOps P ops Q is a w
  | [], e, a, w, S, hI, hr => hQ a w S (hI.same hr.1 hr.2)
  | i :: is, e, a, w, S, hI, ⟨o, e1, ho, hs, hr⟩ => by
    rw [wpOps_cons]
    exact wpOp_of_stepG hC hsg hgl hI ho hs fun a' w' S' hI' => wpOps_run hC hsg hgl hQ hI' hr

/-- What the engine computes, is a run. -/
theorem opsK_run {R : Type} : ∀ {os : List Oper} {k : Nat} {e : Env} {L : List Log} {K : Env → List Log → Option R} {r : R}, (∀ j : Nat, os[j]? = ops[k + j]?) → opsK C ops os e L K = some r →
    ∃ L' e' e'', L'.length = os.length ∧ K e' (L.reverse ++ L') = some r ∧ e'' = e' ∧ ∀ lg : Nat → Log, (∀ j l, L'[j]? = some l → lg (k + j) = l) → RunI C ops lg (List.range' k os.length) e e''
  | [], k, e, L, K, r, _, h => ⟨[], e, e, rfl, by simpa [opsK] using h, rfl, fun _ _ => ⟨fun _ => rfl, fun _ => rfl⟩⟩
  | o :: os, k, e, L, K, r, hj, h => by
    have h0 : ops[k]? = some o := by have := hj 0; simpa using this.symm
    have hj' : ∀ j : Nat, os[j]? = ops[k + 1 + j]? := fun j => by have := hj (j + 1); simp at this; rw [this]; congr 1; omega
    have key : ∀ {e1 : Env} {l : Log}, stepG C ops o e = some (e1, l) → opsK C ops os e1 (l :: L) K = some r →
        ∃ L' e' e'', L'.length = (o :: os).length ∧ K e' (L.reverse ++ L') = some r ∧ e'' = e' ∧ ∀ lg : Nat → Log, (∀ j l, L'[j]? = some l → lg (k + j) = l) → RunI C ops lg (List.range' k (o :: os).length) e e'' := fun {e1 l} hs hr => by
      obtain ⟨L', e', e'', h1, h2, h3, h4⟩ := opsK_run hj' hr
      refine ⟨l :: L', e', e'', by simp [h1], by simpa using h2, h3, fun lg hlg => ?_⟩
      have hl : lg k = l := by have := hlg 0 l rfl; simpa using this
      refine ⟨o, e1, h0, by rw [hl]; exact hs, h4 lg fun j l' hj => ?_⟩
      have := hlg (j + 1) l' (by simpa using hj)
      rw [← this]; congr 1; omega
    simp only [opsK] at h
    cases hg : o.guard with
    | none =>
      rw [hg] at h
      obtain ⟨e1, l, h1, h2⟩ := step_of_stepK h
      exact key (by unfold stepG; rw [hg]; exact h1) h2
    | some gw =>
      obtain ⟨g, want⟩ := gw
      rw [hg] at h
      simp only at h
      cases hgt : guardTmp ops g with
      | none => rw [hgt] at h; cases h
      | some d =>
        rw [hgt] at h
        simp only at h
        cases hd : e.t.get d with
        | none => rw [hd] at h; cases h
        | some v =>
          rw [hd] at h
          match v, hd, h with
          | .c (.bool b), hd, h =>
            simp only at h
            have hup : ∀ c : Bool, c = b → e.t.upd d (.c (.bool c)) = e.t := fun c hc => AL.upd_same _ _ _ (by rw [hd, hc])
            have hG : ∀ x, stepG C ops o e = x ↔ (bif (b == want) then step C o.dst o.op e else bif dstOk C.nt o.dst then some ({ e with t := putV e.t o.dst (some (.tup [])) }, ⟨[], []⟩) else none) = x := fun x => by unfold stepG; rw [hg]; simp only [hgt, hd]
            cases b with
            | true =>
              simp only [cond_true, hup true rfl] at h
              cases want with
              | true => simp only [cond_true] at h; obtain ⟨e1, l, h1, h2⟩ := step_of_stepK h; exact key ((hG _).2 h1) h2
              | false =>
                cases hdo : dstOk C.nt o.dst with
                | false => rw [hdo] at h; cases h
                | true => rw [hdo] at h; simp only [cond_false, cond_true] at h; exact key ((hG _).2 (by rw [hdo]; rfl)) h
            | false =>
              simp only [cond_false, hup false rfl] at h
              cases want with
              | true =>
                cases hdo : dstOk C.nt o.dst with
                | false => rw [hdo] at h; cases h
                | true => rw [hdo] at h; simp only [cond_true] at h; exact key ((hG _).2 (by rw [hdo]; rfl)) h
              | false => simp only [cond_false] at h; obtain ⟨e1, l, h1, h2⟩ := step_of_stepK h; exact key ((hG _).2 h1) h2
          | .tup [], hd, h =>
            simp only at h
            cases hdo : dstOk C.nt o.dst with
            | false => rw [hdo] at h; cases h
            | true =>
              rw [hdo] at h
              simp only [cond_true] at h
              exact key (by unfold stepG; rw [hg]; simp only [hgt, hd, hdo, cond_true]) h
          | .c (.int ..), _, hx | .c (.str _), _, hx | .c (.flt _), _, hx | .c (.sl ..), _, hx | .c .nil, _, hx | .c (.ref _), _, hx | .c (.ptr ..), _, hx | .c (.eptr ..), _, hx | .c (.vptr ..), _, hx | .c (.gptr ..), _, hx
          | .c (.fn ..), _, hx | .c (.opq _), _, hx | .agg _, _, hx | .tup (_ :: _), _, hx => cases hx
end
end Go.Eng
