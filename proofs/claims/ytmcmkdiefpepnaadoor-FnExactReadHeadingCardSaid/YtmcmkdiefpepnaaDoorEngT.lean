/-
  The engine, twentieth part: functions.
-/
import Derived.Test.YtmcmkdiefpepnaaDoorEngS
import Derived.Laws.Sem
set_option linter.unusedSimpArgs false
set_option linter.unusedVariables false
namespace Go.Eng
section
variable {P : Program} {C : Ctx} {Fr : Fd} {nt : Nat} {S : St} {e : Env} {a : Act} {w : World}

/-- One result. -/
def resOne (tmps : Array Value) : ResultVar → Sem Value
  | .tmp t => pure (tmps.getD t undef)
  | .cell a t => do loadVar t (← asAddr (tmps.getD a undef))
theorem results_eq (fn : Func) (tmps : Array Value) : results fn tmps = (do let vs ← fn.results.mapM (resOne tmps); pure (if h : vs.size = 1 then vs[0] else .tuple vs)) := by
  unfold results
  congr 1

theorem loadAt_inv {t : TypeId} {v u : Value} (h : (Instr.loadAt t v).run P w = .ok u w) : (do loadVar t (← asAddr v) : Sem Value).run P w = .ok u w := by
  have key : (∃ p, v = .pointer (some p)) ∨ Instr.sureAddr v = stuck "an address expected (no nilCheck in front?)" := by
    unfold Instr.sureAddr
    split
    · exact .inl ⟨_, rfl⟩
    · exact .inr rfl
  rcases key with ⟨p, rfl⟩ | hk
  · simpa [Instr.loadAt, Instr.sureAddr, asAddr] using h
  · unfold Instr.loadAt at h
    rw [hk] at h
    cases h

theorem resA_rep (hC : C.Ok P) (hgl : Fr.gl = C.gl) (hI : Inv Fr nt S e a w) : ∀ {rs : List ResultVar} {vs : List AVal} {F : List Nat}, (resA C e.t.get rs).run e.h.get = some (vs, F) →
    ∃ us : List Value, (rs.mapM (resOne a.tmps)).run P w = .ok us w ∧ RepAs w S vs us
  | [], vs, F, h => by
    obtain ⟨rfl, _⟩ := run_ret h
    exact ⟨[], by simp, trivial⟩
  | .tmp t :: rs, vs, F, h => by
    simp only [resA] at h
    cases ht : e.t.get t with
    | none => rw [ht] at h; exact run_fail h
    | some v =>
      rw [ht] at h
      obtain ⟨vs', F1, F2, h1, h2, _⟩ := RM.run_bind h
      obtain ⟨rfl, _⟩ := run_ret h2
      obtain ⟨us, k1, k2⟩ := resA_rep hC hgl hI h1
      obtain ⟨u, g1, g2⟩ := hI.tmps t v ht
      refine ⟨u :: us, ?_, g2, k2⟩
      have : a.tmps.getD t undef = u := by simp [g1]
      simp [List.mapM_cons, resOne, this, k1]
  | .cell t ty :: rs, vs, F, h => by
    simp only [resA] at h
    cases ht : e.t.get t with
    | none => rw [ht] at h; exact run_fail h
    | some p =>
      rw [ht] at h
      obtain ⟨v, F1, F2, h1, h2, _⟩ := RM.run_bind h
      obtain ⟨vs', F3, F4, h3, h4, _⟩ := RM.run_bind h2
      obtain ⟨rfl, _⟩ := run_ret h4
      obtain ⟨us, k1, k2⟩ := resA_rep hC hgl hI h3
      obtain ⟨u, g1, g2⟩ := hI.tmps t p ht
      obtain ⟨z, l1, l2⟩ := load_ok hC hgl hI g2 h1
      refine ⟨z :: us, ?_, l2, k2⟩
      have hu : a.tmps.getD t undef = u := by simp [g1]
      have := loadAt_inv l1
      simp only [List.mapM_cons, resOne, hu, Sem.run_bind]
      simp only [Sem.run_bind] at this
      rw [this]
      simp [k1]

theorem tupL_rep : ∀ {vs : List AVal} {us : List Value} {l : List (Bool × List Cell)}, RepAs w S vs us → tupL vs = some l → RepT w S l us
  | [], [], l, _, h => by simp only [tupL, Option.some.injEq] at h; subst h; trivial
  | v :: vs, u :: us, l, hr, h => by
    simp only [tupL] at h
    cases hc : v.cells with
    | none => rw [hc] at h; cases h
    | some c =>
      cases ht : tupL vs with
      | none => rw [hc, ht] at h; cases h
      | some r =>
        rw [hc, ht] at h
        simp only [Option.some.injEq] at h
        subst h
        refine ⟨?_, tupL_rep hr.2 ht⟩
        cases v with
        | c x => simp only [AVal.cells, Option.some.injEq] at hc; subst hc; exact hr.1
        | agg cs => simp only [AVal.cells, Option.some.injEq] at hc; subst hc; exact hr.1
        | tup _ => cases hc
  | [], _ :: _, _, hr, _ => hr.elim
  | _ :: _, [], _, hr, _ => hr.elim

theorem results_rep (hC : C.Ok P) (hgl : Fr.gl = C.gl) (hI : Inv Fr nt S e a w) {fn : Func} {vs : List AVal} {v : AVal} {F1 F2 : List Nat} (h1 : (resA C e.t.get fn.results.toList).run e.h.get = some (vs, F1)) (h2 : (resV vs).run e.h.get = some (v, F2)) :
    ∃ u, (results fn a.tmps).run P w = .ok u w ∧ RepA w S v u := by
  obtain ⟨us, k1, k2⟩ := resA_rep hC hgl hI h1
  have hm : (fn.results.mapM (resOne a.tmps)).run P w = .ok us.toArray w := by
    rw [Array.mapM_eq_mapM_toList, map_eq_pure_bind, Sem.run_bind, k1]
    rfl
  have hres : (results fn a.tmps).run P w = .ok (if h : us.toArray.size = 1 then us.toArray[0] else .tuple us.toArray) w := by
    rw [results_eq, Sem.run_bind, hm]
    rfl
  have gen : ∀ l, tupL vs = some l → v = .tup l → us.length ≠ 1 → ∃ u, (results fn a.tmps).run P w = .ok u w ∧ RepA w S v u := fun l hl hv hn => by
    refine ⟨_, hres, ?_⟩
    rw [dif_neg (by simpa using hn), hv]
    exact ⟨us, rfl, tupL_rep k2 hl⟩
  have hlen := k2.length
  cases vs with
  | nil =>
    obtain ⟨rfl, _⟩ := run_ret h2
    exact gen [] rfl rfl (by simp at hlen; simp [← hlen])
  | cons x vs =>
    cases vs with
    | nil =>
      obtain ⟨rfl, _⟩ := run_ret h2
      cases us with
      | nil => cases hlen
      | cons u us =>
        cases us with
        | nil => exact ⟨u, by rw [hres]; rfl, k2.1⟩
        | cons _ _ => simp at hlen
    | cons y vs =>
      simp only [resV] at h2
      cases ht : tupL (x :: y :: vs) with
      | none => rw [ht] at h2; exact run_fail h2
      | some l =>
        rw [ht] at h2
        obtain ⟨rfl, _⟩ := run_ret h2
        exact gen l ht rfl (by simp at hlen; omega)

/-- **A function.** -/
theorem sound_of (hC : C.Ok P) (hm : P.follows .mixedOrders = true) (hsg : ∀ f g, C.sg f = some g → callable P f = true ∧ Sound P C.gl f g) {f : FuncId} {fn : Func} {body : Code} {g : Sg} {up : g.outs.den → g.β}
    (hf : P.funcs[f]? = some fn) (hb : fn.body = some body) (hnt : fn.ntmps = C.nt) (hkeys : keysOk 0 g.ins.t = true) (hlen : Nat.ble g.ins.t.length C.nt = true) (hone : g.outs.t.length = 1) (hup : ∀ y, g.dn (up y) = y)
    {Jf : Nat → Nat → Option (Cut g.β)} (h0 : ∀ p cut, Jf 0 p = some cut → ∀ y r, cut.g y ≠ some r)
    (h1 : ∀ k, ∀ s ∈ sites [] body, ∀ cut, Jf (k + 1) s.1 = some cut → ∀ y r, cut.g y = some r → denSite C g.ins.h.length (Jf k) (retK C g.ins.h.length g.outs up fn.results.toList) s.2.1 s.2.2 (cut.s.enc y) = some r)
    (hbody : ∀ x y, g.fn x = some y → ∃ k, den C g.ins.h.length (Jf k) body (g.ins.enc x) (retK C g.ins.h.length g.outs up fn.results.toList) = some y) : Sound P C.gl f g := by
  intro w S vals x y hI hr hfn
  obtain ⟨k, hk⟩ := hbody x y hfn
  have hsz : vals.size = g.ins.t.length := by
    have := hr.length
    rw [List.length_map, encT_length] at this
    simpa using this.symm
  have hle := Nat.le_of_ble_eq_true hlen
  refine calls_of_wp hf hb ?_
  have hInv : Inv (FdOf C.gl w S g.ins.h.length) C.nt S (g.ins.enc x) { tmps := vals ++ Array.replicate (fn.ntmps - vals.size) undef, defers := [] } w :=
    { hI with
      defers := rfl
      size := by simp [hnt, hsz]; omega
      tmps := fun t v ht => by
        obtain ⟨i, hi⟩ := AL.get_mem ht
        obtain ⟨sa, hsa⟩ := encT_key hi
        have hp := keysOk_get hkeys i _ hsa
        simp only at hp
        have hti : t = i := by omega
        subst hti
        obtain ⟨u, h1, h2⟩ := hr.get t v (by rw [List.getElem?_map, show (encT g.ins.t x.1)[t]? = some (t, v) from hi]; rfl)
        refine ⟨u, ?_, h2⟩
        have hlt : t < vals.size := by
          rcases Nat.lt_or_ge t vals.size with h | h
          · exact h
          · rw [List.getElem?_eq_none (by simpa using h)] at h1; cases h1
        show (vals ++ Array.replicate (fn.ntmps - vals.size) undef)[t]? = some u
        rw [Array.getElem?_append_left hlt]
        simpa using h1 }
  refine code_sound (Fr := FdOf C.gl w S g.ins.h.length) (K0 := retK C g.ins.h.length g.outs up fn.results.toList) (r := y) hC hm hsg rfl (fun p cut hc z => h0 p cut hc z y) (fun k s hs cut hc z hz => h1 k s hs cut hc z y hz) ?_ k hk hInv
  intro ex e a' w' S' hK hI'
  have main : (((resA C e.t.get fn.results.toList).bind fun vs => (resV vs).bind fun v => fit g.outs (fun i => bif Nat.beq i 0 then some v else none) (FS.own g.ins.h.length)).runK e.h.get [] fun y _ => some (up y.1)) = some y →
      a'.defers = [] ∧ ∃ v, (results fn a'.tmps).run P w' = .ok v w' ∧ (∃ v' S', Ending.returned v = .returned v' ∧ (∃ p r, encT g.outs.t (g.dn y).1 = [(p, r)] ∧ RepA w' S' r v') ∧ Inv (FdOf C.gl w S g.ins.h.length) 0 S' ⟨[], encH 0 g.outs.h (g.dn y).2⟩ noAct w') := fun hK => by
    obtain ⟨⟨z, s⟩, F, q1, q2⟩ := RM.run_runK hK
    simp only [Option.some.injEq] at q2
    subst q2
    obtain ⟨vs, F1, F2, q3, q4, _⟩ := RM.run_bind q1
    obtain ⟨v, F3, F4, q5, q6, _⟩ := RM.run_bind q4
    obtain ⟨u, r1, r2⟩ := results_rep hC rfl hI' q3 q5
    refine ⟨hI'.defers, u, r1, u, s.view S', rfl, ?_⟩
    have hget : ∀ i x, (fun i => bif Nat.beq i 0 then some v else none) i = some x → ∃ u', (fun i => if i = 0 then some u else none) i = some u' ∧ RepA w' S' x u' := fun i x hi => by
      have hi' : (bif Nat.beq i 0 then some v else none) = some x := hi
      cases hb : Nat.beq i 0 with
      | true => rw [hb] at hi'; cases hi'; exact ⟨u, by simp only; rw [if_pos (beq_iff.1 hb)], r2⟩
      | false => rw [hb] at hi'; cases hi'
    obtain ⟨l1, o1, g1, A1, _, _, _⟩ := fit_anew hI' hget (own_ok hI') q6
    rw [hup]
    constructor
    · have hl : (encT g.outs.t z.1).length = 1 := by rw [encT_length, hone]
      match hE : encT g.outs.t z.1, hl with
      | [(p, r)], _ =>
        obtain ⟨u', k1, k2⟩ := g1 0 p r (by rw [hE]; rfl)
        have k1 : (if p = 0 then some u else none) = some u' := k1
        split at k1
        · simp only [Option.some.injEq] at k1; subst k1; exact ⟨p, r, rfl, k2⟩
        · cases k1
    · have := A1.inv (T := []) hI' (fun t v ht => by cases ht) fun j hj => o1.sees.m j j (l1.m j j (own_has hj))
      exact { this with defers := rfl, size := rfl, tmps := fun t v ht => by cases ht }
  cases ex with
  | normal => exact main hK
  | ret => exact main hK
  | exit i => cases hK
end
end Go.Eng
