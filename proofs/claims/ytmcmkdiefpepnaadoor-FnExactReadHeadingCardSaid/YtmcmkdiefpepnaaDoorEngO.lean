/-
  The engine, fifteenth part: calls; and every operation.
-/
import Derived.Test.YtmcmkdiefpepnaaDoorEngN
import Derived.Test.YtmcmkdiefpepnaaDoorEngGq
set_option linter.unusedVariables false
set_option linter.unusedSimpArgs false
namespace Go.Eng

/-- A function of the program's that has a body and is none of the model's own. -/
def callable (P : Program) (f : FuncId) : Bool := match P.funcs[f]? with
  | some fn => !(fn.name == "runtime.NumGoroutine") && fn.body.isSome
  | none => false

section
variable {P : Program} {C : Ctx} {Fr : Fd} {S : St} {o : Oper} {e : Env} {a : Act} {w : World} {r : Res} {F : List Nat}

theorem RepAs.get : ∀ {xs : List AVal} {vs : List Value}, RepAs w S xs vs → ∀ (i : Nat) v, xs[i]? = some v → ∃ u, vs[i]? = some u ∧ RepA w S v u
  | [], [], _, i, v, h => by simp at h
  | x :: xs, u :: vs, hr, 0, v, h => by simp at h; subst h; exact ⟨u, rfl, hr.1⟩
  | x :: xs, u :: vs, hr, i + 1, v, h => by obtain ⟨u', h1, h2⟩ := RepAs.get hr.2 i v (by simpa using h); exact ⟨u', by simpa using h1, h2⟩
theorem RepAs.length : ∀ {xs : List AVal} {vs : List Value}, RepAs w S xs vs → xs.length = vs.length
  | [], [], _ => rfl
  | _ :: _, _ :: _, h => by simp [RepAs.length h.2]
theorem RepAs.append : ∀ {xs ys : List AVal} {vs us : List Value}, RepAs w S xs vs → RepAs w S ys us → RepAs w S (xs ++ ys) (vs ++ us)
  | [], _, [], _, _, h => h
  | _ :: _, _, _ :: _, _, h, k => ⟨h.1, RepAs.append h.2 k⟩
theorem RepAs.mk : ∀ {xs : List AVal} {vs : List Value}, xs.length = vs.length → (∀ (i : Nat) v, xs[i]? = some v → ∃ u, vs[i]? = some u ∧ RepA w S v u) → RepAs w S xs vs
  | [], [], _, _ => trivial
  | x :: xs, v :: vs, hl, h => by
    refine ⟨?_, RepAs.mk (by simpa using hl) fun i u hi => ?_⟩
    · obtain ⟨u, h1, h2⟩ := h 0 x rfl
      simp at h1; subst h1; exact h2
    · obtain ⟨u', h1, h2⟩ := h (i + 1) u (by simpa using hi)
      exact ⟨u', by simpa using h1, h2⟩
  | [], _ :: _, hl, _ => by simp at hl
  | _ :: _, [], hl, _ => by simp at hl
theorem keysOk_get : ∀ {l : List (Nat × SA)} {j : Nat}, keysOk j l = true → ∀ (i : Nat) p, l[i]? = some p → p.1 = j + i
  | [], _, _, i, p, h => by simp at h
  | q :: l, j, hk, i, p, h => by
    simp only [keysOk, Bool.and_eq_true] at hk
    cases i with
    | zero => simp at h; subst h; exact beq_iff.1 hk.1
    | succ i => have := keysOk_get hk.2 i p (by simpa using h); omega
theorem encT_key : ∀ {l : List (Nat × SA)} {x : denT l} {i p : Nat} {v : AVal}, (encT l x)[i]? = some (p, v) → ∃ sa, l[i]? = some (p, sa)
  | [], _, _, _, _, h => by simp [encT] at h
  | q :: l, x, 0, p, v, h => by simp [encT] at h; exact ⟨q.2, by simp [← h.1]⟩
  | q :: l, x, i + 1, p, v, h => by obtain ⟨sa, h1⟩ := encT_key (i := i) (by simpa [encT] using h); exact ⟨sa, by simpa using h1⟩
theorem encT_length : ∀ (l : List (Nat × SA)) (x : denT l), (encT l x).length = l.length
  | [], _ => rfl
  | _ :: l, x => by simp [encT, encT_length l]

theorem FS.Ok.empty {h : Nat → Option Obj} : FS.Ok h S ⟨[], [], []⟩ :=
  ⟨fun j n hj => by simp [FS.nameOf, AL.get] at hj, fun i j n hi => by simp [FS.nameOf, AL.get] at hi, fun j n ob hj => by simp [FS.nameOf, AL.get] at hj, fun n ob h => by simp at h, fun j h => by simp at h⟩

theorem did_callA (hC : C.Ok P) (hsg : ∀ f g, C.sg f = some g → callable P f = true ∧ Sound P C.gl f g) (hgl : Fr.gl = C.gl) (hI : Inv Fr C.nt S e a w) {c : Call} {fo : Operand} {f : FuncId} {caps : List Nat} {xs : List AVal}
    (ho : o.op = .call c) (hcv : c.callee = .value fo) (hf : evalA e.t.get fo = some (.c (.fn f caps))) (hxs : argsA e.t.get c.args.toList = some xs)
    (hx : (callA C (o.dst.getD 0) f (xs ++ caps.map fun n => .c (.ptr n 0))).run e.h.get = some (r, F)) (hw : writesOk e.h F.reverse r = true) : Did P Fr C.nt o e a w r := by
  obtain ⟨⟨vs, hfv, hvl, hvs⟩, _⟩ := evalA_rep hI hf
  unfold callA at hx
  cases hg : C.sg f with
  | none => rw [hg] at hx; exact run_fail hx
  | some g =>
    obtain ⟨hcall, hsound⟩ := hsg f g hg
    rw [hg] at hx
    simp only at hx
    cases hb : (Nat.beq (xs ++ caps.map fun n => AVal.c (.ptr n 0)).length g.ins.t.length && Nat.ble g.ins.h.length g.outs.h.length && keysOk 0 g.ins.t && g.ins.h.all SO.live) with
    | false => rw [hb] at hx; exact run_fail hx
    | true =>
      rw [hb] at hx
      simp only [Bool.and_eq_true] at hb
      obtain ⟨⟨⟨hb1, hb2⟩, hb3⟩, hb4⟩ := hb
      have hlen := beq_iff.1 hb1
      have hle := Nat.le_of_ble_eq_true hb2
      obtain ⟨⟨x, s⟩, F1, F2, e1, e2, hF⟩ := RM.run_bind hx
      simp only at e2
      cases hz : s.z.isEmpty with
      | false => rw [hz] at e2; exact run_fail e2
      | true =>
        rw [hz] at e2
        have hz' : s.z = [] := by simpa using hz
        simp only [cond_true, RM.run] at e2
        cases hy : g.fn x with
        | none => rw [hy] at e2; cases e2
        | some y =>
          rw [hy] at e2
          -- the arguments
          have hargs : RepAs w S (xs ++ caps.map fun n => AVal.c (.ptr n 0)) (c.args.toList.map a.eval ++ vs) := by
            refine (argsA_rep hI hxs).append (RepAs.mk (by simp [hvl]) fun i v hi => ?_)
            rw [List.getElem?_map] at hi
            cases hc : caps[i]? with
            | none => rw [hc] at hi; cases hi
            | some n =>
              rw [hc] at hi; cases hi
              obtain ⟨b, h1, h2⟩ := hvs i n hc
              exact ⟨_, h2, ⟨b, h1, rfl⟩, rfl⟩
          obtain ⟨l1, o1, r1, A1, m1, t1, wi⟩ := fit_anew hI (val := fun i => (c.args.toList.map a.eval ++ vs)[i]?) (fun i v hi => hargs.get i v hi) FS.Ok.empty e1
          have hlive : ∀ j o', AL.get (encH 0 g.ins.h x.2) j = some o' → o'.mut = true := fun j o' hj => by
            obtain ⟨k, hk⟩ := AL.get_mem hj
            have liv : ∀ (l : List SO) (i k : Nat) (x : denO l) (p : Nat × Obj), l.all SO.live = true → (encH i l x)[k]? = some p → p.2.mut = true := fun l => by
              induction l with
              | nil => intro i k x p _ h; simp [encH] at h
              | cons so l ih =>
                intro i k x p hl h
                simp only [List.all_cons, Bool.and_eq_true] at hl
                cases k with
                | zero => simp [encH] at h; subst h; cases so <;> first | rfl | cases hl.1
                | succ k => exact ih (i + 1) k x.2 p hl.2 (by simpa [encH] using h)
            exact liv _ _ _ _ _ hb4 hk
          have hpass : ∀ j, j < g.ins.h.length → ∃ n ob v, s.nameOf j = some n ∧ e.h.get n = some ob ∧ ob.mut = true ∧ S.val n = some v := fun j hj => by
            rcases t1 j hj with h | ⟨n, hn⟩
            · rw [hz'] at h; cases h
            · obtain ⟨o', ho'⟩ := encH_some (l := g.ins.h) (j := 0) (x := x.2) (i := j) (Nat.zero_le _) (by omega)
              obtain ⟨ob, h1, h2⟩ := m1 j o' n ho' (hlive j o' ho') hn
              obtain ⟨v, hv⟩ := o1.val j n hn
              exact ⟨n, ob, v, hn, h1, h2, hv⟩
          have I0 := A1.call (np := g.ins.h.length) hI (fun j hj => by
            obtain ⟨n, ob, v, h1, h2, h3, h4⟩ := hpass j hj
            exact ⟨v, (o1.sees.m j n h1).trans h4⟩) (fun j o' hj => by
            obtain ⟨k, hk⟩ := AL.get_mem hj
            have := encH_mem (List.mem_of_getElem? hk); omega)
          have hargs' : RepAs w (s.view S) ((encT g.ins.t x.1).map (·.2)) (c.args.toList.map a.eval ++ vs) := by
            refine RepAs.mk (by rw [List.length_map, encT_length, ← hlen, hargs.length]) fun i v hi => ?_
            rw [List.getElem?_map] at hi
            cases hq : (encT g.ins.t x.1)[i]? with
            | none => rw [hq] at hi; cases hi
            | some pv =>
              obtain ⟨p, v'⟩ := pv
              rw [hq] at hi; cases hi
              obtain ⟨sa, hsa⟩ := encT_key hq
              have hp := keysOk_get hb3 i _ hsa
              obtain ⟨u, h1, h2⟩ := r1 i p _ hq
              simp only at hp
              rw [show p = i by omega] at h1
              exact ⟨u, h1, h2⟩
          have hval : (c.args.map a.eval ++ vs.toArray).toList = c.args.toList.map a.eval ++ vs := by simp
          have hcalls := hsound w (s.view S) (c.args.map a.eval ++ vs.toArray) x y (by rw [← hgl]; exact I0) (by rw [hval]; exact hargs') hy
          have hrun : (execOp a.eval o).run P w = .ok (.enter f (c.args.map a.eval ++ vs.toArray)) w := by
            have e3 : resolve a.eval c o.type = pure { target := .fn (.func f) vs.toArray, args := c.args.map a.eval } := by
              unfold resolve; rw [hcv]; show Deferred.ofValue (a.eval fo) _ = _; rw [hfv]; simp [Deferred.ofValue]
            unfold execOp; rw [ho]; show Sem.run P (resolve a.eval c o.type >>= fun d => invoke d.target d.args) w = _
            rw [e3]
            show Sem.run P (callFunc f (c.args.map a.eval ++ vs.toArray)) w = _
            unfold callable at hcall
            cases hfn : P.funcs[f]? with
            | none => rw [hfn] at hcall; cases hcall
            | some fn =>
              rw [hfn] at hcall
              simp only [Bool.and_eq_true, Bool.not_eq_true'] at hcall
              have hbody : fn.body.isNone = false := by cases hbb : fn.body <;> simp_all
              simp only [callFunc, Sem.run_bind, run_program, Result.andThen_ok, hfn, hcall.1, hbody, if_false, Bool.false_eq_true, Sem.run_pure]
          intro K Q hK
          unfold Oper.wp
          rw [hrun, Oper.upon_enter]
          refine hcalls.mono ?_
          rintro en w' ⟨v, S', rfl, ⟨p, v0, ht, hrv⟩, hI'⟩
          obtain ⟨S3, I3, hv3⟩ := back rfl hI (g := g) (x := x) (y := y) (s := s) (d := o.dst.getD 0) o1 A1 wi hle hpass (by rw [hgl]; exact hI') ht hrv e2 hw
          exact hK v w' S3 hv3 I3

theorem caps_rep : ∀ {vs : List AVal} {us : List Value} {ns : List Nat}, RepAs w S vs us → capNames vs = some ns → us.length = ns.length ∧ ∀ (i n : Nat), ns[i]? = some n → ∃ b, S.val n = some (.pointer (some ⟨b, 0, none⟩)) ∧ us[i]? = some (Value.pointer (some ⟨b, 0, none⟩))
  | [], [], ns, _, h => by simp only [capNames, Option.some.injEq] at h; subst h; exact ⟨rfl, fun i n hi => by simp at hi⟩
  | .c (.ptr n o) :: vs, u :: us, ns, hr, h => by
    simp only [capNames] at h
    cases hb : Nat.beq o 0 with
    | false => rw [hb] at h; cases h
    | true =>
      rw [hb] at h
      have := beq_iff.1 hb
      subst this
      cases hc : capNames vs with
      | none => rw [hc] at h; cases h
      | some ms =>
        rw [hc] at h
        simp only [cond_true, Option.some.injEq] at h
        subst h
        obtain ⟨h1, h2⟩ := caps_rep hr.2 hc
        refine ⟨by simp [h1], fun i m hi => ?_⟩
        cases i with
        | zero =>
          simp only [List.getElem?_cons_zero, Option.some.injEq] at hi
          subst hi
          obtain ⟨⟨b, g1, g2⟩, _⟩ := hr.1
          exact ⟨b, g1, by simp [g2]⟩
        | succ i =>
          obtain ⟨b, g1, g2⟩ := h2 i m (by simpa using hi)
          exact ⟨b, g1, by simpa using g2⟩
  | .c (.int ..) :: _, _, _, _, h | .c (.bool _) :: _, _, _, _, h | .c (.str _) :: _, _, _, _, h | .c (.flt _) :: _, _, _, _, h | .c (.sl ..) :: _, _, _, _, h | .c .nil :: _, _, _, _, h | .c (.ref _) :: _, _, _, _, h | .c (.eptr ..) :: _, _, _, _, h
  | .c (.vptr ..) :: _, _, _, _, h | .c (.gptr ..) :: _, _, _, _, h | .c (.fn ..) :: _, _, _, _, h | .c (.opq _) :: _, _, _, _, h | .agg _ :: _, _, _, _, h | .tup _ :: _, _, _, _, h => by cases h
  | [], _ :: _, _, hr, _ => hr.elim
  | .c (.ptr ..) :: _, [], _, hr, _ => hr.elim

theorem did_makeFunc (hI : Inv Fr C.nt S e a w) {fn : Fn} {first caps : Array Operand} (ho : o.op = .makeFunc fn first caps) (hx : (effA C e.t.get o.dst o.op).run e.h.get = some (r, F)) : Did P Fr C.nt o e a w r := by
  rw [ho] at hx
  cases fn with
  | func f =>
    simp only [effA] at hx
    cases hf : first.toList with
    | cons _ _ => rw [hf] at hx; exact run_fail hx
    | nil =>
      rw [hf] at hx
      have hf' : first = #[] := by cases first; simpa using hf
      cases hv : argsA e.t.get caps.toList with
      | none => rw [hv] at hx; exact run_fail hx
      | some vs =>
        rw [hv] at hx
        simp only at hx
        cases hc : capNames vs with
        | none => rw [hc] at hx; exact run_fail hx
        | some ns =>
          rw [hc] at hx
          obtain ⟨rfl, rfl⟩ := run_ret (h := e.h.get) hx
          obtain ⟨h1, h2⟩ := caps_rep (argsA_rep hI hv) hc
          refine did_pure hI (v := .func (.func f) #[] (caps.toList.map a.eval).toArray) ?_ ⟨⟨_, rfl, h1, h2⟩, rfl⟩
          simp [execOp, ho, hf', Instr.makeFunc]
          cases caps
          simp
  | _ => exact run_fail hx

/-- **Every operation does what the engine says.** -/
theorem did_op (hC : C.Ok P) (hsg : ∀ f g, C.sg f = some g → callable P f = true ∧ Sound P C.gl f g) (hgl : Fr.gl = C.gl) (hI : Inv Fr C.nt S e a w)
    (hx : (effA C e.t.get o.dst o.op).run e.h.get = some (r, F)) (hw : writesOk e.h F.reverse r = true) : Did P Fr C.nt o e a w r := by
  cases ho : o.op with
  | move x => exact did_move hI (.inl ho) hx
  | assign x => exact did_move hI (.inr ho) hx
  | pick c x y => exact did_pick hI ho hx
  | alloc t => exact did_alloc hC hI ho hx hw
  | box t x => exact did_box hI ho hx hw
  | build t ps => exact did_build hC hI ho hx
  | buildSlice t n ps => exact did_buildSlice hC hI ho hx hw
  | makeSlice t x y => exact did_makeSlice hC hI ho hx hw
  | load t x => exact did_load hC hgl hI ho hx
  | store t x y => exact did_store hC hI ho hx
  | nilCheck x => exact did_nilCheck hI ho hx
  | binOp op t x y u =>
    by_cases hag : ∃ xs ys, evalA e.t.get x = some (.agg xs) ∧ evalA e.t.get y = some (.agg ys)
    · obtain ⟨xs, ys, h1, h2⟩ := hag
      exact did_eq hC hI ho h1 h2 hx
    · exact did_bin hC hI ho (fun xs ys v h1 h2 h3 => hag ⟨xs, ys, h1, h2⟩) hx
  | unOp op t x => exact did_un hI ho hx
  | convert s t x => exact did_conv hC hI ho hx
  | slice t x lo hi mx => exact did_slice hC hI ho hx
  | fieldAddr t x f => exact did_fieldAddr hC hI ho hx
  | field t x f => exact did_field hC hI ho hx
  | indexAddr t x y => exact did_indexAddr hC hgl hI ho hx
  | index t x y => exact did_index hC hI ho hx
  | extract x i => exact did_extract hI ho hx
  | makeFunc fn first caps => exact did_makeFunc hI ho hx
  | call c =>
    rw [ho] at hx
    simp only [effA] at hx
    cases hxs : argsA e.t.get c.args.toList with
    | none => rw [hxs] at hx; exact run_fail hx
    | some xs =>
      rw [hxs] at hx
      simp only at hx
      cases hcc : c.callee with
      | builtin b => rw [hcc] at hx; exact did_builtin hC hI ho hcc hxs hx hw
      | invoke rc m => rw [hcc] at hx; exact run_fail hx
      | value fo =>
        rw [hcc] at hx
        simp only at hx
        cases hfo : evalA e.t.get fo with
        | none => rw [hfo] at hx; exact run_fail hx
        | some v =>
          rw [hfo] at hx
          match v, hfo, hx with
          | .c (.fn f caps), hfo, hx => exact did_callA hC hsg hgl hI ho hcc hfo hxs hx hw
          | .c (.int ..), _, hx | .c (.bool _), _, hx | .c (.str _), _, hx | .c (.flt _), _, hx | .c (.sl ..), _, hx | .c .nil, _, hx | .c (.ref _), _, hx | .c (.ptr ..), _, hx | .c (.eptr ..), _, hx | .c (.vptr ..), _, hx | .c (.gptr ..), _, hx
          | .c (.opq _), _, hx | .agg _, _, hx | .tup _, _, hx => exact run_fail hx
  | _ => rw [ho] at hx; exact run_fail hx
end
end Go.Eng
