/-
  The engine, third part: each operation of the model does what the engine says. No condition but what each theorem says.
-/
import Derived.Test.YtmcmkdiefpepnaaDoorEngB
import Derived.Deep.MidRow
import Derived.Laws.Small
import Derived.Laws.Strings
import Derived.Laws.Slices
set_option linter.unusedVariables false
set_option linter.unusedSimpArgs false
namespace Go.Eng

/-! ### What it means to have run -/
theorem RM.run_bind {α β : Type} {h : Nat → Option Obj} : ∀ {m : RM α} {f : α → RM β} {b : β} {F : List Nat}, (m.bind f).run h = some (b, F) →
    ∃ a F1 F2, m.run h = some (a, F1) ∧ (f a).run h = some (b, F2) ∧ F = F1 ++ F2
  | .ret a, f, b, F, H => ⟨a, [], F, rfl, H, rfl⟩
  | .fail, f, b, F, H => by simp [RM.bind, RM.run] at H
  | .look n k, f, b, F, H => by
    simp only [RM.bind, RM.run] at H
    cases hn : h n with
    | none => simp [hn] at H
    | some o =>
      simp only [hn] at H
      cases hk : ((k o).bind f).run h with
      | none => simp [hk] at H
      | some p =>
        obtain ⟨b', F'⟩ := p
        simp only [hk, Option.some.injEq, Prod.mk.injEq] at H
        obtain ⟨rfl, rfl⟩ := H
        obtain ⟨a, F1, F2, h1, h2, rfl⟩ := RM.run_bind hk
        exact ⟨a, n :: F1, F2, by simp [RM.run, hn, h1], h2, rfl⟩
  | .ite c t e, f, b, F, H => by
    simp only [RM.bind, RM.run] at H
    cases c with
    | true => obtain ⟨a, F1, F2, h1, h2, h3⟩ := RM.run_bind (by simpa using H); exact ⟨a, F1, F2, by simpa [RM.run] using h1, h2, h3⟩
    | false => obtain ⟨a, F1, F2, h1, h2, h3⟩ := RM.run_bind (by simpa using H); exact ⟨a, F1, F2, by simpa [RM.run] using h1, h2, h3⟩
  | .bnd o k, f, b, F, H => by
    cases o with
    | none => simp [RM.bind, RM.run] at H
    | some y =>
      simp only [RM.bind, RM.run] at H
      obtain ⟨a, F1, F2, h1, h2, h3⟩ := RM.run_bind H; exact ⟨a, F1, F2, by simpa [RM.run] using h1, h2, h3⟩
theorem RM.run_asks {α : Type} {h : Nat → Option Obj} {b : Bool} {m : RM α} {r : α × List Nat} (H : (RM.asks b m).run h = some r) : b = true ∧ m.run h = some r := by
  cases b <;> simp [RM.asks, RM.run] at H ⊢
  exact H
theorem RM.run_look {α : Type} {h : Nat → Option Obj} {n : Nat} {k : Obj → RM α} {a : α} {F : List Nat} (H : (RM.look n k).run h = some (a, F)) :
    ∃ o F', h n = some o ∧ (k o).run h = some (a, F') ∧ F = n :: F' := by
  simp only [RM.run] at H
  cases hn : h n with
  | none => simp [hn] at H
  | some o =>
    simp only [hn] at H
    cases hk : (k o).run h with
    | none => simp [hk] at H
    | some p =>
      simp only [hk, Option.some.injEq, Prod.mk.injEq] at H
      obtain ⟨rfl, rfl⟩ := H
      exact ⟨o, p.2, rfl, by rw [hk], rfl⟩
theorem RM.run_runK {α R : Type} {h : Nat → Option Obj} : ∀ {m : RM α} {F : List Nat} {K : α → List Nat → Option R} {r : R}, m.runK h F K = some r →
    ∃ a F', m.run h = some (a, F') ∧ K a (F'.reverse ++ F) = some r
  | .ret a, F, K, r, H => ⟨a, [], rfl, by simpa [RM.runK] using H⟩
  | .fail, F, K, r, H => by simp [RM.runK] at H
  | .look n k, F, K, r, H => by
    simp only [RM.runK] at H
    cases hn : h n with
    | none => simp [hn] at H
    | some o =>
      simp only [hn] at H
      obtain ⟨a, F', h1, h2⟩ := RM.run_runK H
      exact ⟨a, n :: F', by simp [RM.run, hn, h1], by simpa using h2⟩
  | .ite c t e, F, K, r, H => by
    simp only [RM.runK] at H
    cases c with
    | true => obtain ⟨a, F', h1, h2⟩ := RM.run_runK (by simpa using H); exact ⟨a, F', by simpa [RM.run] using h1, h2⟩
    | false => obtain ⟨a, F', h1, h2⟩ := RM.run_runK (by simpa using H); exact ⟨a, F', by simpa [RM.run] using h1, h2⟩
  | .bnd o k, F, K, r, H => by
    simp only [RM.runK] at H
    cases o with
    | none => simp at H
    | some y => obtain ⟨a, F', h1, h2⟩ := RM.run_runK (by simpa using H); exact ⟨a, F', by simpa [RM.run] using h1, h2⟩

/-! ### Cells of values -/
section
variable {w : World} {S : St}
theorem RepL.length : ∀ {cs : List Cell} {vs : List Value}, RepL w S cs vs → cs.length = vs.length
  | [], [], _ => rfl
  | _ :: _, _ :: _, h => by simp [RepL.length h.2]
theorem RepL.drop : ∀ (n : Nat) {cs : List Cell} {vs : List Value}, RepL w S cs vs → RepL w S (cs.drop n) (vs.drop n)
  | 0, _, _, h => h
  | _ + 1, [], [], _ => trivial
  | n + 1, _ :: _, _ :: _, h => RepL.drop n h.2
theorem RepL.take : ∀ (n : Nat) {cs : List Cell} {vs : List Value}, RepL w S cs vs → RepL w S (cs.take n) (vs.take n)
  | 0, _, _, _ => trivial
  | _ + 1, [], [], _ => trivial
  | n + 1, _ :: _, _ :: _, h => ⟨h.1, RepL.take n h.2⟩
theorem RepL.append : ∀ {cs ds : List Cell} {vs us : List Value}, RepL w S cs vs → RepL w S ds us → RepL w S (cs ++ ds) (vs ++ us)
  | [], _, [], _, _, h => h
  | _ :: _, _, _ :: _, _, h, k => ⟨h.1, RepL.append h.2 k⟩
theorem RepL.slice {cs : List Cell} {vs : List Value} (h : RepL w S cs vs) (o n : Nat) : RepL w S (sliceC cs o n) ((vs.drop o).take n) := RepL.take n (RepL.drop o h)
theorem RepL.put {cs new : List Cell} {vs us : List Value} (h : RepL w S cs vs) (k : RepL w S new us) (o : Nat) : RepL w S (putC cs o new) (vs.take o ++ (us ++ vs.drop (o + us.length))) := by
  unfold putC
  rw [k.length]
  exact (RepL.take o h).append (k.append (RepL.drop _ h))

theorem SlV.one {k : Kind} {xs : List k.den} {v : Value} (h : SlV w S.imm k xs v) : v.oneCell' = true := by
  obtain ⟨a, len, cap, h, _⟩ := h
  cases h; rfl
/-- A value of a kind, as cells. -/
theorem RepK.cells : ∀ {k : Kind} {x : k.den} {f : Nat → Option Value}, RepK w S.imm k x f →
    ∃ vs : List Value, vs.length = k.sz ∧ (∀ j, j < k.sz → f j = vs[j]?) ∧ RepL w S (emb k x) vs ∧ ∀ u ∈ vs, u.oneCell' = true
  | .int k, n, f, h => ⟨[.int k n], rfl, fun j hj => by (have : j = 0 := by simp [Kind.sz] at hj; exact hj); subst this; exact h, ⟨rfl, trivial⟩, fun u hu => by simp at hu; subst hu; rfl⟩
  | .bool, b, f, h => ⟨[.bool b], rfl, fun j hj => by (have : j = 0 := by simp [Kind.sz] at hj; exact hj); subst this; exact h, ⟨rfl, trivial⟩, fun u hu => by simp at hu; subst hu; rfl⟩
  | .str, s, f, h => ⟨[.string s], rfl, fun j hj => by (have : j = 0 := by simp [Kind.sz] at hj; exact hj); subst this; exact h, ⟨rfl, trivial⟩, fun u hu => by simp at hu; subst hu; rfl⟩
  | .flt, n, f, h => by
    obtain ⟨b, h1, h2⟩ := h
    exact ⟨[.float .f64 b], rfl, fun j hj => by (have : j = 0 := by simp [Kind.sz] at hj; exact hj); subst this; exact h1, ⟨⟨b, rfl, h2⟩, trivial⟩, fun u hu => by simp at hu; subst hu; rfl⟩
  | .sl k, xs, f, h => by
    obtain ⟨a, len, cap, h1, h2⟩ := h
    exact ⟨[.slice a len cap], rfl, fun j hj => by (have : j = 0 := by simp [Kind.sz] at hj; exact hj); subst this; exact h1, ⟨⟨a, len, cap, rfl, h2⟩, trivial⟩, fun u hu => by simp at hu; subst hu; rfl⟩
  | .pair a b, x, f, h => by
    obtain ⟨us, u1, u2, u3, u4⟩ := RepK.cells h.1
    obtain ⟨vs, v1, v2, v3, v4⟩ := RepK.cells h.2
    refine ⟨us ++ vs, by simp [Kind.sz, u1, v1], fun j hj => ?_, u3.append v3, fun u hu => ?_⟩
    · by_cases hlt : j < a.sz
      · rw [u2 j hlt, List.getElem?_append_left (by omega)]
      · have := v2 (j - a.sz) (by simp only [Kind.sz] at hj; omega)
        rw [show a.sz + (j - a.sz) = j by omega] at this
        rw [this, List.getElem?_append_right (by omega), u1]
    · rw [List.mem_append] at hu
      exact hu.elim (u4 u) (v4 u)
/-- Back. -/
theorem RepL.proj : ∀ {k : Kind} {cs : List Cell} {vs : List Value} {x : k.den} {r : List Cell}, RepL w S cs vs → Eng.proj k cs = some (x, r) →
    RepK w S.imm k x (fun j => vs[j]?) ∧ RepL w S r (vs.drop k.sz) ∧ k.sz ≤ vs.length
  | .int k, c :: cs, v :: vs, x, r, h, hp => by
    cases c <;> simp only [Eng.proj] at hp <;> try cases hp
    rename_i k' n
    cases hk : sameI k k' with
    | false => simp [hk] at hp
    | true =>
      simp only [hk, cond_true, Option.some.injEq, Prod.mk.injEq] at hp
      obtain ⟨rfl, rfl⟩ := hp
      have hkk : k = k' := by cases k <;> cases k' <;> first | rfl | cases hk
      subst hkk
      exact ⟨by simp only [RepK]; exact congrArg some h.1, h.2, by simp [Kind.sz]⟩
  | .bool, c :: cs, v :: vs, x, r, h, hp => by
    cases c <;> simp only [Eng.proj] at hp <;> cases hp
    exact ⟨by simp only [RepK]; exact congrArg some h.1, h.2, by simp [Kind.sz]⟩
  | .str, c :: cs, v :: vs, x, r, h, hp => by
    cases c <;> simp only [Eng.proj] at hp <;> cases hp
    exact ⟨by simp only [RepK]; exact congrArg some h.1, h.2, by simp [Kind.sz]⟩
  | .flt, c :: cs, v :: vs, x, r, h, hp => by
    cases c <;> simp only [Eng.proj] at hp <;> cases hp
    obtain ⟨b, hb, hc⟩ := h.1
    exact ⟨⟨b, by simp [hb], hc⟩, h.2, by simp [Kind.sz]⟩
  | .sl k, c :: cs, v :: vs, x, r, h, hp => by
    cases c <;> simp only [Eng.proj] at hp <;> try cases hp
    · rename_i k' xs
      split at hp
      · rename_i hk
        subst hk
        cases hp
        exact ⟨h.1, h.2, by simp [Kind.sz]⟩
      · cases hp
    · have h1 : v = .slice none 0 0 := h.1
      subst h1
      exact ⟨⟨none, 0, 0, rfl, rfl, Nat.le_refl _, fun _ => rfl, .inl rfl⟩, h.2, by simp [Kind.sz]⟩
  | .pair a b, cs, vs, x, r, h, hp => by
    simp only [Eng.proj] at hp
    cases ha : Eng.proj a cs with
    | none => simp [ha] at hp
    | some p =>
      obtain ⟨y, r1⟩ := p
      simp only [ha] at hp
      cases hb : Eng.proj b r1 with
      | none => simp [hb] at hp
      | some q =>
        obtain ⟨z, r2⟩ := q
        simp only [hb, Option.some.injEq, Prod.mk.injEq] at hp
        obtain ⟨rfl, rfl⟩ := hp
        obtain ⟨h1, h2, h3⟩ := RepL.proj h ha
        obtain ⟨k1, k2, k3⟩ := RepL.proj h2 hb
        refine ⟨⟨h1, ?_⟩, by rw [List.drop_drop] at k2; exact k2, by simp at k3; simp only [Kind.sz]; omega⟩
        refine k1.keep (fun _ _ => rfl) (fun _ h => h) (fun j _ => ?_)
        simp
  | .int _, [], _, _, _, _, hp => by simp [Eng.proj] at hp
  | .bool, [], _, _, _, _, hp => by simp [Eng.proj] at hp
  | .str, [], _, _, _, _, hp => by simp [Eng.proj] at hp
  | .flt, [], _, _, _, _, hp => by simp [Eng.proj] at hp
  | .sl _, [], _, _, _, _, hp => by simp [Eng.proj] at hp
theorem RepL.proj1 {k : Kind} {cs : List Cell} {vs : List Value} {x : k.den} (h : RepL w S cs vs) (hp : Eng.proj1 k cs = some x) : RepK w S.imm k x (fun j => vs[j]?) ∧ vs.length = k.sz := by
  unfold Eng.proj1 at hp
  cases hq : Eng.proj k cs with
  | none => simp [hq] at hp
  | some p =>
    obtain ⟨y, r⟩ := p
    cases r with
    | cons c r => simp [hq] at hp
    | nil =>
      simp only [hq, Option.some.injEq] at hp
      subst hp
      obtain ⟨h1, h2, h3⟩ := h.proj hq
      refine ⟨h1, ?_⟩
      have := h2.length
      simp at this; omega
end

/-! ### Types -/
structure Ctx.Ok (C : Ctx) (P : Program) : Prop where
  ty : ∀ t i, C.ty t = some i → tiOf P t = some i
  mixed : P.follows .mixedOrders = true

/-- What a row of the table says. -/
structure TiOk (P : Program) (t : TypeId) (i : TI) : Prop where
  get : ∃ info d z, P.info? t = some info ∧ P.underlying t = some d ∧ info.zero = some z ∧ i.u = UD.of d ∧ i.size = info.size ∧ i.bytes = info.bytes ∧ i.agg = UD.isAgg (UD.of d) ∧
    i.zero = z.cells.toList.map ofValue ∧ (∀ v ∈ z.cells.toList, v.oneCell' = true) ∧ z.cells.size = info.size ∧
    i.fields = (match d with
      | .struct fs => fs.toList.map fun f => (f.type, f.offset, P.cellsOf f.type)
      | .array n e => (List.range n).map fun j => (e, j * P.cellsOf e, P.cellsOf e)
      | _ => []) ∧ partsIn P d = true
theorem tiOk {P : Program} {t : TypeId} {i : TI} (h : tiOf P t = some i) : TiOk P t i := by
  unfold tiOf at h
  cases h1 : P.info? t with
  | none => simp [h1] at h
  | some info =>
    cases h2 : P.underlying t with
    | none => simp [h1, h2] at h
    | some d =>
      simp only [h1, h2] at h
      cases h3 : info.zero with
      | none => simp [h3] at h
      | some z =>
        simp only [h3] at h
        cases h4 : ((z.cells.toList.all (·.oneCell') && Nat.beq z.cells.size info.size) && partsIn P d) with
        | false => rw [h4] at h; cases h
        | true =>
          rw [h4] at h
          simp only [cond_true, Option.some.injEq] at h
          simp only [Bool.and_eq_true, List.all_eq_true] at h4
          subst h
          exact ⟨info, d, z, h1, h2, h3, rfl, rfl, rfl, rfl, rfl, h4.1.1, beq_iff.1 h4.1.2, rfl, h4.2⟩

theorem ofValue_rep {w : World} {S : St} (v : Value) (h : v.oneCell' = true) : RepC w S (ofValue v) v := by
  cases v with
  | bool b => rfl
  | int k n => rfl
  | float k b =>
    cases k with
    | f32 => exact ⟨rfl, rfl⟩
    | f64 =>
      simp only [ofValue]
      cases hn : (FloatKind.f64.decode b).isNaN with
      | true => exact ⟨rfl, rfl⟩
      | false => exact ⟨b, rfl, by simp [canonF, hn]⟩
  | string s => rfl
  | slice a n c =>
    cases a with
    | some a => exact ⟨rfl, rfl⟩
    | none =>
      cases n with
      | succ n => exact ⟨rfl, rfl⟩
      | zero => cases c with
        | zero => rfl
        | succ c => exact ⟨rfl, rfl⟩
  | agg cs => cases h
  | tuple cs => cases h
  | _ => exact ⟨rfl, rfl⟩
theorem ofValues_rep {w : World} {S : St} : ∀ (vs : List Value), (∀ v ∈ vs, v.oneCell' = true) → RepL w S (vs.map ofValue) vs
  | [], _ => trivial
  | v :: vs, h => ⟨ofValue_rep v (h v (by simp)), ofValues_rep vs fun u hu => h u (by simp [hu])⟩

theorem evalA_rep {Fr : Fd} {nt : Nat} {S : St} {e : Env} {a : Act} {w : World} (h : Inv Fr nt S e a w) {x : Operand} {v : AVal} (hx : evalA e.t.get x = some v) : RepA w S v (a.eval x) := by
  cases x with
  | tmp t =>
    obtain ⟨u, h1, h2⟩ := h.tmps t v hx
    have : a.eval (.tmp t) = u := by simp [Act.eval, h1]
    rw [this]; exact h2
  | const c =>
    simp only [evalA] at hx
    cases c with
    | agg cs =>
      simp only [constA] at hx
      cases hc : cs.toList.all (·.oneCell') with
      | false => rw [hc] at hx; cases hx
      | true =>
        rw [hc] at hx
        simp only [cond_true, Option.some.injEq] at hx
        subst hx
        exact ⟨cs.toList, by simp [Act.eval], ofValues_rep _ (List.all_eq_true.1 hc)⟩
    | tuple cs => cases hx
    | _ => simp only [constA, Option.some.injEq] at hx; subst hx; exact ⟨ofValue_rep _ rfl, rfl⟩
  | global g => simp only [evalA, Option.some.injEq] at hx; subst hx; exact ⟨rfl, rfl⟩
  | func f => simp only [evalA, Option.some.injEq] at hx; subst hx; exact ⟨⟨[], rfl, rfl, fun i n hi => by simp at hi⟩, rfl⟩

theorem AVal.cells_rep {w : World} {S : St} {v : AVal} {u : Value} {b : Bool} {cs : List Cell} (h : RepA w S v u) (hc : v.cells = some (b, cs)) :
    RepL w S cs u.cells.toList ∧ RepB w S (b, cs) u := by
  cases v with
  | c x =>
    simp only [AVal.cells, Option.some.injEq, Prod.mk.injEq] at hc
    obtain ⟨rfl, rfl⟩ := hc
    have : u.cells = #[u] := by
      have := h.2
      cases u <;> first | rfl | cases this
    rw [this]
    exact ⟨⟨h.1, trivial⟩, h⟩
  | agg ds =>
    simp only [AVal.cells, Option.some.injEq, Prod.mk.injEq] at hc
    obtain ⟨rfl, rfl⟩ := hc
    obtain ⟨vs, rfl, h2⟩ := h
    exact ⟨by simpa [Value.cells] using h2, vs, rfl, h2⟩
  | tup l => cases hc

/-- Cells of one's own are single cells, if the struct's are. -/
theorem RepC.one {w : World} {S : St} {c : Cell} {v : Value} (h : RepC w S c v) : v.oneCell' = true := by
  cases c with
  | sl k xs => exact SlV.one h
  | ref n => exact h.2
  | flt n => obtain ⟨b, rfl, _⟩ := h; rfl
  | ptr n o => obtain ⟨b, _, rfl⟩ := h; rfl
  | eptr n sz i o => obtain ⟨b, len, cap, _, _, rfl⟩ := h; rfl
  | vptr k xs i o => obtain ⟨b, p, rfl, _⟩ := h; rfl
  | fn f caps => obtain ⟨vs, rfl, _⟩ := h; rfl
  | opq u => obtain ⟨rfl, h⟩ := h; exact h
  | int k n => have h1 : v = .int k n := h; subst h1; rfl
  | bool b => have h1 : v = .bool b := h; subst h1; rfl
  | str s => have h1 : v = .string s := h; subst h1; rfl
  | nil => have h1 : v = .slice none 0 0 := h; subst h1; rfl
  | gptr g o => have h1 : v = .pointer (some ⟨g, o, none⟩) := h; subst h1; rfl

theorem RepL.ones {w : World} {S : St} : ∀ {cs : List Cell} {vs : List Value}, RepL w S cs vs → ∀ u ∈ vs, u.oneCell' = true
  | [], [], _, u, hu => by cases hu
  | _ :: _, v :: vs, h, u, hu => by
    rcases List.mem_cons.1 hu with rfl | hu
    · exact h.1.one
    · exact RepL.ones h.2 u hu

/-! ### Loads -/
section
variable {P : Program} {w : World} {S : St}
theorem run_isAgg {t : TypeId} {i : TI} (h : TiOk P t i) : (isAgg t).run P w = .ok i.agg w := by
  obtain ⟨info, d, z, h1, h2, h3, h4, h5, h6, h7, _⟩ := h.get
  rw [h7]
  unfold isAgg
  rw [Sem.run_bind, run_underlying h2 w]
  cases d with
  | float k => cases k <;> rfl
  | _ => rfl
theorem run_size {t : TypeId} {i : TI} (h : TiOk P t i) : (sizeOf t).run P w = .ok i.size w := by
  obtain ⟨info, d, z, h1, h2, h3, h4, h5, _⟩ := h.get
  simp [sizeOf, typeInfo, h1, h5]
/-- What lies at a place is read as what it is. -/
theorem load_at {t : TypeId} {i : TI} (h : TiOk P t i) {b o : Nat} {cs : List Cell} {vs : List Value} {x : AVal} {hp : Nat → Option Obj} {F : List Nat} (hr : RepL w S cs vs) (hn : vs.length = i.size)
    (hc : ∀ (j : Nat) u, vs[j]? = some u → w.cell? ⟨b, o + j, none⟩ = some u) (hx : (aggOr i.agg cs).run hp = some (x, F)) :
    ∃ u, (loadVar t ⟨b, o, none⟩).run P w = .ok u w ∧ RepA w S x u := by
  have hag := run_isAgg (P := P) (w := w) h
  have hsz := run_size (P := P) (w := w) h
  unfold loadVar
  rw [Sem.run_bind, hag]
  simp only [Result.andThen_ok]
  cases ha : i.agg with
  | true =>
    simp only [aggOr, ha, cond_true, RM.run, Option.some.injEq, Prod.mk.injEq] at hx
    obtain ⟨rfl, rfl⟩ := hx
    have hl : (loadCells ⟨b, o, none⟩ vs.length).run P w = .ok vs.toArray w :=
      run_loadCells_list (P := P) w ⟨b, o, none⟩ vs (fun j v hv => by rw [Addr.add_mid]; exact hc j v hv)
    refine ⟨.agg vs.toArray, ?_, vs, rfl, hr⟩
    simp [hsz, ← hn, hl]
  | false =>
    simp only [aggOr, ha, cond_false] at hx
    match cs, vs, hr, hx with
    | [c], [v], hr, hx =>
      simp only [RM.run, Option.some.injEq, Prod.mk.injEq] at hx
      obtain ⟨rfl, rfl⟩ := hx
      refine ⟨v, ?_, hr.1, hr.1.one⟩
      have := hc 0 v rfl
      simp only [Nat.add_zero] at this
      simp [this]
    | [], _, _, hx => simp [RM.run] at hx
    | _ :: _ :: _, _, _, hx => simp [RM.run] at hx

theorem sliceC_len {cs : List Cell} {o n : Nat} (h : o + n ≤ cs.length) : (sliceC cs o n).length = n := by simp [sliceC]; omega

/-- Cells of an element that lies somewhere. -/
theorem load_elem {t : TypeId} {i : TI} (h : TiOk P t i) {k : Kind} {x : k.den} {b p o : Nat} {v : AVal} {hp : Nat → Option Obj} {F : List Nat} {f : Nat → Option Value}
    (hk : RepK w S.imm k x f) (hf : ∀ j, j < k.sz → w.cell? ⟨b, p + j, none⟩ = f j) (ho : o + i.size ≤ k.sz)
    (hx : (aggOr i.agg (sliceC (emb k x) o i.size)).run hp = some (v, F)) : ∃ u, (loadVar t ⟨b, p + o, none⟩).run P w = .ok u w ∧ RepA w S v u := by
  obtain ⟨vs, h1, h2, h3, h4⟩ := hk.cells
  refine load_at h (h3.slice o i.size) (by simp; omega) (fun j u hj => ?_) hx
  have hlt : j < i.size := by
    have := (List.getElem?_eq_some_iff.1 hj).1
    simp at this; omega
  rw [Nat.add_assoc, hf (o + j) (by omega), h2 (o + j) (by omega)]
  rw [List.getElem?_take, if_pos hlt, List.getElem?_drop] at hj
  exact hj

theorem load_ok {C : Ctx} (hC : C.Ok P) {Fr : Fd} (hgl : Fr.gl = C.gl) {nt : Nat} {e : Env} {a : Act} (hI : Inv Fr nt S e a w) {t : TypeId} {p x : AVal} {v : Value} {F : List Nat}
    (hp : RepA w S p v) (hx : (loadA C t p).run e.h.get = some (x, F)) : ∃ u, (Instr.loadAt t v).run P w = .ok u w ∧ RepA w S x u := by
  unfold loadA at hx
  cases hti : C.ty t with
  | none => simp [hti, RM.run] at hx
  | some i =>
    have hok := tiOk (hC.ty t i hti)
    simp only [hti] at hx
    have key : ∀ b o, v = .pointer (some ⟨b, o, none⟩) → ∀ u, (loadVar t ⟨b, o, none⟩).run P w = .ok u w → (Instr.loadAt t v).run P w = .ok u w := by
      rintro b o rfl u hu
      simp [Instr.loadAt, Instr.sureAddr, hu]
    match p, hp, hx with
    | .c (.ptr n o), hp, hx =>
      obtain ⟨b, hv, rfl⟩ := hp.1
      obtain ⟨ob, F', hn, hx, _⟩ := RM.run_look hx
      cases ob with
      | box t' cs =>
        simp only at hx
        obtain ⟨b', vs, h1, h2, h3, _⟩ := hI.objs n _ hn
        rw [hv] at h1; cases h1
        cases hle : Nat.ble (o + i.size) cs.length with
        | false => simp [hle, RM.run] at hx
        | true =>
          simp only [hle, cond_true] at hx
          have hle' := Nat.le_of_ble_eq_true hle
          have hlen := h3.length
          obtain ⟨u, hu, hr⟩ := load_at (b := b) (o := o) hok (h3.slice o i.size) (by simp; omega) (fun j u hj => by
            have hlt : j < i.size := by
              have := (List.getElem?_eq_some_iff.1 hj).1
              simp at this; omega
            rw [List.getElem?_take, if_pos hlt, List.getElem?_drop] at hj
            rw [cell_of_row w b _ _ _ _ h2]
            simpa using hj) hx
          exact ⟨u, key b o rfl u hu, hr⟩
      | _ => simp [RM.run] at hx
    | .c (.eptr n sz j o), hp, hx =>
      obtain ⟨b, len, cap, hv, hj0, rfl⟩ := hp.1
      obtain ⟨ob, F', hn, hy, _⟩ := RM.run_look hx
      cases ob with
      | lst e' k xs =>
        simp only at hy
        cases hc : (Nat.beq k.sz sz && Nat.ble (o + i.size) sz) with
        | false => simp [hc, RM.run] at hy
        | true =>
          simp only [hc, cond_true] at hy
          obtain ⟨hd, hz⟩ := RM.run_asks hy
          simp only [Bool.and_eq_true] at hc
          have hsz := beq_iff.1 hc.1
          subst hsz
          have hle := Nat.le_of_ble_eq_true hc.2
          have hlt : j.toNat < xs.length := by have := of_decide_eq_true hd; omega
          obtain ⟨v', flat, h1, h2, h3, _⟩ := hI.objs n _ hn
          rw [hv] at h1; cases h1
          have hrd : xs[j.toNat]? = some (rd k xs j) := by simp [rd, List.getD, List.getElem?_eq_getElem hlt]
          have hcell : ∀ c, c < k.sz → w.cell? ⟨b, j.toNat * k.sz + c, none⟩ = flat[j.toNat * k.sz + c]? := fun c hc => by
            rcases h2.2 with ⟨h, _⟩ | ⟨g, cap', cur, h, _, hg, _, _, _, htake⟩
            · cases h
            · cases h
              rw [cell_of_row w b _ cur e' (0, 0) hg, ← htake, List.getElem?_take, if_pos (by
                have : (j.toNat + 1) * k.sz ≤ xs.length * k.sz := Nat.mul_le_mul_right _ hlt
                rw [Nat.add_mul, Nat.one_mul] at this; omega)]
              simp
          obtain ⟨u, hu, hr⟩ := load_elem (b := b) (p := j.toNat * k.sz) hok (h3 _ _ hrd) hcell hle hz
          exact ⟨u, key _ _ rfl u hu, hr⟩
      | _ => simp [RM.run] at hy
    | .c (.vptr k xs j o), hp, hx =>
      obtain ⟨b, q, rfl, him, hj0, hlt, h5⟩ := hp.1
      cases hle : Nat.ble (o + i.size) k.sz with
      | false => simp [hle, RM.run] at hx
      | true =>
        simp only [hle, cond_true] at hx
        have hrd : xs[j.toNat]? = some (rd k xs j) := by simp [rd, List.getD, List.getElem?_eq_getElem hlt]
        obtain ⟨u, hu, hr⟩ := load_elem (b := b) (p := q + j.toNat * k.sz) hok (h5 _ _ hrd) (fun _ _ => rfl) (Nat.le_of_ble_eq_true hle) hx
        exact ⟨u, key _ _ rfl u hu, hr⟩
    | .c (.gptr g o), hp, hx =>
      have hv : v = .pointer (some ⟨g, o, none⟩) := hp.1
      subst hv
      cases hg : C.gl g with
      | none => simp [hg, RM.run] at hx
      | some cs =>
        simp only [hg] at hx
        cases hle : Nat.ble (o + i.size) cs.length with
        | false => simp [hle, RM.run] at hx
        | true =>
          simp only [hle, cond_true] at hx
          obtain ⟨_, vs, h3', _, h5, _⟩ := hI.glob g cs (by rw [hgl]; exact hg)
          have h3 : RepL w S cs vs := RepL.keep (S := ⟨fun _ => none, S.imm⟩) (S' := S) ⟨(fun _ _ h => nomatch h), fun _ h => h⟩ (fun _ _ => rfl) h3'
          have hlen := h3.length
          have hle' := Nat.le_of_ble_eq_true hle
          obtain ⟨u, hu, hr⟩ := load_at (b := g) (o := o) hok (h3.slice o i.size) (by simp; omega) (fun j u hj => by
            have hlt : j < i.size := by
              have := (List.getElem?_eq_some_iff.1 hj).1
              simp at this; omega
            rw [List.getElem?_take, if_pos hlt, List.getElem?_drop] at hj
            exact h5 _ _ hj) hx
          exact ⟨u, key _ _ rfl u hu, hr⟩
    | .c (.int ..), _, hx | .c (.bool _), _, hx | .c (.str _), _, hx | .c (.flt _), _, hx | .c (.sl ..), _, hx | .c .nil, _, hx | .c (.ref _), _, hx | .c (.fn ..), _, hx | .c (.opq _), _, hx | .agg _, _, hx | .tup _, _, hx =>
      simp [RM.run] at hx
end

end Go.Eng
