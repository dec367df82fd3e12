/-
  Part of a proof by the engine: texts that a program of ours printed, or plain lemmas on them. No condition but what each theorem says.
-/
import Derived.Test.YtondfjckadlabaaDoorEng2
import Derived.Laws.StructEq
import Derived.Test.YtondfjckadlabaaDoorEng3
import Derived.MapKept
import Derived.Carry
import Derived.Orders
set_option linter.unusedVariables false
set_option linter.unusedSimpArgs false
namespace Go.Eng
section
variable {P : Program} {C : Ctx} {Fr : Fd} {S : St} {o : Oper} {e : Env} {a : Act} {w : World} {r : Res} {F : List Nat}

def arrF (e : TypeId) (o : Nat) : Field := { name := "x", type := e, offset := o, embedded := false, tag := "", pkgPath := "", byteOffset := 0 }
theorem run_equalIn_array (w : World) (d : Nat) (t e : TypeId) (n : Nat) (xs ys : Array Value) (ht : P.underlying t = some (.array n e)) (he : (P.info? e).isSome = true) :
    (Op.equalIn (d + 1) t (.agg xs) (.agg ys)).run P w = (Op.eqFields d xs ys ((List.range n).map fun j => arrF e (j * P.cellsOf e))).run P w := by
  obtain ⟨ie, hie⟩ := Option.isSome_iff_exists.1 he
  have hsz : (sizeOf e).run P w = .ok (P.cellsOf e) w := by simp [sizeOf, typeInfo, hie, Program.cellsOf]
  simp only [Op.equalIn, Sem.run_bind, run_underlying ht, Result.andThen_ok, hsz]
  rw [Std.Legacy.Range.forIn_eq_forIn_range']
  simp only [Std.Legacy.Range.size, Nat.sub_zero, Nat.add_sub_cancel, Nat.div_one, List.range_eq_range']
  generalize List.range' 0 n = l
  clear hsz ht
  induction l generalizing w with
  | nil => simp [Op.eqFields]
  | cons j l ih =>
    simp only [List.forIn_cons, List.map_cons, Op.eqFields, Sem.run_bind, Sem.run_ite, arrF]
    rw [if_pos (by decide)]
    generalize (part e xs (j * P.cellsOf e)).run P w = r1
    cases r1 with
    | ok a w1 =>
      simp only [Result.andThen_ok]
      generalize (part e ys (j * P.cellsOf e)).run P w1 = r2
      cases r2 with
      | ok b w2 =>
        simp only [Result.andThen_ok]
        generalize (Op.equalIn d e a b).run P w2 = r3
        cases r3 with
        | ok r w3 =>
          cases r
          · simp only [Result.andThen_ok, Bool.not_false, if_true, Sem.run_pure]
          · simp only [Result.andThen_ok, Bool.not_true, Bool.false_eq_true, if_false, Sem.run_pure]
            exact ih w3
        | halt x w3 => simp [Result.andThen]
      | halt x w2 => simp [Result.andThen]
    | halt x w1 => simp [Result.andThen]
theorem tiEq {t : TypeId} {i : TI} (h : tiOf P t = some i) (he : i.eqs = true) : ∃ fs : List Field, (∀ w d xs ys, (Op.equalIn (d + 1) t (.agg xs) (.agg ys)).run P w = (Op.eqFields d xs ys fs).run P w) ∧ P.eqGuardType P.depth t = false ∧ (∀ f ∈ fs, (f.name == "_") = false) ∧
    i.fields = fs.map fun f => (f.type, f.offset, P.cellsOf f.type) := by
  unfold tiOf at h
  cases h1 : P.info? t with
  | none => simp [h1] at h
  | some info =>
    cases h2 : P.underlying t with
    | none => simp [h1, h2] at h
    | some d =>
      simp only [h1, h2] at h
      cases h3 : info.zero with
      | none => simp [h3] at h
      | some z =>
        simp only [h3] at h
        cases h4 : ((z.cells.toList.all (·.oneCell') && Nat.beq z.cells.size info.size) && (partsIn P d && zOk z d)) with
        | false => rw [h4] at h; cases h
        | true =>
          rw [h4] at h
          simp only [cond_true, Option.some.injEq] at h
          subst h
          cases d with
          | struct fs =>
            simp only [eqsOf, Bool.and_eq_true, Bool.not_eq_true', List.all_eq_true] at he
            have hfo : P.fieldsOf t = fs := by simp [Program.fieldsOf, h2]
            exact ⟨fs.toList, fun w d xs ys => by rw [run_equalIn_struct (P := P) w d t _ _ (by rw [hfo]; exact h2) he.1.1, hfo], he.1.2, he.2, rfl⟩
          | array n e =>
            simp only [eqsOf, Bool.not_eq_true'] at he
            simp only [Bool.and_eq_true, partsIn] at h4
            exact ⟨(List.range n).map fun j => arrF e (j * P.cellsOf e), fun w d xs ys => run_equalIn_array w d t e n xs ys h2 h4.2.1, he, fun f hf => by obtain ⟨j, _, rfl⟩ := List.mem_map.1 hf; rfl, by simp [arrF, Function.comp]⟩
          | _ => cases he

theorem aggV_run {agg : Bool} {cs : List Cell} {x : AVal} (h : aggV agg cs = some x) {hp : Nat → Option Obj} : (aggOr agg cs).run hp = some (x, []) := by
  unfold aggV at h
  unfold aggOr
  cases agg with
  | true => simp only [cond_true, Option.some.injEq] at h ⊢; subst h; rfl
  | false =>
    simp only [cond_false] at h ⊢
    match cs, h with
    | [c], h => simp only [Option.some.injEq] at h; subst h; rfl

theorem eqFs_ok (hC : C.Ok P) {n d : Nat} {f : TypeId → AVal → AVal → Option Bool} (ih : ∀ t x y u v b, f t x y = some b → RepA w S x u → RepA w S y v → (Op.equalIn d t u v).run P w = .ok b w) {xs ys : List Cell} {us vs : List Value} (hx : RepL w S xs us) (hy : RepL w S ys vs) :
    ∀ {fs : List Field} {b : Bool}, (∀ f ∈ fs, (f.name == "_") = false) → eqFs C f (fs.map fun f => (f.type, f.offset, P.cellsOf f.type)) xs ys = some b → (Op.eqFields d us.toArray vs.toArray fs).run P w = .ok b w
  | [], b, _, h => by
    simp only [List.map_nil, eqFs, Option.some.injEq] at h
    subst h
    rfl
  | g :: fs, b, hn, h => by
    have hn' : g.name ≠ "_" := by have := hn g (by simp); simpa using this
    simp only [List.map_cons, eqFs] at h
    cases hi : C.ty g.type with
    | none => rw [hi] at h; cases h
    | some i =>
      rw [hi] at h
      simp only at h
      cases hb : (Nat.ble (g.offset + i.size) xs.length && Nat.ble (g.offset + i.size) ys.length) with
      | false => rw [hb] at h; cases h
      | true =>
        rw [hb] at h
        simp only [cond_true] at h
        simp only [Bool.and_eq_true] at hb
        cases h1 : aggV i.agg (sliceC xs g.offset i.size) with
        | none => rw [h1] at h; cases h
        | some p =>
          cases h2 : aggV i.agg (sliceC ys g.offset i.size) with
          | none => rw [h1, h2] at h; cases h
          | some q =>
            rw [h1, h2] at h
            simp only at h
            have hok := tiOk (hC.ty _ _ hi)
            obtain ⟨u, k1, k2⟩ := part_at (P := P) hok hx (Nat.le_of_ble_eq_true hb.1) (aggV_run h1 (hp := fun _ => none))
            obtain ⟨v, k3, k4⟩ := part_at (P := P) hok hy (Nat.le_of_ble_eq_true hb.2) (aggV_run h2 (hp := fun _ => none))
            cases h3 : f g.type p q with
            | none => rw [h3] at h; cases h
            | some s =>
              have h4 := ih _ _ _ _ _ _ h3 k2 k4
              rw [h3] at h
              have main : ∀ c, (Op.eqFields d us.toArray vs.toArray fs).run P w = .ok c w → (Op.eqFields d us.toArray vs.toArray (g :: fs)).run P w = .ok (s && c) w := fun c hc => by
                rw [Op.eqFields]
                simp only [if_pos hn', Sem.run_bind, k1, k3, h4, Result.andThen_ok]
                cases s
                · simp
                · simpa using hc
              cases fs with
              | nil =>
                simp only [List.map_nil, Option.some.injEq] at h
                subst h
                have := main true rfl
                simpa using this
              | cons g' fs =>
                simp only [List.map_cons] at h
                cases h5 : eqFs C f ((g'.type, g'.offset, P.cellsOf g'.type) :: fs.map fun f => (f.type, f.offset, P.cellsOf f.type)) xs ys with
                | none => rw [h5] at h; cases h
                | some c =>
                  rw [h5] at h
                  simp only [Option.some.injEq] at h
                  subst h
                  exact main c (eqFs_ok hC (n := n) ih hx hy (fun f hf => hn f (by simp only [List.mem_cons] at hf ⊢; exact .inr hf)) (by simpa only [List.map_cons] using h5))

theorem eqP_ok {d : Nat} {t : TypeId} {i : TI} (hti : tiOf P t = some i) {p q : Cell} {u v : Value} {b : Bool} (h : eqP i.u p q = some b) (hx : RepC w S p u) (hy : RepC w S q v) : (Op.equalIn (d + 1) t u v).run P w = .ok b w := by
  obtain ⟨info, dd, z, g1, g2, g3, g4, _⟩ := (tiOk hti).get
  generalize hu : i.u = ud at h g4
  unfold eqP at h
  split at h
  · rename_i k0 k m k' n'
    cases hk : sameI k k' with
    | false => rw [hk] at h; cases h
    | true =>
      rw [hk] at h
      simp only [cond_true, Option.some.injEq] at h
      have hx' : u = .int k m := hx
      have hy' : v = .int k' n' := hy
      have := sameI_eq hk
      subst hx' hy' this h
      have hd := UD.of_int g4.symm
      subst hd
      exact run_equalIn_int w d t k k0 m n' g2
  · rename_i m n'
    simp only [Option.some.injEq] at h
    have hx' : u = .bool m := hx
    have hy' : v = .bool n' := hy
    subst hx' hy' h
    have hd := UD.of_bool g4.symm
    subst hd
    exact run_equalIn_bool' w d t m n' g2
  · rename_i m n'
    simp only [Option.some.injEq] at h
    have hx' : u = .string m := hx
    have hy' : v = .string n' := hy
    subst hx' hy' h
    have hd := UD.of_str g4.symm
    subst hd
    exact run_equalIn_string w d t m n' g2
  · cases h
theorem eqV_ok (hC : C.Ok P) : ∀ {n d : Nat} {t : TypeId} {x y : AVal} {u v : Value} {b : Bool}, n ≤ d → eqV C n t x y = some b → RepA w S x u → RepA w S y v → (Op.equalIn d t u v).run P w = .ok b w
  | 0, _, _, _, _, _, _, _, _, h, _, _ => by cases h
  | n + 1, 0, _, _, _, _, _, _, hd, _, _, _ => by omega
  | n + 1, d + 1, t, x, y, u, v, b, hd, h, hx, hy => by
    simp only [eqV] at h
    cases hi : C.ty t with
    | none => rw [hi] at h; cases h
    | some i =>
      rw [hi] at h
      have hti := hC.ty _ _ hi
      match x, y, h, hx, hy with
      | .agg xs, .agg ys, h, hx0, hy0 =>
        obtain ⟨us, hu, hxl⟩ := hx0
        obtain ⟨vs, hv, hyl⟩ := hy0
        simp only at h
        cases he : i.eqs with
        | false => rw [he] at h; cases h
        | true =>
          rw [he] at h
          simp only [cond_true] at h
          obtain ⟨fs, f1, f3, f4, f5⟩ := tiEq hti he
          rw [f5] at h
          subst hu hv
          rw [f1]
          exact eqFs_ok hC (n := n) (fun t x y u v b h' hx' hy' => eqV_ok hC (by omega) h' hx' hy') hxl hyl f4 h
      | .c p, .c q, h, ⟨hx, _⟩, ⟨hy, _⟩ => exact eqP_ok hti h hx hy

theorem did_eq (hC : C.Ok P) (hI : Inv Fr C.nt S e a w) {op : BinOp} {t u : TypeId} {x y : Operand} (ho : o.op = .binOp op t x y u) {xs ys : List Cell} (h1 : evalA e.t.get x = some (.agg xs)) (h2 : evalA e.t.get y = some (.agg ys))
    (hx : (effA C e.t.get o.dst o.op).run e.h.get = some (r, F)) : Did P Fr C.nt o e a w r := by
  rw [ho] at hx
  simp only [effA, h1, h2] at hx
  have hr1 := evalA_rep hI h1
  have hr2 := evalA_rep hI h2
  have guard : ∀ b, eqV C 8 t (.agg xs) (.agg ys) = some b → ∀ (m n : Operand), (eqGuard op t m n (a.eval x) (a.eval y)).run P w = .ok () w := fun b hb m n => by
    simp only [eqV] at hb
    cases hi : C.ty t with
    | none => rw [hi] at hb; cases hb
    | some i =>
      rw [hi] at hb
      simp only at hb
      cases he : i.eqs with
      | false => rw [he] at hb; cases hb
      | true =>
        obtain ⟨fs, f1, f3, f4, f5⟩ := tiEq (hC.ty _ _ hi) he
        obtain ⟨us, hu, _⟩ := hr1
        obtain ⟨vs, hv, _⟩ := hr2
        rw [hu, hv]
        exact run_eqGuard_agg w op t m n _ _ f3
  obtain ⟨us, hu, _⟩ := id hr1
  obtain ⟨vs, hv, _⟩ := id hr2
  cases op with
  | eql =>
    simp only [eqAgg, RM.run] at hx
    cases hb : eqV C 8 t (.agg xs) (.agg ys) with
    | none => rw [hb] at hx; cases hx
    | some b =>
      rw [hb] at hx
      obtain ⟨rfl, rfl⟩ := run_ret (h := e.h.get) hx
      have h3 := eqV_ok hC (d := 10000) (by decide) hb hr1 hr2
      have hg := guard b hb x y
      rw [hu, hv] at h3 hg
      refine did_pure hI (v := .bool b) ?_ ⟨rfl, rfl⟩
      simp [execOp, ho, hu, hv, hg, run_eql_struct, h3]
  | neq =>
    simp only [eqAgg, RM.run] at hx
    cases hb : eqV C 8 t (.agg xs) (.agg ys) with
    | none => rw [hb] at hx; cases hx
    | some b =>
      rw [hb] at hx
      obtain ⟨rfl, rfl⟩ := run_ret (h := e.h.get) hx
      have h3 := eqV_ok hC (d := 10000) (by decide) hb hr1 hr2
      have hg := guard b hb x y
      rw [hu, hv] at h3 hg
      refine did_pure hI (v := .bool (!b)) ?_ ⟨rfl, rfl⟩
      simp [execOp, ho, hu, hv, hg, run_neq_struct, h3]
  | _ => exact run_fail hx
end
end Go.Eng

namespace Go.Eng
section
variable {P : Program} {C : Ctx} {Fr : Fd} {S : St} {o : Oper} {e : Env} {a : Act} {w : World} {r : Res} {F : List Nat}

/-- Where a key stands first. -/
def mapIdx (kk : Kind) : List kk.den → kk.den → Option Nat
  | [], _ => none
  | d :: r, x => bif keyEq kk x d then some 0 else (mapIdx kk r x).map (· + 1)
theorem mapGet_idx (kk vk : Kind) : ∀ (es : List (kk.den × vk.den)) (x : kk.den), mapGet kk vk es x = (mapIdx kk (es.map (·.1)) x).bind fun j => es[j]?.map (·.2)
  | [], _ => rfl
  | p :: r, x => by
    simp only [mapGet, List.map_cons, mapIdx]
    cases keyEq kk x p.1 with
    | true => rfl
    | false =>
      simp only [cond_false, mapGet_idx kk vk r x]
      cases mapIdx kk (r.map (·.1)) x <;> simp
theorem mapPut_idx (kk vk : Kind) : ∀ (es : List (kk.den × vk.den)) (x : kk.den) (y : vk.den), mapPut kk vk es x y = match mapIdx kk (es.map (·.1)) x with
    | none => es ++ [(x, y)]
    | some j => es.set j (x, y)
  | [], _, _ => rfl
  | p :: r, x, y => by
    simp only [mapPut, List.map_cons, mapIdx]
    cases keyEq kk x p.1 with
    | true => rfl
    | false =>
      simp only [cond_false, mapPut_idx kk vk r x y]
      cases mapIdx kk (r.map (·.1)) x <;> simp
theorem mapIdx_lt (kk : Kind) : ∀ (ds : List kk.den) (x : kk.den) (j : Nat), mapIdx kk ds x = some j → ∃ d, ds[j]? = some d ∧ keyEq kk x d = true
  | [], _, _, h => by cases h
  | d :: r, x, j, h => by
    simp only [mapIdx] at h
    cases hk : keyEq kk x d with
    | true => rw [hk] at h; cases h; exact ⟨d, rfl, hk⟩
    | false =>
      rw [hk] at h
      simp only [cond_false] at h
      cases hm : mapIdx kk r x with
      | none => rw [hm] at h; cases h
      | some i => rw [hm] at h; cases h; simpa using mapIdx_lt kk r x i hm

/-- The laws that a key's type has. -/
structure KeyT (P : Program) (kt : TypeId) (ka : Bool) (kk : Kind) : Prop where
  check : ∀ (w : World) (S : St) (b : Bool) (x : kk.den) (key : Value), RepB w S (ka, emb kk x) key → (Instr.checkKey b 10000 kt key).run P w = .ok () w
  find : ∀ (w : World) (S : St) (x : kk.den) (key : Value), RepB w S (ka, emb kk x) key → ∀ (es : List MapEntry) (ds : List kk.den), es.length = ds.length →
    (∀ (i : Nat) d, ds[i]? = some d → ∃ en : MapEntry, es[i]? = some en ∧ RepB w S (ka, emb kk d) en.key) →
    (Instr.findKey kt key es).run P w = .ok ((mapIdx kk ds x).map fun j => (j, ((es[j]?).map (·.val)).getD undef)) w
  stays : ∀ (w : World) (S : St) (x d : kk.den) (key key' : Value), keyEq kk x d = true → RepB w S (ka, emb kk x) key → RepB w S (ka, emb kk d) key' → (Instr.keyThatStays key' key).run P w = .ok key w

theorem findNow_at {td : TypeDesc} {kk : Kind} {kv : kk.den → Value} (hs : ∀ x d, Instr.sameNow td (kv x) (kv d) = some (keyEq kk x d)) {x : kk.den} : ∀ (es : List MapEntry) (ds : List kk.den) (i : Nat), es.length = ds.length →
    (∀ (i : Nat) d, ds[i]? = some d → ∃ en : MapEntry, es[i]? = some en ∧ en.key = kv d) →
    Instr.findNow td (kv x) es i = some ((mapIdx kk ds x).map fun j => (i + j, ((es[j]?).map (·.val)).getD undef))
  | [], [], i, _, _ => rfl
  | en :: es, d :: ds, i, hl, h => by
    obtain ⟨en', h1, h2⟩ := h 0 d rfl
    simp only [List.getElem?_cons_zero, Option.some.injEq] at h1
    subst h1
    simp only [Instr.findNow, h2, hs, mapIdx]
    cases hk : keyEq kk x d with
    | true => simp
    | false =>
      simp only [cond_false]
      rw [findNow_at hs es ds (i + 1) (by simpa using hl) (fun j d' hj => by simpa using h (j + 1) d' (by simpa using hj))]
      cases mapIdx kk ds x <;> simp <;> omega
  | [], _ :: _, _, hl, _ => by simp at hl
  | _ :: _, [], _, hl, _ => by simp at hl
/-- A plain type of keys: integers, strings. -/
theorem keyT_plain {kt : TypeId} {td : TypeDesc} {kk : Kind} {kv : kk.den → Value} (hu : P.underlying kt = some td) (hk : ∀ x, MapKept.IsKey td (kv x)) (hs : ∀ x d, Instr.sameNow td (kv x) (kv d) = some (keyEq kk x d))
    (hr : ∀ (w : World) (S : St) x v, RepB w S (false, emb kk x) v → v = kv x) : KeyT P kt false kk where
  check w S b x key h := by rw [hr w S x key h]; exact MapKept.run_checkKey hu (hk x) b 9999
  find w S x key h es ds hl hd := by
    rw [hr w S x key h]
    have := findNow_at hs (x := x) es ds 0 hl (fun i d hi => let ⟨en, e1, e2⟩ := hd i d hi; ⟨en, e1, hr w S d _ e2⟩)
    simp only [Nat.zero_add] at this
    exact MapKept.run_findKey hu this
  stays w S x d key key' he h1 h2 := by
    rw [hr w S x key h1, hr w S d key' h2]
    have : kv d = kv x := by
      obtain ⟨r, h3, h4⟩ := MapKept.sameNow_of_keys (hk x) (hk d)
      rw [hs, he] at h3; cases h3
      exact (h4.1 rfl).symm
    rw [this]; exact MapKept.run_keyThatStays (hk x)

theorem findAsking_at {kt : TypeId} {kk : Kind} {kv : kk.den → Value} {w : World} (hs : ∀ x d, (Op.equal kt (kv x) (kv d)).run P w = .ok (keyEq kk x d) w) {x : kk.den} : ∀ (es : List MapEntry) (ds : List kk.den) (i : Nat), es.length = ds.length →
    (∀ (i : Nat) d, ds[i]? = some d → ∃ en : MapEntry, es[i]? = some en ∧ en.key = kv d) →
    (Instr.findAsking kt (kv x) es i).run P w = .ok ((mapIdx kk ds x).map fun j => (i + j, ((es[j]?).map (·.val)).getD undef)) w
  | [], [], i, _, _ => by simp [Instr.findAsking, mapIdx]
  | en :: es, d :: ds, i, hl, h => by
    obtain ⟨en', h1, h2⟩ := h 0 d rfl
    simp only [List.getElem?_cons_zero, Option.some.injEq] at h1
    subst h1
    simp only [Instr.findAsking, h2, Sem.run_bind, hs, Result.andThen_ok, mapIdx]
    cases hk : keyEq kk x d with
    | true => simp
    | false =>
      simp only [cond_false, Bool.false_eq_true, if_false]
      rw [findAsking_at hs es ds (i + 1) (by simpa using hl) (fun j d' hj => by simpa using h (j + 1) d' (by simpa using hj))]
      cases mapIdx kk ds x <;> simp <;> omega
  | [], _ :: _, _, hl, _ => by simp at hl
  | _ :: _, [], _, hl, _ => by simp at hl
theorem part_one {e : TypeId} {ie : TI} (h : TiOk P e ie) (ha : ie.agg = false) (xs : Array Value) (j : Nat) (v : Value) (hv : xs[j]? = some v) : (part e xs j).run P w = .ok v w := by
  have hag := run_isAgg (P := P) (w := w) h
  unfold part
  rw [Sem.run_bind, hag]
  simp [ha, hv]
theorem keyT_pair (hC : C.Ok P) {kt e : TypeId} {i ie : TI} {n : Nat} {k k' k'' : IntKind} (hi : C.ty kt = some i) (hu : i.u = .array n e) (hq : i.eqs = true) (he : C.ty e = some ie) (hue : ie.u = .int k'') (hn : n = 2) (hk : k = k'') (hk' : k' = k'') (hs : ie.size = 1) (hag : ie.agg = false) :
    KeyT P kt true (.pair (.int k) (.int k')) := by
  subst hn hk hk'
  have hok := tiOk (hC.ty _ _ hi)
  have hoke := tiOk (hC.ty _ _ he)
  obtain ⟨info, d, z, g1, g2, g3, g4, g5, g6, g7, g8, g9, g10, g11, g12⟩ := hok.get
  obtain ⟨infoe, de, ze, q1, q2, q3, q4, q5, q6, q7, _⟩ := hoke.get
  rw [hu] at g4
  have hd := UD.of_array g4.symm
  subst hd
  rw [hue] at q4
  have hde := UD.of_int q4.symm
  subst hde
  have hc : P.cellsOf e = 1 := by simp [Program.cellsOf, q1, ← q5, hs]
  have hrep : ∀ (w : World) (S : St) (x : (Kind.pair (.int k') (.int k')).den) (v : Value), RepB w S (true, emb (.pair (.int k') (.int k')) x) v → v = .agg #[.int k' x.1, .int k' x.2] := fun w S x v h => by
    obtain ⟨vs, h1, h2⟩ := h
    match vs, h2 with
    | [u1, u2], ⟨p1, p2, _⟩ =>
      have e1 : u1 = .int k' x.1 := p1
      have e2 : u2 = .int k' x.2 := p2
      rw [h1, e1, e2]
  have heq : ∀ (w : World) (x y : (Kind.pair (.int k') (.int k')).den), (Op.equal kt (.agg #[.int k' x.1, .int k' x.2]) (.agg #[.int k' y.1, .int k' y.2])).run P w = .ok (keyEq (.pair (.int k') (.int k')) x y) w := fun w x y => by
    have hmd : (Op.equal kt (.agg #[.int k' x.1, .int k' x.2]) (.agg #[.int k' y.1, .int k' y.2])) = Op.equalIn (9999 + 1) kt (.agg #[.int k' x.1, .int k' x.2]) (.agg #[.int k' y.1, .int k' y.2]) := rfl
    rw [hmd, run_equalIn_array w _ kt e 2 _ _ g2 (by simp [q1])]
    have p0 : ∀ (a b : Int) (w : World), (part e #[Value.int k' a, Value.int k' b] 0).run P w = .ok (.int k' a) w := fun a b w => part_one hoke hag _ 0 _ rfl
    have p1 : ∀ (a b : Int) (w : World), (part e #[Value.int k' a, Value.int k' b] 1).run P w = .ok (.int k' b) w := fun a b w => part_one hoke hag _ 1 _ rfl
    have en : ∀ (d : Nat) (a b : Int) (w : World), (Op.equalIn (d + 1) e (.int k' a) (.int k' b)).run P w = .ok (a == b) w := fun d a b w => run_equalIn_int w d e k' k' a b q2
    simp only [List.range_eq_range', List.range', List.map_cons, List.map_nil, Op.eqFields, arrF, hc, Nat.zero_mul, Nat.zero_add, Nat.one_mul, Nat.mul_one, Sem.run_bind, Sem.run_ite, p0, p1, Result.andThen_ok, keyEq]
    rw [show (9999 : Nat) = 9998 + 1 from rfl]
    simp only [en, Result.andThen_ok, Sem.run_pure]
    cases h1 : (x.1 == y.1) <;> cases h2 : (x.2 == y.2) <;> simp [h1, h2]
  refine ⟨fun w S b x key h => ?_, fun w S x key h es ds hl hd => ?_, fun w S x d key key' he h1 h2 => ?_⟩
  · rw [hrep w S x key h]
    have p0 : ∀ (a b : Int) (w : World), (part e #[Value.int k' a, Value.int k' b] 0).run P w = .ok (.int k' a) w := fun a b w => part_one hoke hag _ 0 _ rfl
    have p1 : ∀ (a b : Int) (w : World), (part e #[Value.int k' a, Value.int k' b] 1).run P w = .ok (.int k' b) w := fun a b w => part_one hoke hag _ 1 _ rfl
    have ck : ∀ (m : Nat) (a : Int) (w : World), (Instr.checkKey b (m + 1) e (.int k' a)).run P w = .ok () w := fun m a w => MapKept.run_checkKey q2 (by simp [MapKept.IsKey]) b m
    have sz : ∀ (w : World), (sizeOf e).run P w = .ok 1 w := fun w => by rw [run_size hoke, hs]
    have all : ∀ (m : Nat), (Instr.checkKey b (m + 1 + 1) kt (.agg #[.int k' x.1, .int k' x.2])).run P w = .ok () w := fun m => by
      rw [Instr.checkKey]
      simp only [Sem.run_bind, run_underlying g2, Result.andThen_ok]
      rw [Std.Legacy.Range.forIn_eq_forIn_range']
      simp only [Std.Legacy.Range.size, Nat.sub_zero, Nat.add_sub_cancel, Nat.div_one, List.range', List.forIn_cons, List.forIn_nil, Sem.run_bind, sz, Result.andThen_ok, Nat.zero_mul, Nat.zero_add, Nat.one_mul, Nat.mul_one, p0, p1, Sem.run_pure, ck]
    exact all 9998
  · rw [hrep w S x key h]
    have hd' : ∀ (i : Nat) d, ds[i]? = some d → ∃ en : MapEntry, es[i]? = some en ∧ en.key = .agg #[.int k' d.1, .int k' d.2] := fun i d hi => let ⟨en, e1, e2⟩ := hd i d hi; ⟨en, e1, hrep w S d _ e2⟩
    cases es with
    | nil =>
      cases ds with
      | nil => simp [Instr.findKey, run_underlying g2, Instr.findNow, mapIdx]
      | cons d ds => simp at hl
    | cons en es =>
      have := findAsking_at (kt := kt) (kk := .pair (.int k') (.int k')) (kv := fun x => .agg #[.int k' x.1, .int k' x.2]) (heq w) (x := x) (en :: es) ds 0 hl hd'
      simp only [Nat.zero_add] at this
      simp only [Instr.findKey, Sem.run_bind, run_underlying g2, Result.andThen_ok, Instr.findNow, Instr.sameNow]
      exact this
  · rw [hrep w S x key h1, hrep w S d key' h2]
    simp only [keyEq, Bool.and_eq_true, beq_iff_eq] at he
    rw [← he.1, ← he.2]
    simp [Instr.keyThatStays, Instr.sameBits]
theorem keyT_of (hC : C.Ok P) {kt : TypeId} {ka : Bool} {kk : Kind} (h : keyOk C kt ka kk = true) : KeyT P kt ka kk := by
  unfold keyOk at h
  split at h
  · rename_i k
    split at h
    · rename_i k' _ _ _ _ _ _ _ hi
      obtain ⟨_, d, _, h2, hu, _⟩ := under hC hi
      have := UD.of_int hu.symm
      subst this
      have hk := sameI_eq h
      subst hk
      refine keyT_plain (kv := fun n => .int k n) h2 (fun x => by simp [MapKept.IsKey]) (fun x d => by simp [Instr.sameNow, keyEq]) (fun w S x v hv => ?_)
      exact hv.1
    · cases h
  · split at h
    · rename_i _ _ _ _ _ _ _ hi
      obtain ⟨_, d, _, h2, hu, _⟩ := under hC hi
      have := UD.of_str hu.symm
      subst this
      refine keyT_plain (kv := fun n => .string n) h2 (fun x => by simp [MapKept.IsKey]) (fun x d => ?_) (fun w S x v hv => ?_)
      · simp only [Instr.sameNow, keyEq, Option.some.injEq]
        rw [Bool.eq_iff_iff, MapKept.bytes_beq]
        simp only [beq_iff_eq, ByteArray.toList_eq]
        exact ⟨fun h => by rw [h], fun h => ByteArray.ext (Array.toList_inj.1 h)⟩
      · exact hv.1
    · cases h
  · rename_i k k'
    split at h
    · rename_i n e q _ _ _ _ _ _ hi
      split at h
      · rename_i k'' sz ag _ _ _ _ _ he
        simp only [Bool.and_eq_true, Bool.not_eq_true'] at h
        obtain ⟨h1, h2, h3, h4, h5, h6⟩ := h
        exact keyT_pair hC hi rfl h6 he rfl (beq_iff.1 h1) (sameI_eq h2) (sameI_eq h3) (beq_iff.1 h4) h5
      · cases h
    · cases h
  · cases h

theorem UD.of_map {d : TypeDesc} {k t : TypeId} (h : UD.of d = .map k t) : d = .map k t := by cases d with | map k' t' => cases h; rfl | float k => cases k <;> cases h | _ => cases h
theorem did_makeMap (hC : C.Ok P) (hI : Inv Fr C.nt S e a w) {t : TypeId} {rs : Option Operand} (ho : o.op = .makeMap t rs) (hx : (effA C e.t.get o.dst o.op).run e.h.get = some (r, F)) (hw : writesOk e.h F.reverse r = true) : Did P Fr C.nt o e a w r := by
  rw [ho] at hx
  have key : ∀ {F : List Nat}, (makeMapA C (o.dst.getD 0) t).run e.h.get = some (r, F) → (∀ d, P.underlying t = some d → (∃ k e, d = .map k e) → (execOp a.eval o).run P w = .ok (.value (.map (some w.heap.size))) (w.alloc (.map #[] 0))) → writesOk.newOk e.h r.news = true → Did P Fr C.nt o e a w r := by
    intro F hx hrun hnew
    unfold makeMapA at hx
    cases hti : C.ty t with
    | none => rw [hti] at hx; exact run_fail hx
    | some i =>
      rw [hti] at hx
      obtain ⟨iu, is, ib, iz, ia, ik, ifs⟩ := i
      cases iu with
      | map kt et =>
        simp only at hx
        cases hk : C.ty kt with
        | none => rw [hk] at hx; exact run_fail hx
        | some ki =>
          cases he : C.ty et with
          | none => rw [hk, he] at hx; exact run_fail hx
          | some ei =>
            rw [hk, he] at hx
            simp only at hx
            cases h1 : ki.kind with
            | none => rw [h1] at hx; exact run_fail hx
            | some kk =>
              cases h2 : ei.kind with
              | none => rw [h1, h2] at hx; exact run_fail hx
              | some vk =>
                rw [h1, h2] at hx
                obtain ⟨rfl, rfl⟩ := run_ret hx
                obtain ⟨_, d, _, g2, hu, _⟩ := under hC hti
                have hd := UD.of_map hu.symm
                subst hd
                have hn := has_none hnew
                have hle : S.le (S.bind (nm (o.dst.getD 0) 0) (.map (some w.heap.size))) := St.le_bind (.inl (hI.news _ hn))
                have hv : (S.bind (nm (o.dst.getD 0) 0) (.map (some w.heap.size))).val (nm (o.dst.getD 0) 0) = some (.map (some w.heap.size)) := by simp [St.bind]
                refine did_value (hrun _ g2 ⟨_, _, rfl⟩) (fun x hx => ?_) (S' := S.bind (nm (o.dst.getD 0) 0) (.map (some w.heap.size))) ?_
                · cases hx; exact ⟨⟨hv, rfl⟩, rfl⟩
                · exact hI.new hn rfl ⟨w.heap.size, #[], 0, hv, by rw [heap_alloc_new], rfl, fun i p hp => by simp at hp⟩
      | _ => exact run_fail hx
  cases rs with
  | none =>
    simp only [effA] at hx
    simp only [writesOk] at hw
    have hm : (Instr.makeMap t none).run P w = .ok (.map (some w.heap.size)) (w.alloc (.map #[] 0)) := rfl
    exact key hx (fun d hd _ => by simp [execOp, ho, hm]) (by simp only [Bool.and_eq_true] at hw; exact hw.2)
  | some x =>
    simp only [effA] at hx
    obtain ⟨v, hv, hx⟩ := un_inv hx
    have hr := evalA_rep hI hv
    simp only [writesOk] at hw
    match v, hr, hx with
    | .c (.int k n), hr, hx =>
      have hxe : a.eval x = .int k n := hr.1
      exact key hx (fun d hd ⟨kt, et, hm⟩ => by
        subst hm
        have hm : (Instr.makeMap t (some (.int k n))).run P w = .ok (.map (some w.heap.size)) (w.alloc (.map #[] 0)) := by
          simp [Instr.makeMap, run_underlying hd, asInt, asIntOf, Result.andThen]
        simp [execOp, ho, hxe, hm]) (by simp only [Bool.and_eq_true] at hw; exact hw.2)
    | .c (.bool _), _, hx | .c (.str _), _, hx | .c (.flt _), _, hx | .c (.sl ..), _, hx | .c .nil, _, hx | .c (.ref _), _, hx | .c (.ptr ..), _, hx | .c (.eptr ..), _, hx | .c (.vptr ..), _, hx | .c (.gptr ..), _, hx
    | .c (.fn ..), _, hx | .c (.opq _), _, hx | .agg _, _, hx | .tup _, _, hx => exact run_fail hx

/-- What cells of a kind say. -/
theorem repB_of_cells {k : Kind} {b : Bool} {cs : List Cell} {x : k.den} {u : Value} {v : AVal} (hp : proj1 k cs = some x) (hc : v.cells = some (b, cs)) (h : RepA w S v u) : RepB w S (b, emb k x) u := by
  cases v with
  | c c =>
    cases hc
    obtain ⟨h1, h2⟩ := h
    have hr : RepL w S [c] [u] := ⟨h1, trivial⟩
    obtain ⟨h3, h4⟩ := hr.proj1 hp
    obtain ⟨vs, e1, e2, e3, _⟩ := h3.cells
    have hl := e3.length
    have : vs = [u] := by
      match vs, e1 with
      | [v0], _ =>
        have := e2 0 (by have := k.sz_pos; omega)
        simp at this; rw [this]
      | [], e1 => have := k.sz_pos; simp at e1 h4; omega
      | _ :: _ :: _, e1 => simp at e1 h4; omega
    subst this
    match hem : emb k x, e3 with
    | [c'], e3 => exact ⟨e3.1, h2⟩
  | agg cs' =>
    cases hc
    obtain ⟨vs, h1, h2⟩ := h
    obtain ⟨h3, h4⟩ := h2.proj1 hp
    obtain ⟨vs', e1, e2, e3, _⟩ := h3.cells
    have : vs' = vs := by
      apply List.ext_getElem?
      intro j
      by_cases hj : j < k.sz
      · exact (e2 j hj).symm
      · rw [List.getElem?_eq_none (by omega), List.getElem?_eq_none (by omega)]
    subst this
    exact ⟨vs', h1, e3⟩
  | tup l => cases hc

theorem aggOr_rep {ag : Bool} {cs : List Cell} {u : Value} {x : AVal} {hp : Nat → Option Obj} (h : RepB w S (ag, cs) u) (hx : (aggOr ag cs).run hp = some (x, F)) : RepA w S x u := by
  cases ag with
  | true => obtain ⟨rfl, rfl⟩ := run_ret hx; exact h
  | false =>
    match cs, h, hx with
    | [c], h, hx => obtain ⟨rfl, rfl⟩ := run_ret hx; exact h
    | [], h, _ => exact h.elim
    | _ :: _ :: _, h, _ => exact h.elim
theorem zero_repB (hC : C.Ok P) {et : TypeId} {i : TI} (he : C.ty et = some i) {vk : Kind} {z : vk.den} (hz : proj1 vk i.zero = some z) : ∃ zv : Value, (zeroValue et).run P w = .ok zv w ∧ RepB w S (i.agg, emb vk z) zv := by
  have h := hC.ty _ _ he
  unfold tiOf at h
  cases h1 : P.info? et with
  | none => simp [h1] at h
  | some info =>
    cases h2 : P.underlying et with
    | none => simp [h1, h2] at h
    | some d =>
      simp only [h1, h2] at h
      cases h3 : info.zero with
      | none => simp [h3] at h
      | some zv =>
        simp only [h3] at h
        cases h4 : ((zv.cells.toList.all (·.oneCell') && Nat.beq zv.cells.size info.size) && (partsIn P d && zOk zv d)) with
        | false => rw [h4] at h; cases h
        | true =>
          rw [h4] at h
          simp only [cond_true, Option.some.injEq] at h
          simp only [Bool.and_eq_true, List.all_eq_true] at h4
          subst h
          have hl : RepL w S (zv.cells.toList.map ofValue) zv.cells.toList := ofValues_rep _ h4.1.1
          refine ⟨zv, by simp [zeroValue, typeInfo, h1, h3], ?_⟩
          have hzo := h4.2.2
          have hone := h4.1.1
          cases zv with
          | agg cs =>
            simp only [zOk] at hzo
            rw [hzo]
            exact repB_of_cells (v := .agg (cs.toList.map ofValue)) hz rfl ⟨cs.toList, by simp, hl⟩
          | _ =>
            simp only [zOk, Bool.not_eq_true'] at hzo
            rw [hzo]
            exact repB_of_cells (v := .c _) hz rfl ⟨hl.1, hone _ (by simp [Value.cells])⟩
theorem map_at {ka va : Bool} {kk vk : Kind} {es : List (kk.den × vk.den)} {en : Array MapEntry} (hl : en.size = es.length)
    (h : ∀ (i : Nat) p, es[i]? = some p → ∃ x : MapEntry, en[i]? = some x ∧ RepB w S (ka, emb kk p.1) x.key ∧ RepB w S (va, emb vk p.2) x.val) :
    en.toList.length = (es.map (·.1)).length ∧ ∀ (i : Nat) d, (es.map (·.1))[i]? = some d → ∃ x : MapEntry, en.toList[i]? = some x ∧ RepB w S (ka, emb kk d) x.key := by
  refine ⟨by simp [hl], fun i d hi => ?_⟩
  rw [List.getElem?_map] at hi
  cases hp : es[i]? with
  | none => rw [hp] at hi; cases hi
  | some p =>
    rw [hp] at hi; cases hi
    obtain ⟨x, h1, h2, _⟩ := h i p hp
    exact ⟨x, by simpa using h1, h2⟩
theorem did_lookup (hC : C.Ok P) (hI : Inv Fr C.nt S e a w) {t : TypeId} {x y : Operand} {b : Bool} (ho : o.op = .lookup t x y b) (hx : (effA C e.t.get o.dst o.op).run e.h.get = some (r, F)) : Did P Fr C.nt o e a w r := by
  rw [ho] at hx
  simp only [effA] at hx
  obtain ⟨m, k, hm, hk, hx⟩ := bi_inv hx
  have hrm := evalA_rep hI hm
  have hrk := evalA_rep hI hk
  unfold lookupA at hx
  cases hti : C.ty t with
  | none => rw [hti] at hx; exact run_fail hx
  | some i =>
    rw [hti] at hx
    obtain ⟨iu, is, ib, iz, ia, ik, ifs⟩ := i
    cases iu with
    | map kt et =>
      simp only at hx
      cases he : C.ty et with
      | none => rw [he] at hx; exact run_fail hx
      | some ei =>
        rw [he] at hx
        cases hkc : k.cells with
        | none => rw [hkc] at hx; cases m with
          | c c => cases c <;> exact run_fail hx
          | _ => exact run_fail hx
        | some bc =>
          obtain ⟨kb, cs⟩ := bc
          rw [hkc] at hx
          match m, hrm, hx with
          | .c (.ref n), hrm, hx =>
            simp only at hx
            obtain ⟨ob, F', hn, hy, _⟩ := RM.run_look hx
            cases ob with
            | map ka kk va vk es =>
              simp only at hy
              cases hc : (keyOk C kt ka kk && (kb == ka) && (ei.agg == va)) with
              | false => rw [hc] at hy; exact run_fail hy
              | true =>
                rw [hc] at hy
                simp only [cond_true] at hy
                simp only [Bool.and_eq_true, beq_iff_eq] at hc
                obtain ⟨⟨hko, rfl⟩, rfl⟩ := hc
                cases hpk : proj1 kk cs with
                | none => rw [hpk] at hy; exact run_fail hy
                | some key =>
                  cases hpz : proj1 vk ei.zero with
                  | none => rw [hpk, hpz] at hy; exact run_fail hy
                  | some z =>
                    rw [hpk, hpz] at hy
                    simp only at hy
                    have K := keyT_of hC hko
                    have hkr := repB_of_cells hpk hkc hrk
                    obtain ⟨b', en, clock, h1, h2, h3, h4⟩ := hI.objs n _ hn
                    obtain ⟨hv, _⟩ := hrm.1
                    rw [h1] at hv
                    have hax : a.eval x = .map (some b') := (Option.some.inj hv).symm
                    obtain ⟨_, d, _, g2, hu, _⟩ := under hC hti
                    have hd := UD.of_map hu.symm
                    subst hd
                    obtain ⟨l1, l2⟩ := map_at h3 h4
                    have hfind := K.find w S key _ hkr en.toList _ l1 l2
                    have hcheck := K.check w S en.isEmpty key _ hkr
                    obtain ⟨zv, z1, z2⟩ := zero_repB (w := w) (S := S) hC he hpz
                    have hrun : ∃ u, (Instr.lookup t (.map (some b')) (a.eval y) b).run P w = .ok (if b then .tuple #[u, .bool (mapGet kk vk es key).isSome] else u) w ∧ RepB w S (ei.agg, emb vk ((mapGet kk vk es key).getD z)) u := by
                      rw [mapGet_idx]
                      cases hix : mapIdx kk (es.map (·.1)) key with
                      | none =>
                        rw [hix] at hfind
                        refine ⟨zv, ?_, z2⟩
                        simp [Instr.lookup, run_underlying g2, MapKept.run_getObj_map h2, hcheck, hfind, z1]
                      | some j =>
                        rw [hix] at hfind
                        obtain ⟨dj, hj, _⟩ := mapIdx_lt _ _ _ _ hix
                        rw [List.getElem?_map] at hj
                        cases hp : es[j]? with
                        | none => rw [hp] at hj; cases hj
                        | some p =>
                          obtain ⟨en', k1, k2, k3⟩ := h4 j p hp
                          refine ⟨en'.val, ?_, ?_⟩
                          · simp [Instr.lookup, run_underlying g2, MapKept.run_getObj_map h2, hcheck, hfind, k1, hp]
                          · simp only [Option.bind_some, hp, Option.map_some, Option.getD_some]; exact k3
                    obtain ⟨u, hu1, hu2⟩ := hrun
                    cases b with
                    | true =>
                      simp only [cond_true] at hy
                      obtain ⟨rfl, rfl⟩ := run_ret hy
                      refine did_pure hI (v := .tuple #[u, .bool (mapGet kk vk es key).isSome]) ?_ ⟨[u, .bool (mapGet kk vk es key).isSome], rfl, hu2, ⟨rfl, rfl⟩, trivial⟩
                      simp only [if_true] at hu1
                      simp [execOp, ho, hax, hu1]
                    | false =>
                      simp only [cond_false] at hy
                      obtain ⟨q, F1, F2, q1, q2, _⟩ := RM.run_bind hy
                      obtain ⟨rfl, rfl⟩ := run_ret q2
                      simp only [Bool.false_eq_true, if_false] at hu1
                      exact did_pure hI (v := u) (by simp [execOp, ho, hax, hu1]) (aggOr_rep hu2 q1)
            | _ => exact run_fail hy
          | .c (.int ..), _, hx | .c (.bool _), _, hx | .c (.str _), _, hx | .c (.flt _), _, hx | .c (.sl ..), _, hx | .c .nil, _, hx | .c (.ptr ..), _, hx | .c (.eptr ..), _, hx | .c (.vptr ..), _, hx | .c (.gptr ..), _, hx
          | .c (.fn ..), _, hx | .c (.opq _), _, hx | .agg _, _, hx | .tup _, _, hx => exact run_fail hx
    | _ => exact run_fail hx
theorem did_mapUpdate (hC : C.Ok P) (hI : Inv Fr C.nt S e a w) {t : TypeId} {x y z : Operand} (ho : o.op = .mapUpdate t x y z) (hx : (effA C e.t.get o.dst o.op).run e.h.get = some (r, F)) : Did P Fr C.nt o e a w r := by
  rw [ho] at hx
  simp only [effA] at hx
  obtain ⟨m, k, hm, hk, hx⟩ := bi_inv hx
  obtain ⟨v, hv, hx⟩ := un_inv hx
  have hrm := evalA_rep hI hm
  have hrk := evalA_rep hI hk
  have hrv := evalA_rep hI hv
  unfold mapUpdateA at hx
  cases hti : C.ty t with
  | none => rw [hti] at hx; exact run_fail hx
  | some i =>
    rw [hti] at hx
    obtain ⟨iu, is, ib, iz, ia, ik, ifs⟩ := i
    cases iu with
    | map kt et =>
      simp only at hx
      cases hkc : k.cells with
      | none => rw [hkc] at hx; cases m with
        | c c => cases c <;> exact run_fail hx
        | _ => exact run_fail hx
      | some bc =>
        obtain ⟨kb, cs⟩ := bc
        rw [hkc] at hx
        cases hvc : v.cells with
        | none => rw [hvc] at hx; cases m with
          | c c => cases c <;> exact run_fail hx
          | _ => exact run_fail hx
        | some bd =>
          obtain ⟨vb, ds⟩ := bd
          rw [hvc] at hx
          match m, hrm, hx with
          | .c (.ref n), hrm, hx =>
            simp only at hx
            obtain ⟨ob, F', hn, hy, _⟩ := RM.run_look hx
            cases ob with
            | map ka kk va vk es =>
              simp only at hy
              cases hc : (keyOk C kt ka kk && (kb == ka) && (vb == va)) with
              | false => rw [hc] at hy; exact run_fail hy
              | true =>
                rw [hc] at hy
                simp only [cond_true] at hy
                simp only [Bool.and_eq_true, beq_iff_eq] at hc
                obtain ⟨⟨hko, rfl⟩, rfl⟩ := hc
                cases hpk : proj1 kk cs with
                | none => rw [hpk] at hy; exact run_fail hy
                | some key =>
                  cases hpv : proj1 vk ds with
                  | none => rw [hpk, hpv] at hy; exact run_fail hy
                  | some val =>
                    rw [hpk, hpv] at hy
                    simp only at hy
                    obtain ⟨rfl, rfl⟩ := run_ret hy
                    have K := keyT_of hC hko
                    have hkr := repB_of_cells hpk hkc hrk
                    have hvr := repB_of_cells hpv hvc hrv
                    obtain ⟨b', en, clock, h1, h2, h3, h4⟩ := hI.objs n _ hn
                    obtain ⟨hvn, _⟩ := hrm.1
                    rw [h1] at hvn
                    have hax : a.eval x = .map (some b') := (Option.some.inj hvn).symm
                    obtain ⟨_, d, _, g2, hu, _⟩ := under hC hti
                    have hd := UD.of_map hu.symm
                    subst hd
                    obtain ⟨l1, l2⟩ := map_at h3 h4
                    have hfind := K.find w S key _ hkr en.toList _ l1 l2
                    have hcheck := K.check w S false key _ hkr
                    have hlt : b' < w.heap.size := (Array.getElem?_eq_some_iff.1 h2).1
                    have hnimm := (hI.wr n _ _ b' hn rfl h1 rfl).1
                    have fin : ∀ (en' : Array MapEntry) (clock' : Nat) (es' : List (kk.den × vk.den)), (Instr.mapUpdate t (.map (some b')) (a.eval y) (a.eval z)).run P w = .ok () { w with heap := w.heap.setIfInBounds b' (.map en' clock') } →
                        en'.size = es'.length → (∀ (i : Nat) p, es'[i]? = some p → ∃ x : MapEntry, en'[i]? = some x ∧ RepB w S (kb, emb kk p.1) x.key ∧ RepB w S (vb, emb vk p.2) x.val) →
                        Did P Fr C.nt o e a w ⟨none, [(n, .map kb kk vb vk es')], []⟩ := fun en' clock' es' hrun q1 q2 => by
                      have hkeep : Keeps S.imm w { w with heap := w.heap.setIfInBounds b' (.map en' clock') } := fun k hk => by
                        have : k ≠ b' := fun hc => hnimm (hc ▸ hk)
                        simp [Array.getElem?_setIfInBounds_ne (Ne.symm this)]
                      refine did_skip (S' := S) (w' := { w with heap := w.heap.setIfInBounds b' (.map en' clock') }) (by simp [execOp, ho, hax, hrun]) rfl ?_
                      refine hI.rewrite hn rfl h1 rfl (fun k hk => by simp [Array.getElem?_setIfInBounds_ne (Ne.symm hk)]) (by simp) rfl rfl rfl ⟨b', en', clock', h1, by simp [hlt], q1, fun i p hp => ?_⟩
                      obtain ⟨x, k1, k2, k3⟩ := q2 i p hp
                      exact ⟨x, k1, k2.keep (St.le.refl S) hkeep, k3.keep (St.le.refl S) hkeep⟩
                    rw [mapPut_idx]
                    cases hix : mapIdx kk (es.map (·.1)) key with
                    | none =>
                      rw [hix] at hfind
                      refine fin (en.push { key := a.eval y, val := a.eval z, born := clock }) (clock + 1) _ ?_ (by simp [h3]) (fun i p hp => ?_)
                      · simp [Instr.mapUpdate, run_underlying g2, MapKept.run_getObj_map h2, hcheck, hfind, MapKept.run_setObj_map _ h2]
                      · by_cases hi : i < es.length
                        · rw [List.getElem?_append_left hi] at hp
                          obtain ⟨x, k1, k2⟩ := h4 i p hp
                          exact ⟨x, by rw [Array.getElem?_push, if_neg (by omega)]; exact k1, k2⟩
                        · rw [List.getElem?_append_right (by omega)] at hp
                          have hi0 : i - es.length = 0 := by
                            have := (List.getElem?_eq_some_iff.1 hp).1; simp at this; omega
                          rw [hi0] at hp
                          simp only [List.getElem?_cons_zero, Option.some.injEq] at hp
                          subst hp
                          exact ⟨_, by rw [Array.getElem?_push, if_pos (by omega)], hkr, hvr⟩
                    | some j =>
                      rw [hix] at hfind
                      obtain ⟨dj, hj, hkeq⟩ := mapIdx_lt _ _ _ _ hix
                      rw [List.getElem?_map] at hj
                      cases hp : es[j]? with
                      | none => rw [hp] at hj; cases hj
                      | some p =>
                        rw [hp] at hj; cases hj
                        obtain ⟨en0, k1, k2, k3⟩ := h4 j p hp
                        have hst := K.stays w S key p.1 _ _ hkeq hkr k2
                        have hj' : j < en.size := (Array.getElem?_eq_some_iff.1 k1).1
                        refine fin (en.modify j fun e => { e with key := a.eval y, val := a.eval z }) clock _ ?_ (by simp [h3]) (fun i q hq => ?_)
                        · simp [Instr.mapUpdate, run_underlying g2, MapKept.run_getObj_map h2, hcheck, hfind, k1, hst, MapKept.run_setObj_map _ h2]
                        · rw [List.getElem?_set] at hq
                          by_cases hji : j = i
                          · subst hji
                            rw [if_pos rfl, if_pos (by omega)] at hq
                            cases hq
                            refine ⟨{ en0 with key := a.eval y, val := a.eval z }, ?_, hkr, hvr⟩
                            rw [Array.getElem?_modify]; simp [k1]
                          · rw [if_neg hji] at hq
                            obtain ⟨x, q1, q2⟩ := h4 i q hq
                            exact ⟨x, by rw [Array.getElem?_modify, if_neg hji]; exact q1, q2⟩
            | _ => exact run_fail hy
          | .c (.int ..), _, hx | .c (.bool _), _, hx | .c (.str _), _, hx | .c (.flt _), _, hx | .c (.sl ..), _, hx | .c .nil, _, hx | .c (.ptr ..), _, hx | .c (.eptr ..), _, hx | .c (.vptr ..), _, hx | .c (.gptr ..), _, hx
          | .c (.fn ..), _, hx | .c (.opq _), _, hx | .agg _, _, hx | .tup _, _, hx => exact run_fail hx
    | _ => exact run_fail hx
end
end Go.Eng

namespace Go.Eng

/-- A function of the program's that has a body and is none of the model's own. -/
def callable (P : Program) (f : FuncId) : Bool := match P.funcs[f]? with
  | some fn => !(fn.name == "runtime.NumGoroutine") && fn.body.isSome
  | none => false

/-- A function of the model's own, that answers at once and from its arguments alone. -/
structure Extn (P : Program) (f : FuncId) (g : Sg) : Prop where
  ih : g.ins.h.length = 0
  oh : g.outs.h.length = 0
  sl : g.outs.slfree = true
  run : ∀ (w : World) (S : St) (vals : Array Value) (x : g.ins.den) (y : g.β), RepAs w S ((encT g.ins.t x.1).map (·.2)) vals.toList → g.fn x = some y →
    ∃ u v p, (callFunc f vals).run P w = .ok (.value u) w ∧ encT g.outs.t (g.dn y).1 = [(p, v)] ∧ (∀ ρ, v.ren ρ = v) ∧ ∀ S', RepA w S' v u
/-- What is asked of what is called. -/
def SoundC (P : Program) (gl : Nat → Option (List Cell)) (f : FuncId) (g : Sg) : Prop := (callable P f = true ∧ Sound P gl f g) ∨ Extn P f g

section
variable {P : Program} {C : Ctx} {Fr : Fd} {S : St} {o : Oper} {e : Env} {a : Act} {w : World} {r : Res} {F : List Nat}

theorem RepAs.get : ∀ {xs : List AVal} {vs : List Value}, RepAs w S xs vs → ∀ (i : Nat) v, xs[i]? = some v → ∃ u, vs[i]? = some u ∧ RepA w S v u
  | [], [], _, i, v, h => by simp at h
  | x :: xs, u :: vs, hr, 0, v, h => by simp at h; subst h; exact ⟨u, rfl, hr.1⟩
  | x :: xs, u :: vs, hr, i + 1, v, h => by obtain ⟨u', h1, h2⟩ := RepAs.get hr.2 i v (by simpa using h); exact ⟨u', by simpa using h1, h2⟩
theorem RepAs.length : ∀ {xs : List AVal} {vs : List Value}, RepAs w S xs vs → xs.length = vs.length
  | [], [], _ => rfl
  | _ :: _, _ :: _, h => by simp [RepAs.length h.2]
theorem RepAs.append : ∀ {xs ys : List AVal} {vs us : List Value}, RepAs w S xs vs → RepAs w S ys us → RepAs w S (xs ++ ys) (vs ++ us)
  | [], _, [], _, _, h => h
  | _ :: _, _, _ :: _, _, h, k => ⟨h.1, RepAs.append h.2 k⟩
theorem RepAs.mk : ∀ {xs : List AVal} {vs : List Value}, xs.length = vs.length → (∀ (i : Nat) v, xs[i]? = some v → ∃ u, vs[i]? = some u ∧ RepA w S v u) → RepAs w S xs vs
  | [], [], _, _ => trivial
  | x :: xs, v :: vs, hl, h => by
    refine ⟨?_, RepAs.mk (by simpa using hl) fun i u hi => ?_⟩
    · obtain ⟨u, h1, h2⟩ := h 0 x rfl
      simp at h1; subst h1; exact h2
    · obtain ⟨u', h1, h2⟩ := h (i + 1) u (by simpa using hi)
      exact ⟨u', by simpa using h1, h2⟩
  | [], _ :: _, hl, _ => by simp at hl
  | _ :: _, [], hl, _ => by simp at hl
theorem keysOk_get : ∀ {l : List (Nat × SA)} {j : Nat}, keysOk j l = true → ∀ (i : Nat) p, l[i]? = some p → p.1 = j + i
  | [], _, _, i, p, h => by simp at h
  | q :: l, j, hk, i, p, h => by
    simp only [keysOk, Bool.and_eq_true] at hk
    cases i with
    | zero => simp at h; subst h; exact beq_iff.1 hk.1
    | succ i => have := keysOk_get hk.2 i p (by simpa using h); omega
theorem encT_key : ∀ {l : List (Nat × SA)} {x : denT l} {i p : Nat} {v : AVal}, (encT l x)[i]? = some (p, v) → ∃ sa, l[i]? = some (p, sa)
  | [], _, _, _, _, h => by simp [encT] at h
  | q :: l, x, 0, p, v, h => by simp [encT] at h; exact ⟨q.2, by simp [← h.1]⟩
  | q :: l, x, i + 1, p, v, h => by obtain ⟨sa, h1⟩ := encT_key (i := i) (by simpa [encT] using h); exact ⟨sa, by simpa using h1⟩
theorem encT_length : ∀ (l : List (Nat × SA)) (x : denT l), (encT l x).length = l.length
  | [], _ => rfl
  | _ :: l, x => by simp [encT, encT_length l]

theorem FS.Ok.empty {h : Nat → Option Obj} : FS.Ok h S ⟨[], [], [], []⟩ :=
  ⟨fun j n hj => by simp [FS.nameOf, AL.get] at hj, fun i j n _ _ hi => by simp [FS.nameOf, AL.get] at hi, fun j n ob _ hj => by simp [FS.nameOf, AL.get] at hj, fun n ob h => by simp at h, fun j h => by simp at h⟩

theorem did_callA (hC : C.Ok P) (hsg : ∀ f ks g, C.sg f ks = some g → SoundC P C.gl f g) (hgl : Fr.gl = C.gl) (hI : Inv Fr C.nt S e a w) {c : Call} {fo : Operand} {f : FuncId} {caps : List Nat} {xs : List AVal}
    (ho : o.op = .call c) (hcv : c.callee = .value fo) (hf : evalA e.t.get fo = some (.c (.fn f caps))) (hxs : argsA e.t.get c.args.toList = some xs)
    (hx : (callA C (o.dst.getD 0) f (xs ++ caps.map fun n => .c (.ptr n 0))).run e.h.get = some (r, F)) (hw : writesOk e.h F.reverse r = true) : Did P Fr C.nt o e a w r := by
  obtain ⟨⟨vs, hfv, hvl, hvs⟩, _⟩ := evalA_rep hI hf
  unfold callA at hx
  cases hg : C.sg f (fnsA (xs ++ caps.map fun n => .c (.ptr n 0))) with
  | none => rw [hg] at hx; exact run_fail hx
  | some g =>
    have hfg := hsg f _ g hg
    rw [hg] at hx
    simp only at hx
    cases hb : (Nat.beq (xs ++ caps.map fun n => AVal.c (.ptr n 0)).length g.ins.t.length && Nat.ble g.ins.h.length g.outs.h.length && keysOk 0 g.ins.t && g.ins.h.all SO.live) with
    | false => rw [hb] at hx; exact run_fail hx
    | true =>
      rw [hb] at hx
      simp only [Bool.and_eq_true] at hb
      obtain ⟨⟨⟨hb1, hb2⟩, hb3⟩, hb4⟩ := hb
      have hlen := beq_iff.1 hb1
      have hle := Nat.le_of_ble_eq_true hb2
      obtain ⟨⟨x, s⟩, F1, F2, e1, e2, hF⟩ := RM.run_bind hx
      simp only at e2
      cases hz : s.z.isEmpty with
      | false => rw [hz] at e2; exact run_fail e2
      | true =>
        rw [hz] at e2
        have hz' : s.z = [] := by simpa using hz
        simp only [cond_true, RM.run] at e2
        cases hy : g.fn x with
        | none => rw [hy] at e2; cases e2
        | some y =>
          rw [hy] at e2
          -- the arguments
          have hargs : RepAs w S (xs ++ caps.map fun n => AVal.c (.ptr n 0)) (c.args.toList.map a.eval ++ vs) := by
            refine (argsA_rep hI hxs).append (RepAs.mk (by simp [hvl]) fun i v hi => ?_)
            rw [List.getElem?_map] at hi
            cases hc : caps[i]? with
            | none => rw [hc] at hi; cases hi
            | some n =>
              rw [hc] at hi; cases hi
              obtain ⟨b, h1, h2⟩ := hvs i n hc
              exact ⟨_, h2, ⟨b, h1, rfl⟩, rfl⟩
          obtain ⟨l1, o1, r1, A1, m1, t1, wi⟩ := fit_anew hI (val := fun i => (c.args.toList.map a.eval ++ vs)[i]?) (fun i v hi => hargs.get i v hi) FS.Ok.empty rfl e1
          have hlive : ∀ j o', AL.get (encH 0 g.ins.h x.2) j = some o' → o'.mut = true := fun j o' hj => by
            obtain ⟨k, hk⟩ := AL.get_mem hj
            have liv : ∀ (l : List SO) (i k : Nat) (x : denO l) (p : Nat × Obj), l.all SO.live = true → (encH i l x)[k]? = some p → p.2.mut = true := fun l => by
              induction l with
              | nil => intro i k x p _ h; simp [encH] at h
              | cons so l ih =>
                intro i k x p hl h
                simp only [List.all_cons, Bool.and_eq_true] at hl
                cases k with
                | zero => simp [encH] at h; subst h; cases so <;> first | rfl | cases hl.1
                | succ k => exact ih (i + 1) k x.2 p hl.2 (by simpa [encH] using h)
            exact liv _ _ _ _ _ hb4 hk
          have hpass : ∀ j, j < g.ins.h.length → ∃ n ob v, s.nameOf j = some n ∧ e.h.get n = some ob ∧ ob.mut = true ∧ S.val n = some v := fun j hj => by
            rcases t1 j hj with h | ⟨n, hn⟩
            · rw [hz'] at h; cases h
            · obtain ⟨o', ho'⟩ := encH_some (l := g.ins.h) (j := 0) (x := x.2) (i := j) (Nat.zero_le _) (by omega)
              obtain ⟨ob, h1, h2⟩ := m1 j o' n ho' (hlive j o' ho') hn
              obtain ⟨v, hv⟩ := o1.val j n hn
              exact ⟨n, ob, v, hn, h1, h2, hv⟩
          have hdead : s.d = [] := by
            rw [l1.d]
            have key : ∀ (l : List SO) (j : Nat), l.all SO.live = true → deadsOf j l = [] := fun l => by
              induction l with
              | nil => intro j _; rfl
              | cons so l ih =>
                intro j h
                simp only [List.all_cons, Bool.and_eq_true] at h
                cases so with
                | dead => cases h.1
                | _ => exact ih _ h.2
            exact key _ _ hb4
          have I0 := A1.call (np := g.ins.h.length) hI (fun j hj => by
            obtain ⟨n, ob, v, h1, h2, h3, h4⟩ := hpass j hj
            exact ⟨v, (o1.sees.m j n h1).trans h4⟩) (fun j o' hj => by
            obtain ⟨k, hk⟩ := AL.get_mem hj
            have := encH_mem (List.mem_of_getElem? hk); omega)
          have hargs' : RepAs w (s.view S) ((encT g.ins.t x.1).map (·.2)) (c.args.toList.map a.eval ++ vs) := by
            refine RepAs.mk (by rw [List.length_map, encT_length, ← hlen, hargs.length]) fun i v hi => ?_
            rw [List.getElem?_map] at hi
            cases hq : (encT g.ins.t x.1)[i]? with
            | none => rw [hq] at hi; cases hi
            | some pv =>
              obtain ⟨p, v'⟩ := pv
              rw [hq] at hi; cases hi
              obtain ⟨sa, hsa⟩ := encT_key hq
              have hp := keysOk_get hb3 i _ hsa
              obtain ⟨u, h1, h2⟩ := r1 i p _ hq
              simp only at hp
              rw [show p = i by omega] at h1
              exact ⟨u, h1, h2⟩
          have hval : (c.args.map a.eval ++ vs.toArray).toList = c.args.toList.map a.eval ++ vs := by simp
          have e3 : resolve a.eval c o.type = pure { target := .fn (.func f) vs.toArray, args := c.args.map a.eval } := by
            unfold resolve; rw [hcv]; show Deferred.ofValue (a.eval fo) _ = _; rw [hfv]; simp [Deferred.ofValue]
          rcases hfg with ⟨hcall, hsound⟩ | hext
          rotate_left
          · obtain ⟨u, v, p, k1, k2, k3, k4⟩ := hext.run w (s.view S) (c.args.map a.eval ++ vs.toArray) x y (by rw [hval]; exact hargs') hy
            have hrun : (execOp a.eval o).run P w = .ok (.value u) w := by
              unfold execOp; rw [ho]; show Sem.run P (resolve a.eval c o.type >>= fun d => invoke d.target d.args) w = _
              rw [e3]
              exact k1
            have h0 : encH 0 g.outs.h (g.dn y).2 = [] := by
              have := encH_length g.outs.h 0 (g.dn y).2
              rw [hext.oh] at this
              exact List.length_eq_zero_iff.1 this
            have e4 : (backRes g s (o.dst.getD 0) y).run e.h.get = some (r, F2) := e2
            simp only [backRes, Shape.enc, k2, h0, hext.sl, cond_true, List.map_nil, List.take_nil, List.drop_nil, List.append_nil, k3] at e4
            obtain ⟨rfl, _⟩ := run_ret e4
            exact did_pure hI hrun (k4 S)
          have hcalls := hsound w (s.view S) (c.args.map a.eval ++ vs.toArray) x y (by rw [← hgl]; exact I0) (by rw [hval]; exact hargs') hy
          have hrun : (execOp a.eval o).run P w = .ok (.enter f (c.args.map a.eval ++ vs.toArray)) w := by
            unfold execOp; rw [ho]; show Sem.run P (resolve a.eval c o.type >>= fun d => invoke d.target d.args) w = _
            rw [e3]
            show Sem.run P (callFunc f (c.args.map a.eval ++ vs.toArray)) w = _
            unfold callable at hcall
            cases hfn : P.funcs[f]? with
            | none => rw [hfn] at hcall; cases hcall
            | some fn =>
              rw [hfn] at hcall
              simp only [Bool.and_eq_true, Bool.not_eq_true'] at hcall
              have hbody : fn.body.isNone = false := by cases hbb : fn.body <;> simp_all
              simp only [callFunc, Sem.run_bind, run_program, Result.andThen_ok, hfn, hcall.1, hbody, if_false, Bool.false_eq_true, Sem.run_pure]
          intro K Q hK
          unfold Oper.wp
          rw [hrun, Oper.upon_enter]
          refine hcalls.mono ?_
          rintro en w' ⟨v, S', rfl, ⟨p, v0, ht, hrv⟩, hI'⟩
          obtain ⟨S3, I3, hv3⟩ := back rfl hI (g := g) (x := x) (y := y) (s := s) (d := o.dst.getD 0) o1 hdead A1 wi hle hpass (by rw [hgl]; exact hI') ht hrv e2 hw
          exact hK v w' S3 hv3 I3

theorem caps_rep : ∀ {vs : List AVal} {us : List Value} {ns : List Nat}, RepAs w S vs us → capNames vs = some ns → us.length = ns.length ∧ ∀ (i n : Nat), ns[i]? = some n → ∃ b, S.val n = some (.pointer (some ⟨b, 0, none⟩)) ∧ us[i]? = some (Value.pointer (some ⟨b, 0, none⟩))
  | [], [], ns, _, h => by simp only [capNames, Option.some.injEq] at h; subst h; exact ⟨rfl, fun i n hi => by simp at hi⟩
  | .c (.ptr n o) :: vs, u :: us, ns, hr, h => by
    simp only [capNames] at h
    cases hb : Nat.beq o 0 with
    | false => rw [hb] at h; cases h
    | true =>
      rw [hb] at h
      have := beq_iff.1 hb
      subst this
      cases hc : capNames vs with
      | none => rw [hc] at h; cases h
      | some ms =>
        rw [hc] at h
        simp only [cond_true, Option.some.injEq] at h
        subst h
        obtain ⟨h1, h2⟩ := caps_rep hr.2 hc
        refine ⟨by simp [h1], fun i m hi => ?_⟩
        cases i with
        | zero =>
          simp only [List.getElem?_cons_zero, Option.some.injEq] at hi
          subst hi
          obtain ⟨⟨b, g1, g2⟩, _⟩ := hr.1
          exact ⟨b, g1, by simp [g2]⟩
        | succ i =>
          obtain ⟨b, g1, g2⟩ := h2 i m (by simpa using hi)
          exact ⟨b, g1, by simpa using g2⟩
  | .c (.int ..) :: _, _, _, _, h | .c (.bool _) :: _, _, _, _, h | .c (.str _) :: _, _, _, _, h | .c (.flt _) :: _, _, _, _, h | .c (.sl ..) :: _, _, _, _, h | .c .nil :: _, _, _, _, h | .c (.ref _) :: _, _, _, _, h | .c (.eptr ..) :: _, _, _, _, h
  | .c (.vptr ..) :: _, _, _, _, h | .c (.gptr ..) :: _, _, _, _, h | .c (.fn ..) :: _, _, _, _, h | .c (.opq _) :: _, _, _, _, h | .agg _ :: _, _, _, _, h | .tup _ :: _, _, _, _, h => by cases h
  | [], _ :: _, _, hr, _ => hr.elim
  | .c (.ptr ..) :: _, [], _, hr, _ => hr.elim

theorem did_makeFunc (hI : Inv Fr C.nt S e a w) {fn : Fn} {first caps : Array Operand} (ho : o.op = .makeFunc fn first caps) (hx : (effA C e.t.get o.dst o.op).run e.h.get = some (r, F)) : Did P Fr C.nt o e a w r := by
  rw [ho] at hx
  cases fn with
  | func f =>
    simp only [effA] at hx
    cases hf : first.toList with
    | cons _ _ => rw [hf] at hx; exact run_fail hx
    | nil =>
      rw [hf] at hx
      have hf' : first = #[] := by cases first; simpa using hf
      cases hv : argsA e.t.get caps.toList with
      | none => rw [hv] at hx; exact run_fail hx
      | some vs =>
        rw [hv] at hx
        simp only at hx
        cases hc : capNames vs with
        | none => rw [hc] at hx; exact run_fail hx
        | some ns =>
          rw [hc] at hx
          obtain ⟨rfl, rfl⟩ := run_ret (h := e.h.get) hx
          obtain ⟨h1, h2⟩ := caps_rep (argsA_rep hI hv) hc
          refine did_pure hI (v := .func (.func f) #[] (caps.toList.map a.eval).toArray) ?_ ⟨⟨_, rfl, h1, h2⟩, rfl⟩
          simp [execOp, ho, hf', Instr.makeFunc]
          cases caps
          simp
  | _ => exact run_fail hx

/-- **Every operation does what the engine says.** -/
theorem did_op (hC : C.Ok P) (hsg : ∀ f ks g, C.sg f ks = some g → SoundC P C.gl f g) (hgl : Fr.gl = C.gl) (hI : Inv Fr C.nt S e a w)
    (hx : (effA C e.t.get o.dst o.op).run e.h.get = some (r, F)) (hw : writesOk e.h F.reverse r = true) : Did P Fr C.nt o e a w r := by
  cases ho : o.op with
  | move x => exact did_move hI (.inl ho) hx
  | assign x => exact did_move hI (.inr ho) hx
  | pick c x y => exact did_pick hI ho hx
  | alloc t => exact did_alloc hC hI ho hx hw
  | box t x => exact did_box hI ho hx hw
  | build t ps => exact did_build hC hI ho hx hw
  | buildSlice t n ps => exact did_buildSlice hC hI ho hx hw
  | makeSlice t x y => exact did_makeSlice hC hI ho hx hw
  | load t x => exact did_load hC hgl hI ho hx
  | store t x y => exact did_store hC hI ho hx
  | nilCheck x => exact did_nilCheck hI ho hx
  | binOp op t x y u =>
    by_cases hag : ∃ xs ys, evalA e.t.get x = some (.agg xs) ∧ evalA e.t.get y = some (.agg ys)
    · obtain ⟨xs, ys, h1, h2⟩ := hag
      exact did_eq hC hI ho h1 h2 hx
    · exact did_bin hC hI ho (fun xs ys v h1 h2 h3 => hag ⟨xs, ys, h1, h2⟩) hx
  | unOp op t x => exact did_un hI ho hx
  | convert s t x => exact did_conv hC hI ho hx
  | slice t x lo hi mx => exact did_slice hC hgl hI ho hx hw
  | fieldAddr t x f => exact did_fieldAddr hC hI ho hx
  | field t x f => exact did_field hC hI ho hx
  | indexAddr t x y => exact did_indexAddr hC hgl hI ho hx
  | index t x y => exact did_index hC hI ho hx
  | extract x i => exact did_extract hI ho hx
  | makeFunc fn first caps => exact did_makeFunc hI ho hx
  | makeMap t rs => exact did_makeMap hC hI ho hx hw
  | lookup t x y b => exact did_lookup hC hI ho hx
  | mapUpdate t x y z => exact did_mapUpdate hC hI ho hx
  | call c =>
    rw [ho] at hx
    simp only [effA] at hx
    cases hxs : argsA e.t.get c.args.toList with
    | none => rw [hxs] at hx; exact run_fail hx
    | some xs =>
      rw [hxs] at hx
      simp only at hx
      cases hcc : c.callee with
      | builtin b => rw [hcc] at hx; exact did_builtin hC hI ho hcc hxs hx hw
      | invoke rc m => rw [hcc] at hx; exact run_fail hx
      | value fo =>
        rw [hcc] at hx
        simp only at hx
        cases hfo : evalA e.t.get fo with
        | none => rw [hfo] at hx; exact run_fail hx
        | some v =>
          rw [hfo] at hx
          match v, hfo, hx with
          | .c (.fn f caps), hfo, hx => exact did_callA hC hsg hgl hI ho hcc hfo hxs hx hw
          | .c (.int ..), _, hx | .c (.bool _), _, hx | .c (.str _), _, hx | .c (.flt _), _, hx | .c (.sl ..), _, hx | .c .nil, _, hx | .c (.ref _), _, hx | .c (.ptr ..), _, hx | .c (.eptr ..), _, hx | .c (.vptr ..), _, hx | .c (.gptr ..), _, hx
          | .c (.opq _), _, hx | .agg _, _, hx | .tup _, _, hx => exact run_fail hx
  | _ => rw [ho] at hx; exact run_fail hx
end
end Go.Eng

namespace Go.Eng

/-! ### Steps -/
theorem step_of_stepK {R : Type} {C : Ctx} {dst : Option Nat} {op : Op} {e : Env} {K : Env → Log → Option R} {r : R} (h : stepK C dst op e K = some r) : ∃ e' l, step C dst op e = some (e', l) ∧ K e' l = some r := by
  unfold stepK at h
  obtain ⟨a, F', h1, h2⟩ := RM.run_runK h
  simp only [List.append_nil] at h2
  cases hb : (writesOk e.h F'.reverse a && dstOk C.nt dst) with
  | false => rw [hb] at h2; cases h2
  | true =>
    rw [hb] at h2
    exact ⟨_, _, by unfold step; rw [h1]; simp only [hb, cond_true], h2⟩
theorem step_inv {C : Ctx} {dst : Option Nat} {op : Op} {e e' : Env} {l : Log} (h : step C dst op e = some (e', l)) :
    ∃ r F, (effA C e.t.get dst op).run e.h.get = some (r, F) ∧ writesOk e.h F.reverse r = true ∧ dstOk C.nt dst = true ∧ e' = ⟨putV e.t dst r.v, setAll r.news (setAll r.ups e.h)⟩ ∧ l = ⟨F.reverse, (r.ups ++ r.news).map (·.1)⟩ := by
  unfold step at h
  cases hr : (effA C e.t.get dst op).run e.h.get with
  | none => rw [hr] at h; cases h
  | some p =>
    obtain ⟨r, F⟩ := p
    rw [hr] at h
    simp only at h
    cases hb : (writesOk e.h F.reverse r && dstOk C.nt dst) with
    | false => rw [hb] at h; cases h
    | true =>
      rw [hb] at h
      simp only [cond_true, Option.some.injEq, Prod.mk.injEq] at h
      simp only [Bool.and_eq_true] at hb
      exact ⟨r, F, rfl, hb.1, hb.2, h.1.symm, h.2.symm⟩

/-- An operation under its guard. -/
def stepG (C : Ctx) (ops : Array Oper) (o : Oper) (e : Env) : Option (Env × Log) := match o.guard with
  | none => step C o.dst o.op e
  | some (g, want) => match guardTmp ops g with
    | none => none
    | some d => match e.t.get d with
      | some (.c (.bool b)) => bif (b == want) then step C o.dst o.op e else bif dstOk C.nt o.dst then some ({ e with t := putV e.t o.dst (some (.tup [])) }, ⟨[], []⟩) else none
      | some (.tup []) => bif dstOk C.nt o.dst then some ({ e with t := putV e.t o.dst (some (.tup [])) }, ⟨[], []⟩) else none
      | _ => none

section
variable {P : Program} {C : Ctx} {Fr : Fd} {ops : Array Oper}

theorem Inv.undef {nt : Nat} {S : St} {e : Env} {a : Act} {w : World} (h : Inv Fr nt S e a w) {dst : Option Nat} (hd : dstOk nt dst = true) : Inv Fr nt S ⟨putV e.t dst (some (.tup [])), e.h⟩ (a.put dst undef) w :=
  h.put (v := some (.tup [])) (u := Go.undef) (fun x hx => by cases hx; exact ⟨[], rfl, trivial⟩) hd
theorem yielded_tup {nt : Nat} {S : St} {e : Env} {a : Act} {w : World} (h : Inv Fr nt S e a w) {g d : Nat} (hg : guardTmp ops g = some d) (hb : e.t.get d = some (.tup [])) : yielded ops a.tmps g = none := by
  obtain ⟨u, h1, vs, h2, h3⟩ := h.tmps d _ hb
  cases vs with
  | cons _ _ => exact h3.elim
  | nil =>
    subst h2
    unfold guardTmp at hg
    unfold yielded
    cases ho : ops[g]? with
    | none => rw [ho] at hg; cases hg
    | some o =>
      rw [ho] at hg
      simp only at hg
      simp [hg, h1]

theorem yielded_of {nt : Nat} {S : St} {e : Env} {a : Act} {w : World} (h : Inv Fr nt S e a w) {g d : Nat} {b : Bool} (hg : guardTmp ops g = some d) (hb : e.t.get d = some (.c (.bool b))) : yielded ops a.tmps g = some b := by
  obtain ⟨u, h1, h2, _⟩ := h.tmps d _ hb
  have h2' : u = .bool b := h2
  subst h2'
  unfold guardTmp at hg
  unfold yielded
  cases ho : ops[g]? with
  | none => rw [ho] at hg; cases hg
  | some o =>
    rw [ho] at hg
    simp only at hg
    simp [hg, h1]

theorem wpOp_of_stepG (hC : C.Ok P) (hsg : ∀ f ks g, C.sg f ks = some g → SoundC P C.gl f g) (hgl : Fr.gl = C.gl) {S : St} {e e' : Env} {a : Act} {w : World} {l : Log} (hI : Inv Fr C.nt S e a w) {i : Nat} {o : Oper} (ho : ops[i]? = some o)
    (hs : stepG C ops o e = some (e', l)) {K : Act → World → Prop} {Q : Exit → Act → World → Prop} (hK : ∀ a' w' S', Inv Fr C.nt S' e' a' w' → K a' w') : wpOp P ops Q i K a w := by
  have act : ∀ {e' : Env} {l : Log}, step C o.dst o.op e = some (e', l) → (∀ a' w' S', Inv Fr C.nt S' e' a' w' → K a' w') → o.wp P a w K Q := fun {e' l} hs hK => by
    obtain ⟨r, F, h1, h2, h3, rfl, _⟩ := step_inv hs
    exact did_op hC hsg hgl hI h1 h2 K Q fun u w' S' hv hI' => hK _ _ S' (hI'.put hv h3)
  unfold wpOp
  rw [ho]
  show if Region.wanted o (yielded ops a.tmps) = true then _ else _
  unfold stepG at hs
  cases hg : o.guard with
  | none =>
    rw [hg] at hs
    rw [if_pos (by simp [Region.wanted, hg])]
    exact .inl (act hs hK)
  | some gw =>
    obtain ⟨g, want⟩ := gw
    rw [hg] at hs
    simp only at hs
    cases hgt : guardTmp ops g with
    | none => rw [hgt] at hs; cases hs
    | some d =>
      rw [hgt] at hs
      simp only at hs
      cases hd : e.t.get d with
      | none => rw [hd] at hs; cases hs
      | some v =>
        rw [hd] at hs
        match v, hd, hs with
        | .c (.bool b), hd, hs =>
          have hy := yielded_of hI hgt hd
          simp only at hs
          have hwn : Region.wanted o (yielded ops a.tmps) = (b == want) := by
            unfold Region.wanted; rw [hg]; simp only [hy]; cases b <;> cases want <;> rfl
          cases hbw : (b == want) with
          | true =>
            rw [hbw] at hs
            rw [if_pos (by rw [hwn, hbw])]
            exact .inl (act hs hK)
          | false =>
            rw [hbw] at hs
            cases hdo : dstOk C.nt o.dst with
            | false => rw [hdo] at hs; cases hs
            | true =>
              rw [hdo] at hs
              simp only [cond_false, cond_true, Option.some.injEq, Prod.mk.injEq] at hs
              obtain ⟨rfl, _⟩ := hs
              rw [if_neg (by rw [hwn, hbw]; simp)]
              exact hK _ _ S (hI.undef hdo)
        | .tup [], hd, hs =>
          have hy := yielded_tup hI hgt hd
          simp only at hs
          have hwn : Region.wanted o (yielded ops a.tmps) = false := by
            unfold Region.wanted; rw [hg]; simp only [hy]; cases want <;> rfl
          cases hdo : dstOk C.nt o.dst with
          | false => rw [hdo] at hs; cases hs
          | true =>
            rw [hdo] at hs
            simp only [cond_true, Option.some.injEq, Prod.mk.injEq] at hs
            obtain ⟨rfl, _⟩ := hs
            rw [if_neg (by rw [hwn]; simp)]
            exact hK _ _ S (hI.undef hdo)
        | .c (.int ..), _, hx | .c (.str _), _, hx | .c (.flt _), _, hx | .c (.sl ..), _, hx | .c .nil, _, hx | .c (.ref _), _, hx | .c (.ptr ..), _, hx | .c (.eptr ..), _, hx | .c (.vptr ..), _, hx | .c (.gptr ..), _, hx
        | .c (.fn ..), _, hx | .c (.opq _), _, hx | .agg _, _, hx | .tup (_ :: _), _, hx => cases hx

/-! ### The order of the text -/
/-- Operations, by their numbers, one behind the other; 'lg' says each one's log. -/
def RunI (C : Ctx) (ops : Array Oper) (lg : Nat → Log) : List Nat → Env → Env → Prop
  | [], e, e' => (∀ n, e.t.get n = e'.t.get n) ∧ ∀ n, e.h.get n = e'.h.get n
  | i :: is, e, e' => ∃ o e1, ops[i]? = some o ∧ stepG C ops o e = some (e1, lg i) ∧ RunI C ops lg is e1 e'

theorem Inv.same {nt : Nat} {S : St} {e e' : Env} {a : Act} {w : World} (h : Inv Fr nt S e a w) (ht : ∀ n, e.t.get n = e'.t.get n) (hh : ∀ n, e.h.get n = e'.h.get n) : Inv Fr nt S e' a w :=
  { h.congr (h' := e'.h) (fun n => (hh n).symm) with tmps := fun t v hv => h.tmps t v (by rw [ht]; exact hv) }

theorem wpOps_run (hC : C.Ok P) (hsg : ∀ f ks g, C.sg f ks = some g → SoundC P C.gl f g) (hgl : Fr.gl = C.gl) {lg : Nat → Log} {Q : Exit → Act → World → Prop} {e' : Env} (hQ : ∀ a w S, Inv Fr C.nt S e' a w → Q .normal a w) :
    ∀ {is : List Nat} {e : Env} {a : Act} {w : World} {S : St}, Inv Fr C.nt S e a w → RunI C ops lg is e e' → wpOps P ops Q is a w
  | [], e, a, w, S, hI, hr => hQ a w S (hI.same hr.1 hr.2)
  | i :: is, e, a, w, S, hI, ⟨o, e1, ho, hs, hr⟩ => by
    rw [wpOps_cons]
    exact wpOp_of_stepG hC hsg hgl hI ho hs fun a' w' S' hI' => wpOps_run hC hsg hgl hQ hI' hr

/-- What the engine computes, is a run. -/
theorem opsK_run {R : Type} : ∀ {os : List Oper} {k : Nat} {e : Env} {L : List Log} {K : Env → List Log → Option R} {r : R}, (∀ j : Nat, os[j]? = ops[k + j]?) → opsK C ops os e L K = some r →
    ∃ L' e' e'', L'.length = os.length ∧ K e' (L.reverse ++ L') = some r ∧ e'' = e' ∧ ∀ lg : Nat → Log, (∀ j l, L'[j]? = some l → lg (k + j) = l) → RunI C ops lg (List.range' k os.length) e e''
  | [], k, e, L, K, r, _, h => ⟨[], e, e, rfl, by simpa [opsK] using h, rfl, fun _ _ => ⟨fun _ => rfl, fun _ => rfl⟩⟩
  | o :: os, k, e, L, K, r, hj, h => by
    have h0 : ops[k]? = some o := by have := hj 0; simpa using this.symm
    have hj' : ∀ j : Nat, os[j]? = ops[k + 1 + j]? := fun j => by have := hj (j + 1); simp at this; rw [this]; congr 1; omega
    have key : ∀ {e1 : Env} {l : Log}, stepG C ops o e = some (e1, l) → opsK C ops os e1 (l :: L) K = some r →
        ∃ L' e' e'', L'.length = (o :: os).length ∧ K e' (L.reverse ++ L') = some r ∧ e'' = e' ∧ ∀ lg : Nat → Log, (∀ j l, L'[j]? = some l → lg (k + j) = l) → RunI C ops lg (List.range' k (o :: os).length) e e'' := fun {e1 l} hs hr => by
      obtain ⟨L', e', e'', h1, h2, h3, h4⟩ := opsK_run hj' hr
      refine ⟨l :: L', e', e'', by simp [h1], by simpa using h2, h3, fun lg hlg => ?_⟩
      have hl : lg k = l := by have := hlg 0 l rfl; simpa using this
      refine ⟨o, e1, h0, by rw [hl]; exact hs, h4 lg fun j l' hj => ?_⟩
      have := hlg (j + 1) l' (by simpa using hj)
      rw [← this]; congr 1; omega
    simp only [opsK] at h
    cases hg : o.guard with
    | none =>
      rw [hg] at h
      obtain ⟨e1, l, h1, h2⟩ := step_of_stepK h
      exact key (by unfold stepG; rw [hg]; exact h1) h2
    | some gw =>
      obtain ⟨g, want⟩ := gw
      rw [hg] at h
      simp only at h
      cases hgt : guardTmp ops g with
      | none => rw [hgt] at h; cases h
      | some d =>
        rw [hgt] at h
        simp only at h
        cases hd : e.t.get d with
        | none => rw [hd] at h; cases h
        | some v =>
          rw [hd] at h
          match v, hd, h with
          | .c (.bool b), hd, h =>
            simp only at h
            have hup : ∀ c : Bool, c = b → e.t.upd d (.c (.bool c)) = e.t := fun c hc => AL.upd_same _ _ _ (by rw [hd, hc])
            have hG : ∀ x, stepG C ops o e = x ↔ (bif (b == want) then step C o.dst o.op e else bif dstOk C.nt o.dst then some ({ e with t := putV e.t o.dst (some (.tup [])) }, ⟨[], []⟩) else none) = x := fun x => by unfold stepG; rw [hg]; simp only [hgt, hd]
            cases b with
            | true =>
              simp only [cond_true, hup true rfl] at h
              cases want with
              | true => simp only [cond_true] at h; obtain ⟨e1, l, h1, h2⟩ := step_of_stepK h; exact key ((hG _).2 h1) h2
              | false =>
                cases hdo : dstOk C.nt o.dst with
                | false => rw [hdo] at h; cases h
                | true => rw [hdo] at h; simp only [cond_false, cond_true] at h; exact key ((hG _).2 (by rw [hdo]; rfl)) h
            | false =>
              simp only [cond_false, hup false rfl] at h
              cases want with
              | true =>
                cases hdo : dstOk C.nt o.dst with
                | false => rw [hdo] at h; cases h
                | true => rw [hdo] at h; simp only [cond_true] at h; exact key ((hG _).2 (by rw [hdo]; rfl)) h
              | false => simp only [cond_false] at h; obtain ⟨e1, l, h1, h2⟩ := step_of_stepK h; exact key ((hG _).2 h1) h2
          | .tup [], hd, h =>
            simp only at h
            cases hdo : dstOk C.nt o.dst with
            | false => rw [hdo] at h; cases h
            | true =>
              rw [hdo] at h
              simp only [cond_true] at h
              exact key (by unfold stepG; rw [hg]; simp only [hgt, hd, hdo, cond_true]) h
          | .c (.int ..), _, hx | .c (.str _), _, hx | .c (.flt _), _, hx | .c (.sl ..), _, hx | .c .nil, _, hx | .c (.ref _), _, hx | .c (.ptr ..), _, hx | .c (.eptr ..), _, hx | .c (.vptr ..), _, hx | .c (.gptr ..), _, hx
          | .c (.fn ..), _, hx | .c (.opq _), _, hx | .agg _, _, hx | .tup (_ :: _), _, hx => cases hx
end
end Go.Eng

namespace Go.Eng

/-! ### What an operation sees -/
theorem argsA_congr {tm tm' : Nat → Option AVal} : ∀ {xs : List Operand}, (∀ x ∈ xs, evalA tm x = evalA tm' x) → argsA tm xs = argsA tm' xs
  | [], _ => rfl
  | x :: xs, h => by simp only [argsA]; rw [h x (by simp), argsA_congr fun y hy => h y (by simp [hy])]
theorem fillA_congr {fs : List (TypeId × Nat × Nat)} {tm tm' : Nat → Option AVal} : ∀ {ps : List (Nat × Operand)} {cs : List Cell}, (∀ x ∈ ps.map (·.2), evalA tm x = evalA tm' x) → fillA fs tm ps cs = fillA fs tm' ps cs
  | [], _, _ => rfl
  | (i, x) :: ps, cs, h => by
    simp only [fillA]
    rw [h x (by simp)]
    have ih := fun cs => fillA_congr (fs := fs) (tm := tm) (tm' := tm') (ps := ps) (cs := cs) fun y hy => h y (by simp only [List.map_cons, List.mem_cons]; exact .inr hy)
    simp only [ih]
theorem effA_congr {C : Ctx} {tm tm' : Nat → Option AVal} {dst : Option Nat} {op : Op} (h : ∀ x ∈ op.operands.toList, evalA tm x = evalA tm' x) : effA C tm dst op = effA C tm' dst op := by
  cases op with
  | move x | assign x | box _ x | load _ x | nilCheck x | unOp _ _ x | convert _ _ x | fieldAddr _ x _ | field _ x _ | extract x _ =>
    have h1 := h x (by simp [Op.operands])
    simp only [effA, h1]
  | store _ x y | binOp _ _ x y _ | indexAddr _ x y | index _ x y | makeSlice _ x y | lookup _ x y _ =>
    have h1 := h x (by simp [Op.operands])
    have h2 := h y (by simp [Op.operands])
    simp only [effA, h1, h2]
  | pick x y z | mapUpdate _ x y z =>
    have h1 := h x (by simp [Op.operands])
    have h2 := h y (by simp [Op.operands])
    have h3 := h z (by simp [Op.operands])
    simp only [effA, h1, h2, h3]
  | makeMap t rs =>
    cases rs with
    | none => rfl
    | some x =>
      have h1 := h x (by simp [Op.operands])
      simp only [effA, h1]
  | build t ps =>
    have h1 := fun fs cs => fillA_congr (fs := fs) (tm := tm) (tm' := tm') (ps := ps.toList) (cs := cs) fun x hx => h x (by simpa [Op.operands] using hx)
    simp only [effA, h1]
  | buildSlice t n ps =>
    have h1 := fun fs cs => fillA_congr (fs := fs) (tm := tm) (tm' := tm') (ps := ps.toList) (cs := cs) fun x hx => h x (by simpa [Op.operands] using hx)
    simp only [effA, h1]
  | slice t x lo hi mx =>
    have h1 := h x (by simp [Op.operands])
    cases lo with
    | none =>
      cases hi with
      | none => simp only [effA, h1]
      | some u =>
        have h2 := h u (by simp [Op.operands])
        simp only [effA, h1, h2]
    | some l =>
      have h3 := h l (by simp [Op.operands])
      cases hi with
      | none => simp only [effA, h1, h3]
      | some u =>
        have h2 := h u (by simp [Op.operands])
        simp only [effA, h1, h2, h3]
  | makeFunc fn first caps =>
    have h1 := argsA_congr (tm := tm) (tm' := tm') (xs := caps.toList) fun x hx => h x (by simp only [Op.operands, Array.toList_append, List.mem_append]; exact .inr hx)
    cases fn with
    | func f => simp only [effA, h1]
    | _ => rfl
  | call c =>
    have h1 := argsA_congr (tm := tm) (tm' := tm') (xs := c.args.toList) fun x hx => h x (by simp only [Op.operands, Call.operands, Array.toList_append, List.mem_append]; exact .inr hx)
    simp only [effA, h1]
    cases hc : c.callee with
    | value f =>
      have h2 := h f (by simp [Op.operands, Call.operands, hc])
      simp only [h2]
    | builtin b => rfl
    | invoke r m => rfl
  | _ => rfl

theorem RM.run_local {α : Type} {h h' : Nat → Option Obj} : ∀ {m : RM α} {a : α} {F : List Nat}, m.run h = some (a, F) → (∀ n ∈ F, h' n = h n) → m.run h' = some (a, F)
  | .ret a, b, F, H, _ => H
  | .fail, b, F, H, _ => by cases H
  | .look n k, b, F, H, hF => by
    obtain ⟨o, F', h1, h2, rfl⟩ := RM.run_look H
    have := RM.run_local h2 fun m hm => hF m (by simp [hm])
    simp only [RM.run, hF n (by simp), h1, this]
  | .ite c t e, b, F, H, hF => by
    cases c with
    | true => exact RM.run_local (m := t) H hF
    | false => exact RM.run_local (m := e) H hF
  | .bnd o k, b, F, H, hF => by
    cases o with
    | none => cases H
    | some y => exact RM.run_local (m := k y) H hF

theorem newOk_local : ∀ {ps : List (Nat × Obj)} {h h' : AL Obj}, (∀ n ∈ ps.map (·.1), h'.get n = h.get n) → writesOk.newOk h ps = writesOk.newOk h' ps
  | [], _, _, _ => rfl
  | p :: ps, h, h', hh => by
    simp only [writesOk.newOk]
    have h1 : h.has p.1 = h'.has p.1 := by
      have := hh p.1 (by simp)
      cases hb : h.has p.1 with
      | false => rw [AL.has_iff] at hb; exact ((AL.has_iff _ _).2 (by rw [this, hb])).symm
      | true =>
        cases hb' : h'.has p.1 with
        | true => rfl
        | false =>
          rw [AL.has_iff, this, ← AL.has_iff, hb] at hb'
          cases hb'
    rw [h1, newOk_local (h := h.set p.1 p.2) (h' := h'.set p.1 p.2)]
    intro n hn
    rw [AL.get_set, AL.get_set]
    split
    · rfl
    · exact hh n (by simp only [List.map_cons, List.mem_cons]; exact .inr hn)

/-- Where two tell the same. -/
def Like (T H : Nat → Prop) (e f : Env) : Prop := (∀ n, T n → f.t.get n = e.t.get n) ∧ ∀ n, H n → f.h.get n = e.h.get n
/-- 'f′' is to 'f' what 'e′' is to 'e': there alone as at 'T' and 'H' it is turned. -/
structure Turn (dst : Option Nat) (W : List Nat) (e' f f' : Env) : Prop where
  t1 : ∀ n, dst = some n → f'.t.get n = e'.t.get n
  t2 : ∀ n, dst ≠ some n → f'.t.get n = f.t.get n
  h1 : ∀ n, n ∈ W → f'.h.get n = e'.h.get n
  h2 : ∀ n, n ∉ W → f'.h.get n = f.h.get n

theorem putV_get (t : AL AVal) (dst : Option Nat) (v : Option AVal) (n : Nat) : (putV t dst v).get n = if dst = some n then v else t.get n := by
  cases dst with
  | none => simp [putV]
  | some d =>
    cases v with
    | none =>
      simp only [putV, AL.get_del, Option.some.injEq]
      by_cases h : n = d
      · simp [h]
      · rw [if_neg h, if_neg (fun hc => h hc.symm)]
    | some v =>
      simp only [putV, AL.get_set, Option.some.injEq]
      by_cases h : n = d
      · simp [h]
      · rw [if_neg h, if_neg (fun hc => h hc.symm)]

theorem setAll_turn {r : Res} {h h' : AL Obj} {n : Nat} :
    (n ∈ (r.ups ++ r.news).map (·.1) → (setAll r.news (setAll r.ups h)).get n = (setAll r.news (setAll r.ups h')).get n) ∧
    (n ∉ (r.ups ++ r.news).map (·.1) → (setAll r.news (setAll r.ups h)).get n = h.get n) := by
  rw [← setAll_append, ← setAll_append]
  constructor
  · intro hn
    obtain ⟨p, hp, rfl⟩ := List.mem_map.1 hn
    exact setAll_in ⟨p, hp, rfl⟩
  · intro hn
    exact setAll_notin fun p hp hc => hn (List.mem_map.2 ⟨p, hp, hc⟩)

/-- The slots that an operation's operands name. -/
theorem step_frame {C : Ctx} {dst : Option Nat} {op : Op} {e e' f : Env} {l : Log} (h : step C dst op e = some (e', l))
    (ht : ∀ t, Operand.tmp t ∈ op.operands.toList → f.t.get t = e.t.get t) (hh : ∀ n, n ∈ l.F ∨ n ∈ l.W → f.h.get n = e.h.get n) :
    ∃ f', step C dst op f = some (f', l) ∧ Turn dst l.W e' f f' := by
  obtain ⟨r, F, h1, h2, h3, rfl, rfl⟩ := step_inv h
  have hE : effA C f.t.get dst op = effA C e.t.get dst op := effA_congr fun x hx => by
    cases x with
    | tmp t => exact ht t hx
    | const v => rfl
    | global g => rfl
    | func g => rfl
  have hR : (effA C f.t.get dst op).run f.h.get = some (r, F) := by
    rw [hE]
    exact RM.run_local h1 fun n hn => hh n (.inl (by simpa using hn))
  have hW : writesOk f.h F.reverse r = true := by
    unfold writesOk at h2 ⊢
    rw [← newOk_local (h := e.h) (h' := f.h)]
    · exact h2
    · intro n hn
      refine hh n (.inr ?_)
      simp only [List.map_append, List.mem_append]
      exact .inr hn
  refine ⟨⟨putV f.t dst r.v, setAll r.news (setAll r.ups f.h)⟩, ?_, ?_⟩
  · unfold step
    rw [hR]
    simp only [hW, h3, Bool.and_self, cond_true]
  · exact ⟨fun n hn => by simp [putV_get, hn], fun n hn => by simp [putV_get, hn], fun n hn => (setAll_turn (h' := e.h)).1 hn, fun n hn => (setAll_turn (h' := e.h)).2 hn⟩

theorem stepG_frame {C : Ctx} {ops : Array Oper} {o : Oper} {e e' f : Env} {l : Log} (h : stepG C ops o e = some (e', l))
    (ht : ∀ t, t ∈ o.looksAt ops → f.t.get t = e.t.get t) (hh : ∀ n, n ∈ l.F ∨ n ∈ l.W → f.h.get n = e.h.get n) :
    ∃ f', stepG C ops o f = some (f', l) ∧ Turn o.dst l.W e' f f' := by
  have ht1 : ∀ t, Operand.tmp t ∈ o.op.operands.toList → f.t.get t = e.t.get t := fun t hx => ht t (by
    unfold Oper.looksAt
    rw [List.mem_append]
    exact .inl (List.mem_filterMap.2 ⟨_, hx, rfl⟩))
  unfold stepG at h ⊢
  cases hg : o.guard with
  | none =>
    rw [hg] at h
    exact step_frame h ht1 hh
  | some gw =>
    obtain ⟨g, want⟩ := gw
    rw [hg] at h
    simp only at h ⊢
    cases hgt : guardTmp ops g with
    | none => rw [hgt] at h; cases h
    | some d =>
      rw [hgt] at h
      simp only at h ⊢
      have hd : f.t.get d = e.t.get d := ht d (by
        unfold Oper.looksAt
        rw [hg, List.mem_append]
        refine .inr ?_
        unfold guardTmp at hgt
        cases ho : ops[g]? with
        | none => rw [ho] at hgt; cases hgt
        | some p => rw [ho] at hgt; simp only at hgt; simp [hgt, ho])
      rw [hd]
      cases hv : e.t.get d with
      | none => rw [hv] at h; cases h
      | some v =>
        rw [hv] at h
        match v, h with
        | .c (.bool b), h =>
          simp only at h ⊢
          cases hb : (b == want) with
          | true => rw [hb] at h; exact step_frame h ht1 hh
          | false =>
            rw [hb] at h
            cases hdo : dstOk C.nt o.dst with
            | false => rw [hdo] at h; cases h
            | true =>
            rw [hdo] at h
            simp only [cond_false, cond_true, Option.some.injEq, Prod.mk.injEq] at h
            obtain ⟨rfl, rfl⟩ := h
            exact ⟨_, rfl, ⟨fun n hn => by simp [putV_get, hn], fun n hn => by simp [putV_get, hn], fun n hn => (by cases hn), fun n hn => rfl⟩⟩
        | .tup [], h =>
          simp only at h ⊢
          cases hdo : dstOk C.nt o.dst with
          | false => rw [hdo] at h; cases h
          | true =>
            rw [hdo] at h
            simp only [cond_true, Option.some.injEq, Prod.mk.injEq] at h
            obtain ⟨rfl, rfl⟩ := h
            exact ⟨_, rfl, ⟨fun n hn => by simp [putV_get, hn], fun n hn => by simp [putV_get, hn], fun n hn => (by cases hn), fun n hn => rfl⟩⟩
        | .c (.int ..), hx | .c (.str _), hx | .c (.flt _), hx | .c (.sl ..), hx | .c .nil, hx | .c (.ref _), hx | .c (.ptr ..), hx | .c (.eptr ..), hx | .c (.vptr ..), hx | .c (.gptr ..), hx
        | .c (.fn ..), hx | .c (.opq _), hx | .agg _, hx | .tup (_ :: _), hx => cases hx

theorem disj_iff {a b : List Nat} : disj a b = true ↔ ∀ x ∈ a, x ∉ b := by
  unfold disj
  rw [List.all_eq_true]
  constructor
  · intro h x hx hb
    have := h x hx
    rw [mem_iff.2 hb] at this
    cases this
  · intro h x hx
    cases hm : mem x b with
    | false => rfl
    | true => exact absurd (mem_iff.1 hm) (h x hx)
theorem apartL_iff {x y : Log} (h : apartL x y = true) : (∀ n ∈ x.F, n ∉ y.W) ∧ (∀ n ∈ y.F, n ∉ x.W) ∧ (∀ n ∈ x.W, n ∉ y.W) := by
  unfold apartL at h
  simp only [Bool.and_eq_true] at h
  exact ⟨disj_iff.1 h.1.1, disj_iff.1 h.1.2, disj_iff.1 h.2⟩

/-- The same to whoever asks. -/
def Eqv (e f : Env) : Prop := (∀ n, f.t.get n = e.t.get n) ∧ ∀ n, f.h.get n = e.h.get n
theorem Eqv.rfl {e : Env} : Eqv e e := ⟨fun _ => Eq.refl _, fun _ => Eq.refl _⟩
theorem Eqv.symm {e f : Env} (h : Eqv e f) : Eqv f e := ⟨fun n => (h.1 n).symm, fun n => (h.2 n).symm⟩
theorem Eqv.trans {e f g : Env} (h : Eqv e f) (k : Eqv f g) : Eqv e g := ⟨fun n => (k.1 n).trans (h.1 n), fun n => (k.2 n).trans (h.2 n)⟩

theorem stepG_eqv {C : Ctx} {ops : Array Oper} {o : Oper} {e e' f : Env} {l : Log} (h : stepG C ops o e = some (e', l)) (hf : Eqv e f) : ∃ f', stepG C ops o f = some (f', l) ∧ Eqv e' f' := by
  obtain ⟨f', h1, h2⟩ := stepG_frame h (fun t _ => hf.1 t) (fun n _ => hf.2 n)
  obtain ⟨e2, h3, h4⟩ := stepG_frame h (fun t _ => Eq.refl _) (fun n _ => Eq.refl _)
  rw [h] at h3
  simp only [Option.some.injEq, Prod.mk.injEq, and_true] at h3
  subst h3
  refine ⟨f', h1, ⟨fun n => ?_, fun n => ?_⟩⟩
  · by_cases hd : o.dst = some n
    · exact h2.t1 n hd
    · rw [h2.t2 n hd, h4.t2 n hd, hf.1 n]
  · by_cases hd : n ∈ l.W
    · exact h2.h1 n hd
    · rw [h2.h2 n hd, h4.h2 n hd, hf.2 n]

/-- Two that do not touch change places. -/
theorem stepG_swap {C : Ctx} {ops : Array Oper} {x y : Oper} {e e1 e2 : Env} {lx ly : Log} (hx : stepG C ops x e = some (e1, lx)) (hy : stepG C ops y e1 = some (e2, ly))
    (ha : x.apart ops y = true) (hl : apartL lx ly = true) : ∃ f1 f2, stepG C ops y e = some (f1, ly) ∧ stepG C ops x f1 = some (f2, lx) ∧ Eqv e2 f2 := by
  obtain ⟨a1, a2, a3⟩ := Oper.apart_spec ha
  obtain ⟨b1, b2, b3⟩ := apartL_iff hl
  have self : ∀ {o : Oper} {e e' : Env} {l : Log}, stepG C ops o e = some (e', l) → Turn o.dst l.W e' e e' := fun {o e e' l} h => by
    obtain ⟨f', h1, h2⟩ := stepG_frame h (f := e) (fun _ _ => rfl) (fun _ _ => rfl)
    rw [h] at h1
    simp only [Option.some.injEq, Prod.mk.injEq, and_true] at h1
    subst h1
    exact h2
  have tx := self hx
  have ty := self hy
  obtain ⟨f1, h1, t1⟩ := stepG_frame hy (f := e) (fun t ht => (tx.t2 t fun hc => a1 t hc ht).symm) (fun n hn => (tx.h2 n fun hc => by
    rcases hn with hn | hn
    · exact b2 n hn hc
    · exact b3 n hc hn).symm)
  obtain ⟨f2, h2, t2⟩ := stepG_frame hx (f := f1) (fun t ht => t1.t2 t fun hc => a3 t hc ht) (fun n hn => t1.h2 n fun hc => by
    rcases hn with hn | hn
    · exact b1 n hn hc
    · exact b3 n hn hc)
  refine ⟨f1, f2, h1, h2, fun n => ?_, fun n => ?_⟩
  · by_cases hd : x.dst = some n
    · rw [t2.t1 n hd, ty.t2 n (a2 n hd)]
    · rw [t2.t2 n hd]
      by_cases hd' : y.dst = some n
      · rw [t1.t1 n hd']
      · rw [t1.t2 n hd', ty.t2 n hd', tx.t2 n hd]
  · by_cases hd : n ∈ lx.W
    · rw [t2.h1 n hd, ty.h2 n (b3 n hd)]
    · rw [t2.h2 n hd]
      by_cases hd' : n ∈ ly.W
      · rw [t1.h1 n hd']
      · rw [t1.h2 n hd', ty.h2 n hd', tx.h2 n hd]
end Go.Eng

namespace Go.Eng
section
variable {P : Program} {C : Ctx} {Fr : Fd} {ops : Array Oper} {lg : Nat → Log}

theorem run_eqv : ∀ {is : List Nat} {e f e' : Env}, RunI C ops lg is e e' → Eqv e f → RunI C ops lg is f e'
  | [], e, f, e', h, hf => ⟨fun n => (hf.1 n).trans (h.1 n), fun n => (hf.2 n).trans (h.2 n)⟩
  | i :: is, e, f, e', ⟨o, e1, h1, h2, h3⟩, hf => by
    obtain ⟨f1, k1, k2⟩ := stepG_eqv h2 hf
    exact ⟨o, f1, h1, k1, run_eqv h3 k2⟩

/-- Two operations, by their numbers, that do not touch. -/
def Free (ops : Array Oper) (lg : Nat → Log) (i j : Nat) : Prop := ∃ p o, ops[i]? = some p ∧ ops[j]? = some o ∧ p.apart ops o = true ∧ apartL (lg i) (lg j) = true

theorem run_front {i : Nat} {bs : List Nat} : ∀ {as : List Nat} {e e' : Env}, RunI C ops lg (as ++ i :: bs) e e' → (∀ k ∈ as, Free ops lg k i) → RunI C ops lg (i :: (as ++ bs)) e e'
  | [], e, e', h, _ => h
  | k :: as, e, e', ⟨ok, e1, h1, h2, h3⟩, hf => by
    obtain ⟨oi, e2, k1, k2, k3⟩ := run_front h3 fun m hm => hf m (by simp [hm])
    obtain ⟨p, o, f1, f2, f3, f4⟩ := hf k (by simp)
    rw [h1] at f1; rw [k1] at f2
    simp only [Option.some.injEq] at f1 f2
    subst f1; subst f2
    obtain ⟨g1, g2, s1, s2, s3⟩ := stepG_swap h2 k2 f3 f4
    exact ⟨_, g1, k1, s1, _, g2, h1, s2, run_eqv k3 s3⟩

/-- What the order leaves free, does not touch. -/
def OrdOk (ops : Array Oper) (lg : Nat → Log) : Prop :=
  (∀ j o (e : Edge), ops[j]? = some o → e ∈ o.after.toList → Region.binds .any e = true → e.on < j) ∧
  ∀ i j, i < j → j < ops.size → waits ops ops.size i j = true ∨ Free ops lg i j

theorem waits_listed {is : List Nat} (hdc : ∀ j o (e : Edge), ops[j]? = some o → j ∉ is → e ∈ o.after.toList → Region.binds .any e = true → e.on ∉ is) {i : Nat} :
    ∀ (n : Nat) (j : Nat) (o : Oper), ops[j]? = some o → (∀ e ∈ o.after.toList, Region.binds .any e = true → e.on ∉ is) → waits ops n i j = true → i ∉ is
  | 0, _, _, _, _, h => by cases h
  | n + 1, j, o, ho, hp, h => by
    simp only [waits, ho, List.any_eq_true, Bool.and_eq_true, Bool.or_eq_true] at h
    obtain ⟨e, he, hb, hor⟩ := h
    rcases hor with hor | hor
    · rw [← beq_iff.1 hor]; exact hp e he hb
    · cases hon : ops[e.on]? with
      | none =>
        cases n with
        | zero => cases hor
        | succ n => simp only [waits, hon] at hor; cases hor
      | some o' => exact waits_listed hdc n e.on o' hon (fun e' he' hb' => hdc e.on o' e' hon (hp e he hb) he' hb') hor

theorem mem_ready {listed : Array Bool} {i : Nat} : i ∈ Region.ready .any ops listed ↔ listed.getD i true = false ∧ ∃ o, ops[i]? = some o ∧ ∀ e ∈ o.after.toList, Region.binds .any e = true → listed.getD e.on false = true := by
  unfold Region.ready
  simp only [List.mem_filter, List.mem_range, Bool.and_eq_true, Bool.not_eq_true']
  constructor
  · rintro ⟨h1, h2, h3⟩
    refine ⟨h2, ?_⟩
    cases ho : ops[i]? with
    | none => simp [ho] at h3
    | some o =>
      refine ⟨o, rfl, fun e he hb => ?_⟩
      simp only [ho, Option.map_some, Option.getD_some] at h3
      rw [Array.all_eq_true'] at h3
      have := h3 e (by simpa using he)
      simpa [hb] using this
  · rintro ⟨h2, o, ho, h3⟩
    have hlt : i < ops.size := by
      rcases Nat.lt_or_ge i ops.size with h | h
      · exact h
      · rw [Array.getElem?_eq_none h] at ho; cases ho
    refine ⟨hlt, h2, ?_⟩
    simp only [ho, Option.map_some, Option.getD_some]
    rw [Array.all_eq_true']
    intro e he
    cases hb : Region.binds .any e with
    | false => simp
    | true => simp [h3 e (by simpa using he) hb]

theorem wpAny_run (hC : C.Ok P) (hsg : ∀ f ks g, C.sg f ks = some g → SoundC P C.gl f g) (hgl : Fr.gl = C.gl) (hO : OrdOk ops lg) {Q : Exit → Act → World → Prop} {e' : Env} (hQ : ∀ a w S, Inv Fr C.nt S e' a w → Q .normal a w) :
    ∀ (fuel : Nat) {is : List Nat} {listed : Array Bool} {e : Env} {a : Act} {w : World} {S : St}, is.length = fuel → listed.size = ops.size → (∀ i, i ∈ is ↔ i < ops.size ∧ listed.getD i true = false) → is.Pairwise (· < ·) →
      (∀ j o (e : Edge), ops[j]? = some o → j ∉ is → e ∈ o.after.toList → Region.binds .any e = true → e.on ∉ is) →
      Inv Fr C.nt S e a w → RunI C ops lg is e e' → wpAny P .any ops Q fuel listed a w
  | 0, is, listed, e, a, w, S, hlen, hsz, hmem, hsort, hdc, hI, hr => by
    have : is = [] := List.length_eq_zero_iff.1 hlen
    subst this
    refine ⟨?_, hQ a w S (hI.same hr.1 hr.2)⟩
    rw [List.eq_nil_iff_forall_not_mem]
    intro i hi
    obtain ⟨h1, o, h2, _⟩ := mem_ready.1 hi
    have hlt : i < ops.size := by
      rcases Nat.lt_or_ge i ops.size with h | h
      · exact h
      · rw [Array.getElem?_eq_none h] at h2; cases h2
    cases (hmem i).2 ⟨hlt, h1⟩
  | fuel + 1, is, listed, e, a, w, S, hlen, hsz, hmem, hsort, hdc, hI, hr => by
    have inB : ∀ i, i < ops.size → (i ∉ is ↔ listed.getD i false = true) := fun i hi => by
      have h1 : listed.getD i true = listed.getD i false := by
        simp only [Array.getD, hsz, hi, dif_pos]
      rw [hmem i, h1]
      cases listed.getD i false <;> simp [hi]
    refine ⟨fun hnil => ?_, fun i hi => ?_⟩
    · -- the first of them may come
      exfalso
      match is, hlen with
      | i :: is', _ =>
        obtain ⟨hi, hl⟩ := (hmem i).1 (by simp)
        have : i ∈ Region.ready .any ops listed := mem_ready.2 ⟨hl, ops[i], by simp [hi], fun e he hb => by
          have hon := hO.1 i ops[i] e (by simp [hi]) he hb
          refine (inB e.on (by omega)).1 fun hin => ?_
          rcases List.mem_cons.1 hin with rfl | hin
          · omega
          · have := (List.pairwise_cons.1 hsort).1 _ hin
            omega⟩
        rw [hnil] at this
        cases this
    · obtain ⟨hl, o, ho, hpre⟩ := mem_ready.1 hi
      have hlt : i < ops.size := by
        rcases Nat.lt_or_ge i ops.size with h | h
        · exact h
        · rw [Array.getElem?_eq_none h] at ho; cases ho
      have hin : i ∈ is := (hmem i).2 ⟨hlt, hl⟩
      obtain ⟨as, bs, rfl⟩ := List.append_of_mem hin
      have hpre' : ∀ e ∈ o.after.toList, Region.binds .any e = true → e.on ∉ as ++ i :: bs := fun e he hb => by
        have hon := hO.1 i o e ho he hb
        exact (inB e.on (by omega)).2 (hpre e he hb)
      have hlt' : ∀ k ∈ as, k < i := fun k hk => (List.pairwise_append.1 hsort).2.2 k hk i (by simp)
      have hgt : ∀ k ∈ bs, i < k := fun k hk => (List.pairwise_cons.1 (List.pairwise_append.1 hsort).2.1).1 k hk
      have hfree : ∀ k ∈ as, Free ops lg k i := fun k hk => by
        rcases hO.2 k i (hlt' k hk) hlt with hw | hf
        · exact absurd (by simp [hk]) (waits_listed hdc _ i o ho hpre' hw)
        · exact hf
      obtain ⟨o', e1, k1, k2, k3⟩ := run_front hr hfree
      refine wpOp_of_stepG hC hsg hgl hI k1 k2 fun a' w' S' hI' => ?_
      refine wpAny_run hC hsg hgl hO hQ fuel (is := as ++ bs) (by simp at hlen ⊢; omega) (by simpa using hsz) ?_ ?_ ?_ hI' k3
      · intro k
        have hne : ∀ k, k ∈ as ++ bs → k ≠ i := fun k hk hc => by
          subst hc
          rcases List.mem_append.1 hk with h | h
          · exact absurd (hlt' _ h) (by omega)
          · exact absurd (hgt _ h) (by omega)
        have hsplit : k ∈ as ++ bs ↔ (k ∈ as ++ i :: bs ∧ k ≠ i) := by
          constructor
          · intro hk
            refine ⟨?_, hne k hk⟩
            rcases List.mem_append.1 hk with h | h
            · simp [h]
            · simp [h]
          · rintro ⟨hk, hki⟩
            simp only [List.mem_append, List.mem_cons] at hk ⊢
            rcases hk with h | h | h
            · exact .inl h
            · exact absurd h hki
            · exact .inr h
        rw [hsplit, hmem k]
        constructor
        · rintro ⟨⟨h1, h2⟩, h3⟩
          refine ⟨h1, ?_⟩
          rw [← h2]
          simp only [Array.getD, Array.size_setIfInBounds, Array.getInternal_eq_getElem]
          split
          · exact Array.getElem_setIfInBounds_ne (by assumption) (by omega)
          · rfl
        · rintro ⟨h1, h2⟩
          have hki : k ≠ i := fun hc => by
            subst hc
            simp [Array.getD, hsz, hlt] at h2
          refine ⟨⟨h1, ?_⟩, hki⟩
          rw [← h2]
          simp only [Array.getD, Array.size_setIfInBounds, Array.getInternal_eq_getElem]
          split
          · exact (Array.getElem_setIfInBounds_ne (by assumption) (by omega)).symm
          · rfl
      · rw [List.pairwise_append] at hsort ⊢
        refine ⟨hsort.1, (List.pairwise_cons.1 hsort.2.1).2, fun x hx y hy => hsort.2.2 x hx y (by simp [hy])⟩
      · intro j p e hj hnj he hb hmem'
        by_cases hji : j = i
        · subst hji
          rw [ho] at hj
          cases hj
          refine hpre' e he hb ?_
          rcases List.mem_append.1 hmem' with h | h
          · simp [h]
          · simp [h]
        · refine hdc j p e hj ?_ he hb ?_
          · intro hc
            apply hnj
            simp only [List.mem_append, List.mem_cons] at hc ⊢
            rcases hc with h | h | h
            · exact .inl h
            · exact absurd h hji
            · exact .inr h
          · rcases List.mem_append.1 hmem' with h | h
            · simp [h]
            · simp [h]

/-! ### From the engine's own looking-over -/
theorem apartAll_of {j : Nat} {o : Oper} {l : Log} : ∀ {past : List Log} {i : Nat}, apartAll ops j o l i past = true → ∀ k m, past[k]? = some m → waits ops ops.size (i + k) j = true ∨ ∃ p, ops[i + k]? = some p ∧ p.apart ops o = true ∧ apartL m l = true
  | [], _, _, k, m, hk => by simp at hk
  | x :: past, i, h, k, m, hk => by
    simp only [apartAll, Bool.and_eq_true, Bool.or_eq_true] at h
    cases k with
    | zero =>
      simp only [List.getElem?_cons_zero, Option.some.injEq] at hk
      subst hk
      rcases h.1 with hw | hw
      · exact .inl hw
      · cases hp : ops[i]? with
        | none => rw [hp] at hw; cases hw
        | some p => rw [hp] at hw; simp only [Bool.and_eq_true] at hw; exact .inr ⟨p, rfl, hw.1, hw.2⟩
    | succ k =>
      have := apartAll_of h.2 k m (by simpa using hk)
      rwa [Nat.add_right_comm, Nat.add_assoc] at this

theorem orderOk_of : ∀ {os : List Oper} {ls past : List Log} {j : Nat}, orderOk ops j os ls past = true → past.length = j → (∀ m, os[m]? = ops[j + m]?) →
    (∀ k o (e : Edge), j ≤ k → ops[k]? = some o → e ∈ o.after.toList → Region.binds .any e = true → e.on < k) ∧
    ∀ i k lj, i < k → j ≤ k → (past ++ ls)[k]? = some lj → waits ops ops.size i k = true ∨ ∃ p o li, ops[i]? = some p ∧ ops[k]? = some o ∧ (past ++ ls)[i]? = some li ∧ p.apart ops o = true ∧ apartL li lj = true
  | [], [], past, j, h, hp, hops => by
    constructor
    · intro k o e hk ho
      have := hops (k - j)
      rw [show j + (k - j) = k from by omega, ho] at this
      simp at this
    · intro i k lj hik hk hlj
      rw [List.append_nil, List.getElem?_eq_none (by omega)] at hlj
      cases hlj
  | [], _ :: _, _, _, h, _, _ => by cases h
  | _ :: _, [], _, _, h, _, _ => by cases h
  | o :: os, l :: ls, past, j, h, hp, hops => by
    simp only [orderOk, Bool.and_eq_true] at h
    obtain ⟨⟨h1, h2⟩, h3⟩ := h
    have hj : ops[j]? = some o := by have := hops 0; simpa using this.symm
    obtain ⟨r1, r2⟩ := orderOk_of h3 (by simp [hp]) fun m => by have := hops (m + 1); simp at this; rw [this]; congr 1; omega
    rw [List.append_assoc, List.singleton_append] at r2
    constructor
    · intro k o' e hk ho' he hb
      by_cases hkj : k = j
      · subst hkj
        rw [hj] at ho'
        cases ho'
        rw [List.all_eq_true] at h1
        have := h1 e he
        rw [hb] at this
        simp only [Bool.not_true, Bool.false_or] at this
        simpa [Nat.blt_eq] using this
      · exact r1 k o' e (by omega) ho' he hb
    · intro i k lj hik hk hlj
      by_cases hkj : k = j
      · subst hkj
        rw [List.getElem?_append_right (by omega), hp, Nat.sub_self] at hlj
        simp only [List.getElem?_cons_zero, Option.some.injEq] at hlj
        subst hlj
        have hli : past[i]? = some past[i] := by simp [hp, hik]
        rcases apartAll_of h2 i _ hli with hw | ⟨p, q1, q2, q3⟩
        · rw [Nat.zero_add] at hw; exact .inl hw
        · rw [Nat.zero_add] at q1
          exact .inr ⟨p, o, _, q1, hj, by rw [List.getElem?_append_left (by omega)]; exact hli, q2, q3⟩
      · exact r2 i k lj hik (by omega) hlj

/-- A region. -/
theorem wp_regK {R : Type} (hC : C.Ok P) (hm : P.follows .mixedOrders = true) (hsg : ∀ f ks g, C.sg f ks = some g → SoundC P C.gl f g) (hgl : Fr.gl = C.gl) {id : Nat} {draw : Bool} {e : Env} {K : Env → Option R} {r : R} {S : St} {a : Act} {w : World}
    (h : regK C ops draw e K = some r) (hI : Inv Fr C.nt S e a w) {Q : Exit → Act → World → Prop} (hQ : ∀ e' a' w' S', K e' = some r → Inv Fr C.nt S' e' a' w' → Q .normal a' w') : (Code.region id ops draw).wp P Q a w := by
  unfold regK at h
  obtain ⟨L, e', e'', hlen, hK, rfl, hrun⟩ := opsK_run (ops := ops) (k := 0) (fun j => by simp) h
  simp only [List.reverse_nil, List.nil_append] at hK
  have hrun := hrun (fun n => L.getD n ⟨[], []⟩) fun j l hj => by simp [hj]
  cases draw with
  | false =>
    simp only [Bool.not_false, Bool.true_or, cond_true] at hK
    refine wp_region ?_
    rw [List.range_eq_range']
    exact wpOps_run hC hsg hgl (fun a w S hI' => hQ e'' a w S hK hI') hI (by simpa using hrun)
  | true =>
    simp only [Bool.not_true, Bool.false_or] at hK
    cases ho : (Region.noSelect ops && orderOk ops 0 ops.toList L []) with
    | false => rw [ho] at hK; cases hK
    | true =>
      rw [ho] at hK
      simp only [cond_true] at hK
      simp only [Bool.and_eq_true] at ho
      obtain ⟨o1, o2⟩ := orderOk_of ho.2 rfl fun m => by simp
      simp only [List.nil_append] at o2
      refine wp_region_any hm ?_
      refine wpAny_run hC hsg hgl (lg := fun n => L.getD n ⟨[], []⟩) ⟨fun j o e hj => o1 j o e (by omega) hj, fun i j hij hj => ?_⟩ (fun a w S hI' => hQ e'' a w S hK hI') ops.size (is := List.range ops.size) (by simp) (by simp) ?_ ?_ ?_ hI.drew ?_
      · have hjL : j < L.length := by rw [hlen]; simpa using hj
        have hLj : L[j]? = some L[j] := by simp [hjL]
        rcases o2 i j _ hij (by omega) hLj with hw | ⟨p, o, li, q1, q2, q3, q4, q5⟩
        · exact .inl hw
        · refine .inr ⟨p, o, q1, q2, q4, ?_⟩
          have h1 : L.getD i ⟨[], []⟩ = li := by simp [q3]
          have h2 : L.getD j ⟨[], []⟩ = L[j] := by simp [hLj]
          show apartL (L.getD i ⟨[], []⟩) (L.getD j ⟨[], []⟩) = true
          rw [h1, h2]
          exact q5
      · intro i
        simp only [List.mem_range]
        constructor
        · intro hi
          exact ⟨hi, by simp [Array.getD, hi]⟩
        · exact fun h => h.1
      · exact List.pairwise_lt_range
      · intro j o e hj hnj
        exfalso
        apply hnj
        rw [List.mem_range]
        rcases Nat.lt_or_ge j ops.size with h | h
        · exact h
        · rw [Array.getElem?_eq_none h] at hj; cases hj
      · rw [List.range_eq_range']
        simpa using hrun
end
end Go.Eng
