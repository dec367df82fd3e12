/-
  The engine: whether two structs are the same.
-/
import Derived.Test.YtmcmkdiefpepnaaDoorEngG
import Derived.Laws.StructEq
set_option linter.unusedSimpArgs false
set_option linter.unusedVariables false
namespace Go.Eng
section
variable {P : Program} {C : Ctx} {Fr : Fd} {S : St} {o : Oper} {e : Env} {a : Act} {w : World} {r : Res} {F : List Nat}

def arrF (e : TypeId) (o : Nat) : Field := { name := "x", type := e, offset := o, embedded := false, tag := "", pkgPath := "", byteOffset := 0 }
theorem run_equalIn_array (w : World) (d : Nat) (t e : TypeId) (n : Nat) (xs ys : Array Value) (ht : P.underlying t = some (.array n e)) (he : (P.info? e).isSome = true) :
    (Op.equalIn (d + 1) t (.agg xs) (.agg ys)).run P w = (Op.eqFields d xs ys ((List.range n).map fun j => arrF e (j * P.cellsOf e))).run P w := by
  obtain ⟨ie, hie⟩ := Option.isSome_iff_exists.1 he
  have hsz : (sizeOf e).run P w = .ok (P.cellsOf e) w := by simp [sizeOf, typeInfo, hie, Program.cellsOf]
  simp only [Op.equalIn, Sem.run_bind, run_underlying ht, Result.andThen_ok, hsz]
  rw [Std.Legacy.Range.forIn_eq_forIn_range']
  simp only [Std.Legacy.Range.size, Nat.sub_zero, Nat.add_sub_cancel, Nat.div_one, List.range_eq_range']
  generalize List.range' 0 n = l
  clear hsz ht
  induction l generalizing w with
  | nil => simp [Op.eqFields]
  | cons j l ih =>
    simp only [List.forIn_cons, List.map_cons, Op.eqFields, Sem.run_bind, Sem.run_ite, arrF]
    rw [if_pos (by decide)]
    generalize (part e xs (j * P.cellsOf e)).run P w = r1
    cases r1 with
    | ok a w1 =>
      simp only [Result.andThen_ok]
      generalize (part e ys (j * P.cellsOf e)).run P w1 = r2
      cases r2 with
      | ok b w2 =>
        simp only [Result.andThen_ok]
        generalize (Op.equalIn d e a b).run P w2 = r3
        cases r3 with
        | ok r w3 =>
          cases r
          · simp only [Result.andThen_ok, Bool.not_false, if_true, Sem.run_pure]
          · simp only [Result.andThen_ok, Bool.not_true, Bool.false_eq_true, if_false, Sem.run_pure]
            exact ih w3
        | halt x w3 => simp [Result.andThen]
      | halt x w2 => simp [Result.andThen]
    | halt x w1 => simp [Result.andThen]
theorem tiEq {t : TypeId} {i : TI} (h : tiOf P t = some i) (he : i.eqs = true) : ∃ fs : List Field, (∀ w d xs ys, (Op.equalIn (d + 1) t (.agg xs) (.agg ys)).run P w = (Op.eqFields d xs ys fs).run P w) ∧ P.eqGuardType P.depth t = false ∧ (∀ f ∈ fs, (f.name == "_") = false) ∧
    i.fields = fs.map fun f => (f.type, f.offset, P.cellsOf f.type) := by
  unfold tiOf at h
  cases h1 : P.info? t with
  | none => simp [h1] at h
  | some info =>
    cases h2 : P.underlying t with
    | none => simp [h1, h2] at h
    | some d =>
      simp only [h1, h2] at h
      cases h3 : info.zero with
      | none => simp [h3] at h
      | some z =>
        simp only [h3] at h
        cases h4 : ((z.cells.toList.all (·.oneCell') && Nat.beq z.cells.size info.size) && partsIn P d) with
        | false => rw [h4] at h; cases h
        | true =>
          rw [h4] at h
          simp only [cond_true, Option.some.injEq] at h
          subst h
          cases d with
          | struct fs =>
            simp only [eqsOf, Bool.and_eq_true, Bool.not_eq_true', List.all_eq_true] at he
            have hfo : P.fieldsOf t = fs := by simp [Program.fieldsOf, h2]
            exact ⟨fs.toList, fun w d xs ys => by rw [run_equalIn_struct (P := P) w d t _ _ (by rw [hfo]; exact h2) he.1.1, hfo], he.1.2, he.2, rfl⟩
          | array n e =>
            simp only [eqsOf, Bool.not_eq_true'] at he
            simp only [Bool.and_eq_true, partsIn] at h4
            exact ⟨(List.range n).map fun j => arrF e (j * P.cellsOf e), fun w d xs ys => run_equalIn_array w d t e n xs ys h2 h4.2, he, fun f hf => by obtain ⟨j, _, rfl⟩ := List.mem_map.1 hf; rfl, by simp [arrF, Function.comp]⟩
          | _ => cases he

theorem aggV_run {agg : Bool} {cs : List Cell} {x : AVal} (h : aggV agg cs = some x) {hp : Nat → Option Obj} : (aggOr agg cs).run hp = some (x, []) := by
  unfold aggV at h
  unfold aggOr
  cases agg with
  | true => simp only [cond_true, Option.some.injEq] at h ⊢; subst h; rfl
  | false =>
    simp only [cond_false] at h ⊢
    match cs, h with
    | [c], h => simp only [Option.some.injEq] at h; subst h; rfl

theorem eqFs_ok (hC : C.Ok P) {n d : Nat} {f : TypeId → AVal → AVal → Option Bool} (ih : ∀ t x y u v b, f t x y = some b → RepA w S x u → RepA w S y v → (Op.equalIn d t u v).run P w = .ok b w) {xs ys : List Cell} {us vs : List Value} (hx : RepL w S xs us) (hy : RepL w S ys vs) :
    ∀ {fs : List Field} {b : Bool}, (∀ f ∈ fs, (f.name == "_") = false) → eqFs C f (fs.map fun f => (f.type, f.offset, P.cellsOf f.type)) xs ys = some b → (Op.eqFields d us.toArray vs.toArray fs).run P w = .ok b w
  | [], b, _, h => by
    simp only [List.map_nil, eqFs, Option.some.injEq] at h
    subst h
    rfl
  | g :: fs, b, hn, h => by
    have hn' : g.name ≠ "_" := by have := hn g (by simp); simpa using this
    simp only [List.map_cons, eqFs] at h
    cases hi : C.ty g.type with
    | none => rw [hi] at h; cases h
    | some i =>
      rw [hi] at h
      simp only at h
      cases hb : (Nat.ble (g.offset + i.size) xs.length && Nat.ble (g.offset + i.size) ys.length) with
      | false => rw [hb] at h; cases h
      | true =>
        rw [hb] at h
        simp only [cond_true] at h
        simp only [Bool.and_eq_true] at hb
        cases h1 : aggV i.agg (sliceC xs g.offset i.size) with
        | none => rw [h1] at h; cases h
        | some p =>
          cases h2 : aggV i.agg (sliceC ys g.offset i.size) with
          | none => rw [h1, h2] at h; cases h
          | some q =>
            rw [h1, h2] at h
            simp only at h
            have hok := tiOk (hC.ty _ _ hi)
            obtain ⟨u, k1, k2⟩ := part_at (P := P) hok hx (Nat.le_of_ble_eq_true hb.1) (aggV_run h1 (hp := fun _ => none))
            obtain ⟨v, k3, k4⟩ := part_at (P := P) hok hy (Nat.le_of_ble_eq_true hb.2) (aggV_run h2 (hp := fun _ => none))
            cases h3 : f g.type p q with
            | none => rw [h3] at h; cases h
            | some s =>
              have h4 := ih _ _ _ _ _ _ h3 k2 k4
              rw [h3] at h
              have main : ∀ c, (Op.eqFields d us.toArray vs.toArray fs).run P w = .ok c w → (Op.eqFields d us.toArray vs.toArray (g :: fs)).run P w = .ok (s && c) w := fun c hc => by
                rw [Op.eqFields]
                simp only [if_pos hn', Sem.run_bind, k1, k3, h4, Result.andThen_ok]
                cases s
                · simp
                · simpa using hc
              cases fs with
              | nil =>
                simp only [List.map_nil, Option.some.injEq] at h
                subst h
                have := main true rfl
                simpa using this
              | cons g' fs =>
                simp only [List.map_cons] at h
                cases h5 : eqFs C f ((g'.type, g'.offset, P.cellsOf g'.type) :: fs.map fun f => (f.type, f.offset, P.cellsOf f.type)) xs ys with
                | none => rw [h5] at h; cases h
                | some c =>
                  rw [h5] at h
                  simp only [Option.some.injEq] at h
                  subst h
                  exact main c (eqFs_ok hC (n := n) ih hx hy (fun f hf => hn f (by simp only [List.mem_cons] at hf ⊢; exact .inr hf)) (by simpa only [List.map_cons] using h5))

theorem eqV_ok (hC : C.Ok P) : ∀ {n d : Nat} {t : TypeId} {x y : AVal} {u v : Value} {b : Bool}, n ≤ d → eqV C n t x y = some b → RepA w S x u → RepA w S y v → (Op.equalIn d t u v).run P w = .ok b w
  | 0, _, _, _, _, _, _, _, _, h, _, _ => by cases h
  | n + 1, 0, _, _, _, _, _, _, hd, _, _, _ => by omega
  | n + 1, d + 1, t, x, y, u, v, b, hd, h, hx, hy => by
    simp only [eqV] at h
    cases hi : C.ty t with
    | none => rw [hi] at h; cases h
    | some i =>
      rw [hi] at h
      have hti := hC.ty _ _ hi
      match x, y, h, hx, hy with
      | .agg xs, .agg ys, h, hx0, hy0 =>
        obtain ⟨us, hu, hxl⟩ := hx0
        obtain ⟨vs, hv, hyl⟩ := hy0
        simp only at h
        cases he : i.eqs with
        | false => rw [he] at h; cases h
        | true =>
          rw [he] at h
          simp only [cond_true] at h
          obtain ⟨fs, f1, f3, f4, f5⟩ := tiEq hti he
          rw [f5] at h
          subst hu hv
          rw [f1]
          exact eqFs_ok hC (n := n) (fun t x y u v b h' hx' hy' => eqV_ok hC (by omega) h' hx' hy') hxl hyl f4 h
      | .c p, .c q, h, ⟨hx, _⟩, ⟨hy, _⟩ =>
        simp only at h
        obtain ⟨info, dd, z, g1, g2, g3, g4, _⟩ := (tiOk hti).get
        match hu : i.u, p, q, h, hx, hy with
        | .int k0, .int k m, .int k' n', h, hx, hy =>
          simp only [eqP] at h
          cases hk : sameI k k' with
          | false => rw [hk] at h; cases h
          | true =>
            rw [hk] at h
            simp only [cond_true, Option.some.injEq] at h
            have hx' : u = .int k m := hx
            have hy' : v = .int k' n' := hy
            have := sameI_eq hk
            subst hx' hy' this h
            cases dd with
            | int k1 => exact run_equalIn_int w d t k k1 m n' g2
            | float f => cases f <;> (rw [hu] at g4; cases g4)
            | _ => rw [hu] at g4; cases g4
        | .bool, .bool m, .bool n', h, hx, hy =>
          simp only [eqP, Option.some.injEq] at h
          have hx' : u = .bool m := hx
          have hy' : v = .bool n' := hy
          subst hx' hy' h
          cases dd with
          | bool => exact run_equalIn_bool' w d t m n' g2
          | float f => cases f <;> (rw [hu] at g4; cases g4)
          | _ => rw [hu] at g4; cases g4
        | .str, .str m, .str n', h, hx, hy =>
          simp only [eqP, Option.some.injEq] at h
          have hx' : u = .string m := hx
          have hy' : v = .string n' := hy
          subst hx' hy' h
          cases dd with
          | string => exact run_equalIn_string w d t m n' g2
          | float f => cases f <;> (rw [hu] at g4; cases g4)
          | _ => rw [hu] at g4; cases g4

theorem did_eq (hC : C.Ok P) (hI : Inv Fr C.nt S e a w) {op : BinOp} {t u : TypeId} {x y : Operand} (ho : o.op = .binOp op t x y u) {xs ys : List Cell} (h1 : evalA e.t.get x = some (.agg xs)) (h2 : evalA e.t.get y = some (.agg ys))
    (hx : (effA C e.t.get o.dst o.op).run e.h.get = some (r, F)) : Did P Fr C.nt o e a w r := by
  rw [ho] at hx
  simp only [effA, h1, h2] at hx
  have hr1 := evalA_rep hI h1
  have hr2 := evalA_rep hI h2
  have guard : ∀ b, eqV C 8 t (.agg xs) (.agg ys) = some b → ∀ (m n : Operand), (eqGuard op t m n (a.eval x) (a.eval y)).run P w = .ok () w := fun b hb m n => by
    simp only [eqV] at hb
    cases hi : C.ty t with
    | none => rw [hi] at hb; cases hb
    | some i =>
      rw [hi] at hb
      simp only at hb
      cases he : i.eqs with
      | false => rw [he] at hb; cases hb
      | true =>
        obtain ⟨fs, f1, f3, f4, f5⟩ := tiEq (hC.ty _ _ hi) he
        obtain ⟨us, hu, _⟩ := hr1
        obtain ⟨vs, hv, _⟩ := hr2
        rw [hu, hv]
        exact run_eqGuard_agg w op t m n _ _ f3
  obtain ⟨us, hu, _⟩ := id hr1
  obtain ⟨vs, hv, _⟩ := id hr2
  cases op with
  | eql =>
    simp only [eqAgg, RM.run] at hx
    cases hb : eqV C 8 t (.agg xs) (.agg ys) with
    | none => rw [hb] at hx; cases hx
    | some b =>
      rw [hb] at hx
      obtain ⟨rfl, rfl⟩ := run_ret (h := e.h.get) hx
      have h3 := eqV_ok hC (d := 10000) (by decide) hb hr1 hr2
      have hg := guard b hb x y
      rw [hu, hv] at h3 hg
      refine did_pure hI (v := .bool b) ?_ ⟨rfl, rfl⟩
      simp [execOp, ho, hu, hv, hg, run_eql_struct, h3]
  | neq =>
    simp only [eqAgg, RM.run] at hx
    cases hb : eqV C 8 t (.agg xs) (.agg ys) with
    | none => rw [hb] at hx; cases hx
    | some b =>
      rw [hb] at hx
      obtain ⟨rfl, rfl⟩ := run_ret (h := e.h.get) hx
      have h3 := eqV_ok hC (d := 10000) (by decide) hb hr1 hr2
      have hg := guard b hb x y
      rw [hu, hv] at h3 hg
      refine did_pure hI (v := .bool (!b)) ?_ ⟨rfl, rfl⟩
      simp [execOp, ho, hu, hv, hg, run_neq_struct, h3]
  | _ => exact run_fail hx
end
end Go.Eng
