/-
  The engine, tenth part: literals of structs, arrays and slices.
-/
import Derived.Test.YtmcmkdiefpepnaaDoorEngI
import Derived.Laws.MakeOwn
set_option linter.unusedVariables false
set_option linter.unusedSimpArgs false
namespace Go.Eng
section
variable {P : Program} {C : Ctx} {Fr : Fd} {S : St} {o : Oper} {e : Env} {a : Act} {w : World} {r : Res} {F : List Nat}

theorem foldl_set : ∀ (us : List Value) (k o : Nat) (l : Array Value) (j : Nat), o + k + us.length ≤ l.size →
    ((us.zipIdx k).foldl (fun cs p => cs.setIfInBounds (o + p.2) p.1) l).toList[j]? = (if j < o + k then l.toList[j]? else if j < o + k + us.length then us[j - (o + k)]? else l.toList[j]?) ∧
    ((us.zipIdx k).foldl (fun cs p => cs.setIfInBounds (o + p.2) p.1) l).size = l.size
  | [], k, o, l, j, _ => by
    simp only [List.zipIdx_nil, List.foldl_nil, List.length_nil, Nat.add_zero]
    constructor
    · split <;> rfl
    · trivial
  | u :: us, k, o, l, j, h => by
    simp only [List.length_cons] at h
    have ih := foldl_set us (k + 1) o (l.setIfInBounds (o + k) u) j (by simp; omega)
    simp only [List.zipIdx_cons, List.foldl_cons]
    refine ⟨ih.1.trans ?_, by rw [ih.2]; simp⟩
    rw [Array.toList_setIfInBounds, List.getElem?_set]
    simp only [List.length_cons]
    by_cases h1 : j < o + k
    · rw [if_pos (by omega), if_neg (by omega), if_pos h1]
    · rw [if_neg h1]
      by_cases h2 : j = o + k
      · subst h2
        rw [if_pos (by omega), if_pos rfl, if_pos (by simp; omega), if_pos (by omega)]
        simp
      · rw [if_neg (by omega)]
        by_cases h3 : j < o + k + (us.length + 1)
        · rw [if_pos (by omega), if_pos h3]
          have : j - (o + k) = j - (o + (k + 1)) + 1 := by omega
          rw [this]; simp
        · rw [if_neg (by omega), if_neg (by omega), if_neg h3]

theorem fill_set (us : Array Value) (o : Nat) (vs : List Value) (h : o + us.size ≤ vs.length) :
    us.zipIdx.foldl (fun cs (p : Value × Nat) => cs.setIfInBounds (o + p.2) p.1) vs.toArray = (vs.take o ++ (us.toList ++ vs.drop (o + us.toList.length))).toArray := by
  rw [← Array.foldl_toList, Array.toList_zipIdx]
  apply Array.ext'
  apply List.ext_getElem?
  intro j
  have := foldl_set us.toList 0 o vs.toArray j (by simpa using h)
  rw [this.1]
  simp only [Nat.add_zero]
  rw [splice_get _ _ _ (by omega)]

theorem fill_ok (hI : Inv Fr C.nt S e a w) {fs : List (TypeId × Nat × Nat)} {place : Nat → Option (Nat × Nat)} (hp : ∀ i t p sz, fs[i]? = some (t, p, sz) → place i = some (p, sz)) :
    ∀ {ps : List (Nat × Operand)} {cs cs' : List Cell} {vs : List Value} {h : Nat → Option Obj}, RepL w S cs vs → (fillA fs e.t.get ps cs).run h = some (cs', F) →
      ∃ vs', Instr.fill place vs.toArray (ps.map fun p => (p.1, a.eval p.2)) = some vs'.toArray ∧ RepL w S cs' vs' ∧ vs'.length = vs.length
  | [], cs, cs', vs, h, hr, hx => by
    obtain ⟨rfl, _⟩ := run_ret hx
    exact ⟨vs, rfl, hr, rfl⟩
  | (i, x) :: ps, cs, cs', vs, h, hr, hx => by
    simp only [fillA] at hx
    cases hf : fs[i]? with
    | none => rw [hf] at hx; exact run_fail hx
    | some q =>
      obtain ⟨t, p, sz⟩ := q
      cases hv : evalA e.t.get x with
      | none => rw [hf, hv] at hx; exact run_fail hx
      | some v =>
        rw [hf, hv] at hx
        simp only at hx
        cases hc : v.cells with
        | none => rw [hc] at hx; exact run_fail hx
        | some bc =>
          obtain ⟨b, new⟩ := bc
          rw [hc] at hx
          simp only at hx
          cases hb : (Nat.beq new.length sz && Nat.ble (p + sz) cs.length) with
          | false => rw [hb] at hx; exact run_fail hx
          | true =>
            rw [hb] at hx
            simp only [Bool.and_eq_true] at hb
            have h1 := beq_iff.1 hb.1
            have h2 := Nat.le_of_ble_eq_true hb.2
            have hnew := (AVal.cells_rep (evalA_rep hI hv) hc).1
            have hn := hnew.length
            have hl := hr.length
            have hsz : (a.eval x).cells.size = sz := by rw [← h1, hn]; simp
            have hput := hr.put hnew p
            obtain ⟨vs', e1, e2, e3⟩ := fill_ok hI hp hput hx
            refine ⟨vs', ?_, e2, ?_⟩
            · simp only [List.map_cons, Instr.fill, hp i t p sz hf, hsz]
              rw [if_neg (by simp; omega), fill_set _ _ _ (by omega)]
              exact e1
            · rw [e3]; simp at hn ⊢; omega

theorem mapM_places {P : Program} : ∀ (fs : List Go.Field), (fs.all fun f => (P.info? f.type).isSome) = true → fs.mapM (fun f => (P.info? f.type).map fun i => (f.offset, i.size)) = some (fs.map fun f => (f.offset, P.cellsOf f.type))
  | [], _ => rfl
  | f :: fs, h => by
    simp only [List.all_cons, Bool.and_eq_true] at h
    cases hi : P.info? f.type with
    | none => rw [hi] at h; cases h.1
    | some i => simp [List.mapM_cons, hi, mapM_places fs h.2, Program.cellsOf]

theorem did_build (hC : C.Ok P) (hI : Inv Fr C.nt S e a w) {t : TypeId} {ps : Array (Nat × Operand)} (ho : o.op = .build t ps) (hx : (effA C e.t.get o.dst o.op).run e.h.get = some (r, F)) : Did P Fr C.nt o e a w r := by
  rw [ho] at hx
  simp only [effA] at hx
  cases hti : C.ty t with
  | none => rw [hti] at hx; exact run_fail hx
  | some i =>
    rw [hti] at hx
    simp only at hx
    obtain ⟨info, d, z, h1, h2, h3, h4, h5, h6, h7, h8, h9, h10, h11, h12⟩ := (tiOk (hC.ty t i hti)).get
    have fin : (∀ (place : Nat → Option (Nat × Nat)), (∀ j t p sz, i.fields[j]? = some (t, p, sz) → place j = some (p, sz)) → ∀ cells, Instr.fill place z.cells (ps.toList.map fun p => (p.1, a.eval p.2)) = some cells → P.built t (ps.toList.map fun p => (p.1, a.eval p.2)) = some cells → True) → True := fun _ => trivial
    have hps : (ps.map fun (i, x) => (i, a.eval x)).toList = ps.toList.map fun p => (p.1, a.eval p.2) := by simp
    have done : ∀ {cs : List Cell} {vs' : List Value}, r = ⟨some (.agg cs), [], []⟩ → P.built t (ps.toList.map fun p => (p.1, a.eval p.2)) = some vs'.toArray → RepL w S cs vs' → Did P Fr C.nt o e a w r := fun {cs vs'} hr hb hrl => by
      subst hr
      have := run_build (P := P) w t (ps.map fun (i, x) => (i, a.eval x)) vs'.toArray (by rw [hps]; exact hb)
      exact did_pure hI (v := .agg vs'.toArray) (by unfold execOp; rw [ho]; simp only [Sem.run_bind, this]; rfl) ⟨vs', rfl, hrl⟩
    have hz0 : RepL w S i.zero z.cells.toList := by rw [h8]; exact ofValues_rep _ h9
    cases hu : i.u with
    | struct =>
      rw [hu] at hx
      simp only at hx
      obtain ⟨cs, F1, F2, e1, e2, _⟩ := RM.run_bind hx
      obtain ⟨rfl, rfl⟩ := run_ret e2
      obtain ⟨fs, hfs⟩ := UD.of_struct (h4.symm.trans hu)
      subst hfs
      obtain ⟨vs', f1, f2, f3⟩ := fill_ok (place := fun j => ((fs.toList.map fun f => (f.offset, P.cellsOf f.type)).toArray[j]? : Option (Nat × Nat))) hI (fun j t p sz hj => by
        rw [h11] at hj
        simp only [List.getElem?_map] at hj
        cases hg : fs.toList[j]? with
        | none => rw [hg] at hj; cases hj
        | some g => rw [hg] at hj; simp only [Option.map_some, Option.some.injEq, Prod.mk.injEq] at hj; simp [hg]; simp at hg; simp [hg, hj.2.1, hj.2.2]) hz0 e1
      refine done rfl ?_ f2
      unfold Program.built
      simp only [h1, h2, h3, mapM_places fs.toList h12]
      simpa using f1
    | array n te =>
      rw [hu] at hx
      simp only at hx
      obtain ⟨cs, F1, F2, e1, e2, _⟩ := RM.run_bind hx
      obtain ⟨rfl, rfl⟩ := run_ret e2
      have hd := UD.of_array (h4.symm.trans hu)
      subst hd
      obtain ⟨ie, hie⟩ := Option.isSome_iff_exists.1 h12
      have hce : P.cellsOf te = ie.size := by simp [Program.cellsOf, hie]
      obtain ⟨vs', f1, f2, f3⟩ := fill_ok (place := fun j => some (j * ie.size, ie.size)) hI (fun j t p sz hj => by
        rw [h11] at hj
        simp only [List.getElem?_map] at hj
        cases hg : (List.range n)[j]? with
        | none => rw [hg] at hj; cases hj
        | some g =>
          have : g = j := by rw [List.getElem?_range] at hg; exact (Option.some.inj hg).symm; exact by have := (List.getElem?_eq_some_iff.1 hg).1; simpa using this
          subst this
          rw [hg] at hj; simp only [Option.map_some, Option.some.injEq, Prod.mk.injEq] at hj; rw [← hj.2.1, ← hj.2.2, hce]) hz0 e1
      refine done rfl ?_ f2
      unfold Program.built
      simp only [h1, h2, h3, hie]
      simpa using f1
    | _ => rw [hu] at hx; exact run_fail hx

/-! ### Slice literals -/
theorem rep_replicate {cs : List Cell} {vs : List Value} (h : RepL w S cs vs) : ∀ n, RepL w S (List.replicate n cs).flatten (List.replicate n vs).flatten
  | 0 => trivial
  | n + 1 => by simp only [List.replicate_succ, List.flatten_cons]; exact h.append (rep_replicate h n)
theorem flatten_get (vs : List Value) (hv : 0 < vs.length) : ∀ (n j : Nat), j < n * vs.length → (List.replicate n vs).flatten[j]? = vs[j % vs.length]?
  | 0, j, h => by omega
  | n + 1, j, h => by
    simp only [List.replicate_succ, List.flatten_cons]
    by_cases hlt : j < vs.length
    · rw [List.getElem?_append_left hlt, Nat.mod_eq_of_lt hlt]
    · rw [List.getElem?_append_right (by omega), flatten_get vs hv n _ (by rw [Nat.add_mul, Nat.one_mul] at h; omega)]
      congr 1
      rw [← Nat.mod_eq_sub_mod (by omega)]
theorem zeros_eq (z : Array Value) (n : Nat) (hz : 0 < z.size) : ((Array.range (n * z.size)).map (z[· % z.size]!)) = ((List.replicate n z.toList).flatten).toArray := by
  apply Array.ext'
  apply List.ext_getElem?
  intro j
  simp only [Array.toList_map, Array.toList_range]
  by_cases hj : j < n * z.size
  · rw [List.getElem?_map, List.getElem?_range hj, flatten_get _ (by simpa using hz) _ _ (by simpa using hj)]
    have : j % z.size < z.size := Nat.mod_lt _ hz
    simp [this]
  · rw [List.getElem?_eq_none (by simp; omega), List.getElem?_eq_none (by simp; omega)]

theorem did_buildSlice (hC : C.Ok P) (hI : Inv Fr C.nt S e a w) {t : TypeId} {len : Nat} {ps : Array (Nat × Operand)} (ho : o.op = .buildSlice t len ps) (hx : (effA C e.t.get o.dst o.op).run e.h.get = some (r, F))
    (hw : writesOk e.h F.reverse r = true) : Did P Fr C.nt o e a w r := by
  rw [ho] at hx
  simp only [effA] at hx
  split at hx
  · rename_i te _ _ _ _ _ _ _ hti
    obtain ⟨_, dd, _, hd, hu, _⟩ := under hC hti
    have hd' := UD.of_slice hu.symm
    subst hd'
    cases hte : C.ty te with
    | none => rw [hte] at hx; exact run_fail hx
    | some i =>
      rw [hte] at hx
      simp only at hx
      cases hk : i.kind with
      | none => rw [hk] at hx; exact run_fail hx
      | some k =>
        rw [hk] at hx
        simp only at hx
        cases hb : (Nat.beq k.sz i.size && Nat.ble (len * i.size) 16777216) with
        | false => rw [hb] at hx; exact run_fail hx
        | true =>
          rw [hb] at hx
          simp only [Bool.and_eq_true] at hb
          have hsz := beq_iff.1 hb.1
          have hfit := Nat.le_of_ble_eq_true hb.2
          have hpos := k.sz_pos
          simp only [cond_true] at hx
          obtain ⟨z, z1, z2, z3, z4⟩ := run_zero (P := P) (w := w) (tiOk (hC.ty te i hte))
          obtain ⟨cs, F1, F2, e1, e2, hF⟩ := RM.run_bind hx
          obtain ⟨⟨nw, ups⟩, F3, F4, e3, e4, hF2⟩ := RM.run_bind e2
          have hrep0 : RepL w S (List.replicate len i.zero).flatten (List.replicate len z.cells.toList).flatten := rep_replicate (by rw [z2]; exact ofValues_rep _ z3) len
          obtain ⟨vs', f1, f2, f3⟩ := fill_ok (place := fun j => some (j * i.size, i.size)) hI (fun j t' p sz hj => by
            simp only [places, List.getElem?_map] at hj
            cases hg : (List.range len)[j]? with
            | none => rw [hg] at hj; cases hj
            | some g =>
              have : g = j := by rw [List.getElem?_range] at hg; exact (Option.some.inj hg).symm; exact by have := (List.getElem?_eq_some_iff.1 hg).1; simpa using this
              subst this
              rw [hg] at hj; simp only [Option.map_some, Option.some.injEq, Prod.mk.injEq] at hj; rw [← hj.2.1, ← hj.2.2]) hrep0 e1
          obtain ⟨S1, l1, I1, fz1, r1⟩ := valL_rep (h0 := e.h) (h := e.h) hI (Fz.refl _) f2 e3
          cases hpn : projN k len nw with
          | none => simp only [hpn] at e4; exact run_fail e4
          | some xs =>
            simp only [hpn] at e4
            obtain ⟨rfl, _⟩ := run_ret e4
            obtain ⟨p1, p2, p3⟩ := projN_rep r1 hpn
            have hps : (ps.map fun (i, x) => (i, a.eval x)).toList = ps.toList.map fun p => (p.1, a.eval p.2) := by simp
            -- the model
            have hrun : (execOp a.eval o).run P w = .ok (.value (.slice (some ⟨w.heap.size, 0, none⟩) len len)) (w.alloc (.cells vs'.toArray te)) := by
              have hbs : (Instr.buildSlice t len (ps.map fun (i, x) => (i, a.eval x))).run P w = .ok (.slice (some ⟨w.heap.size, 0, none⟩) len len) (w.alloc (.cells vs'.toArray te)) := by
                have hzs : z.cells.size = i.size := z4
                have hze : ((Array.range (len * i.size)).map (z.cells[· % z.cells.size]!)) = ((List.replicate len z.cells.toList).flatten).toArray := by rw [← hzs]; exact zeros_eq _ _ (by omega)
                simp only [Instr.buildSlice, Sem.run_bind, run_underlying hd, Result.andThen_ok, run_size (tiOk (hC.ty te i hte))]
                rw [if_neg (by omega)]
                by_cases h0 : len * i.size = 0
                · have hl0 : len = 0 := by
                    rcases Nat.mul_eq_zero.1 h0 with h | h
                    · exact h
                    · omega
                  subst hl0
                  simp only [Nat.zero_mul, if_true, Sem.run_pure, Result.andThen_ok, hps]
                  have hf1 : Instr.fill (fun j => some (j * i.size, i.size)) ((Array.range 0).map fun x => (#[] : Array Value)[x % (#[] : Array Value).size]!) (ps.toList.map fun p => (p.1, a.eval p.2)) = some vs'.toArray := by
                    have h00 : ((Array.range 0).map fun x => (#[] : Array Value)[x % (#[] : Array Value).size]!) = #[] := by apply Array.ext'; simp
                    rw [h00]; simpa using f1
                  rw [Sem.run_bind, Sem.run_pure, Result.andThen_ok]
                  rw [hf1]
                  simp [newRow]
                · rw [if_neg h0]
                  simp only [Sem.run_bind, z1, Result.andThen_ok, Sem.run_pure, hps, hze, f1]
                  simp [newRow]
              unfold execOp; rw [ho]; simp only [Sem.run_bind, hbs]; rfl
            have hnm : (setAll ups e.h).get (nm (o.dst.getD 0) 0) = none := by
              simp only [writesOk, Bool.and_eq_true] at hw
              have h9 := has_none hw.2
              rcases fz1 (nm (o.dst.getD 0) 0) with h | ⟨t2, k2, xs2, h, _⟩
              · rw [h]; exact h9
              · rw [h9] at h; cases h
            have hle' : S1.le (S1.bind (nm (o.dst.getD 0) 0) (.slice (some ⟨w.heap.size, 0, none⟩) len len)) := St.le_bind (.inl (I1.news _ hnm))
            have hval : (S1.bind (nm (o.dst.getD 0) 0) (.slice (some ⟨w.heap.size, 0, none⟩) len len)).val (nm (o.dst.getD 0) 0) = some (.slice (some ⟨w.heap.size, 0, none⟩) len len) := by simp [St.bind]
            have hkeep : Keeps S1.imm w (w.alloc (.cells vs'.toArray te)) := fun b hb => heap_alloc_old w _ b (I1.imm b hb).1
            have hsl : vs'.length = len * k.sz := by rw [p2]
            have hml : len ≤ maxLen := by
              have : len * 1 ≤ len * i.size := Nat.mul_le_mul_left _ (by omega)
              unfold maxLen; omega
            refine did_value hrun (S' := S1.bind (nm (o.dst.getD 0) 0) (.slice (some ⟨w.heap.size, 0, none⟩) len len)) (fun x hx => ?_) ?_
            · cases hx; exact ⟨⟨hval, rfl⟩, rfl⟩
            · refine I1.new hnm rfl ⟨_, vs', hval, ?_, fun i x hi => (p3 i x hi).keep hkeep (fun _ h => h) (fun _ _ => rfl), f2.ones⟩
              have := World.ownsRow_lit (base := 0) (e := te) (size := k.sz) w vs'.toArray len (Nat.zero_le _) hml (by simpa using hsl)
              rw [p1]; simpa using this
  · exact run_fail hx

theorem flatten_take {α : Type} (l : List α) : ∀ (n m : Nat), n ≤ m → ((List.replicate m l).flatten).take (n * l.length) = (List.replicate n l).flatten
  | 0, m, _ => by simp
  | n + 1, 0, h => by omega
  | n + 1, m + 1, h => by
    simp only [List.replicate_succ, List.flatten_cons]
    rw [Nat.add_mul, Nat.one_mul, Nat.add_comm, List.take_append]
    simp only [Nat.add_sub_cancel_left]
    rw [flatten_take l n m (by omega), List.take_of_length_le (by omega)]

theorem did_makeSlice (hC : C.Ok P) (hI : Inv Fr C.nt S e a w) {t : TypeId} {x y : Operand} (ho : o.op = .makeSlice t x y) (hx : (effA C e.t.get o.dst o.op).run e.h.get = some (r, F))
    (hw : writesOk e.h F.reverse r = true) : Did P Fr C.nt o e a w r := by
  rw [ho] at hx
  simp only [effA] at hx
  obtain ⟨p, q, hp, hq, hx⟩ := bi_inv hx
  have hpr := evalA_rep hI hp
  have hqr := evalA_rep hI hq
  unfold makeA at hx
  split at hx
  · rename_i te _ _ _ _ _ _ _ kl l kc c hti
    obtain ⟨_, dd, _, hd, hu, _⟩ := under hC hti
    have hd' := UD.of_slice hu.symm
    subst hd'
    cases hte : C.ty te with
    | none => rw [hte] at hx; exact run_fail hx
    | some i =>
      rw [hte] at hx
      simp only at hx
      cases hk : i.kind with
      | none => rw [hk] at hx; exact run_fail hx
      | some k =>
        rw [hk] at hx
        simp only at hx
        cases hb : (Nat.beq k.sz i.size && Nat.blt 0 i.bytes) with
        | false => rw [hb] at hx; exact run_fail hx
        | true =>
          rw [hb] at hx
          simp only [Bool.and_eq_true] at hb
          have hsz := beq_iff.1 hb.1
          have hby : 0 < i.bytes := Nat.le_of_ble_eq_true hb.2
          have hpos := k.sz_pos
          simp only [cond_true, RM.run] at hx
          cases hz : proj1 k i.zero with
          | none => rw [hz] at hx; cases hx
          | some z0 =>
            rw [hz] at hx
            obtain ⟨a1, hx⟩ := RM.run_asks hx
            obtain ⟨a2, hx⟩ := RM.run_asks hx
            obtain ⟨a3, hx⟩ := RM.run_asks hx
            obtain ⟨rfl, rfl⟩ := run_ret hx
            have a1 := of_decide_eq_true a1
            have a2 := of_decide_eq_true a2
            have a3 := of_decide_eq_true a3
            obtain ⟨info, d', z, h1, h2, h3, h4, h5, h6, h7, h8, h9, h10, _⟩ := (tiOk (hC.ty te i hte)).get
            have hmul : c.toNat * info.bytes ≤ 140737488355328 := by
              have := Nat.mul_le_mul_right i.bytes a3
              have h0 := Nat.div_mul_le_self maxBytes i.bytes
              rw [← h6]; unfold maxBytes at *; omega
            have hml : c.toNat ≤ maxLen := by
              have h0 := Nat.div_le_self maxBytes i.bytes
              have : maxBytes ≤ maxLen := by unfold maxBytes maxLen; omega
              omega
            have hev : a.eval x = .int kl l := hpr.1
            have hev' : a.eval y = .int kc c := hqr.1
            have hc0 : c = (c.toNat : Int) := by omega
            have hrun := run_make (P := P) w t te info z hd h1 h3 kl kc l c a1 a2 (by rw [hc0, ← Int.natCast_mul, Nat.mul_comm]; omega) (by unfold maxLen at hml; omega)
            have hzr : RepL w S i.zero z.cells.toList := by rw [h8]; exact ofValues_rep _ h9
            obtain ⟨p1, p2⟩ := hzr.proj1 hz
            have hnm := has_none (by simpa [writesOk] using hw)
            let v : Value := .slice (some ⟨w.heap.size, 0, none⟩) l.toNat c.toNat
            have hval : (S.bind (nm (o.dst.getD 0) 0) v).val (nm (o.dst.getD 0) 0) = some v := by simp [St.bind]
            have hkeep : Keeps S.imm w (w.alloc (.cells (madeCells z.cells (c.toNat * info.size)) te)) := fun b hb => heap_alloc_old w _ b (hI.imm b hb).1
            have hze : madeCells z.cells (c.toNat * info.size) = ((List.replicate c.toNat z.cells.toList).flatten).toArray := by
              rw [← h10]; exact zeros_eq _ _ (by omega)
            have hzl : z.cells.toList.length = k.sz := by simp; omega
            refine did_value (v := v) (by unfold execOp; rw [ho]; simp only [hev, hev', Sem.run_bind, hrun]; rfl) (S' := S.bind (nm (o.dst.getD 0) 0) v) (fun x hx => ?_) ?_
            · cases hx; exact ⟨⟨hval, rfl⟩, rfl⟩
            · refine hI.new hnm rfl ⟨v, (List.replicate l.toNat z.cells.toList).flatten, hval, ?_, fun j y hj => ?_, fun u hu => ?_⟩
              · refine ⟨by simp [hzl], .inr ⟨w.heap.size, c.toNat, _, by simp [v], Nat.zero_le _, heap_alloc_new w _, by simp; omega, hml, ?_, ?_⟩⟩
                · rw [size_madeCells]; congr 1; omega
                · rw [hze, List.length_replicate, ← hzl]
                  exact flatten_take _ _ _ (by omega)
              · have hlt : j < l.toNat := by have := (List.getElem?_eq_some_iff.1 hj).1; simpa using this
                have hy : y = z0 := by
                  have := List.mem_of_getElem? hj
                  exact List.eq_of_mem_replicate this
                subst hy
                refine p1.keep hkeep (fun _ h => h) fun c' hc' => ?_
                rw [flatten_get _ (by omega) _ _ (by
                  rw [hzl]
                  have : (j + 1) * k.sz ≤ l.toNat * k.sz := Nat.mul_le_mul_right _ hlt
                  rw [Nat.add_mul, Nat.one_mul] at this; omega), hzl]
                congr 1
                rw [Nat.mul_comm, Nat.mul_add_mod, Nat.mod_eq_of_lt hc']
              · obtain ⟨l', hl', hu'⟩ := List.mem_flatten.1 hu
                rw [List.eq_of_mem_replicate hl'] at hu'
                exact h9 u hu'
  · exact run_fail hx
end
end Go.Eng
