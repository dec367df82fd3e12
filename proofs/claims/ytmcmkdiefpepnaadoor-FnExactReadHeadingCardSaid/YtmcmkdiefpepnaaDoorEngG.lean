/-
  The engine, seventh part: the operations, one by one (addresses, fields, slices, lengths).
-/
import Derived.Test.YtmcmkdiefpepnaaDoorEngF
set_option linter.unusedVariables false
set_option linter.unusedSimpArgs false
namespace Go.Eng
section
variable {P : Program} {C : Ctx} {Fr : Fd} {S : St} {o : Oper} {e : Env} {a : Act} {w : World} {r : Res} {F : List Nat}

/-- A field of a struct type, as the table tells it. -/
theorem field_at (hC : C.Ok P) {t : TypeId} {i : TI} (hti : C.ty t = some i) {f : Nat} {ft : TypeId} {p sz : Nat} (hf : i.fields[f]? = some (ft, p, sz)) {fs : Array Go.Field} (hd : P.underlying t = some (.struct fs)) :
    ∃ g : Go.Field, fs[f]? = some g ∧ g.type = ft ∧ g.offset = p ∧ P.cellsOf ft = sz := by
  obtain ⟨info, d, z, h1, h2, h3, h4, h5, h6, h7, h8, h9, h10, h11, _⟩ := (tiOk (hC.ty t i hti)).get
  rw [hd] at h2; cases h2
  rw [h11] at hf
  simp only [List.getElem?_map, Array.getElem?_toList] at hf
  cases hg : fs[f]? with
  | none => simp [hg] at hf
  | some g => simp only [hg, Option.map_some, Option.some.injEq, Prod.mk.injEq] at hf; exact ⟨g, rfl, hf.1, hf.2.1, hf.1 ▸ hf.2.2⟩
theorem cellsOf_run {ft : TypeId} {sz : Nat} (h : P.cellsOf ft = sz) (h0 : 0 < sz) : (sizeOf ft).run P w = .ok sz w := by
  unfold Program.cellsOf at h
  cases hi : P.info? ft with
  | none => simp [hi] at h; omega
  | some i => simp [hi] at h; simp [sizeOf, typeInfo, hi, h]

theorem did_fieldAddr (hC : C.Ok P) (hI : Inv Fr C.nt S e a w) {t : TypeId} {x : Operand} {f : Nat} (ho : o.op = .fieldAddr t x f) (hx : (effA C e.t.get o.dst o.op).run e.h.get = some (r, F)) : Did P Fr C.nt o e a w r := by
  rw [ho] at hx
  simp only [effA] at hx
  obtain ⟨v, hv, hx⟩ := un_inv hx
  have hr := evalA_rep hI hv
  unfold fieldAddrA at hx
  cases hti : C.ty t with
  | none => rw [hti] at hx; exact run_fail hx
  | some i =>
    obtain ⟨iu, is, ib, iz, ia, ik, ifs⟩ := i
    rw [hti] at hx
    cases iu with
    | struct =>
      simp only at hx
      cases hf : ifs[f]? with
      | none => rw [hf] at hx; exact run_fail hx
      | some q =>
        obtain ⟨ft, p, sz⟩ := q
        rw [hf] at hx
        simp only at hx
        cases hsz : Nat.blt 0 sz with
        | false => rw [hsz] at hx; exact run_fail hx
        | true =>
          rw [hsz] at hx
          have hpos : 0 < sz := Nat.le_of_ble_eq_true hsz
          obtain ⟨_, d, _, h2, hu, _⟩ := under hC hti
          obtain ⟨fs, hfs⟩ := UD.of_struct hu.symm
          subst hfs
          obtain ⟨g, hg, hgt, hgo, hgs⟩ := field_at hC hti hf h2
          have key : ∀ b q, a.eval x = .pointer (some ⟨b, q, none⟩) → (execOp a.eval o).run P w = .ok (.value (.pointer (some ⟨b, q + p, none⟩))) w := fun b q hq => by
            have hs : (sizeOf g.type).run P w = .ok sz w := by rw [hgt]; exact cellsOf_run hgs hpos
            have hadd : (⟨b, q, none⟩ : Addr).add g.offset = ⟨b, q + p, none⟩ := by rw [hgo, Addr.add_mid]
            simp [execOp, ho, hq, Instr.fieldAt, run_underlying h2, hg, Instr.sureAddr, fieldPlace, hs, hadd, show ¬ sz = 0 by omega]
          match v, hr, hx with
          | .c (.ptr n q), hr, hx =>
            obtain ⟨rfl, rfl⟩ := run_ret hx
            obtain ⟨b, hb, hq⟩ := hr.1
            exact did_pure hI (key b q hq) ⟨⟨b, hb, rfl⟩, rfl⟩
          | .c (.eptr n zz j q), hr, hx =>
            obtain ⟨rfl, rfl⟩ := run_ret hx
            obtain ⟨b, len, cap, hb, hj, hq⟩ := hr.1
            exact did_pure hI (key b _ hq) ⟨⟨b, len, cap, hb, hj, by rw [Nat.add_assoc]⟩, rfl⟩
          | .c (.vptr k xs j q), hr, hx =>
            obtain ⟨rfl, rfl⟩ := run_ret hx
            obtain ⟨b, p', hq, hrest⟩ := hr.1
            exact did_pure hI (key b _ hq) ⟨⟨b, p', by rw [Nat.add_assoc], hrest⟩, rfl⟩
          | .c (.gptr g' q), hr, hx =>
            obtain ⟨rfl, rfl⟩ := run_ret hx
            exact did_pure hI (key g' q hr.1) ⟨rfl, rfl⟩
          | .c (.int ..), _, hx | .c (.bool _), _, hx | .c (.str _), _, hx | .c (.flt _), _, hx | .c (.sl ..), _, hx | .c .nil, _, hx | .c (.ref _), _, hx
          | .c (.fn ..), _, hx | .c (.opq _), _, hx | .agg _, _, hx | .tup _, _, hx => exact run_fail hx
    | _ => exact run_fail hx

/-- A part of what is a struct. -/
theorem part_at {t : TypeId} {i : TI} (h : TiOk P t i) {cs : List Cell} {vs : List Value} {x : AVal} {q : Nat} {hp : Nat → Option Obj} (hr : RepL w S cs vs) (hle : q + i.size ≤ cs.length)
    (hx : (aggOr i.agg (sliceC cs q i.size)).run hp = some (x, F)) : ∃ u, (part t vs.toArray q).run P w = .ok u w ∧ RepA w S x u := by
  have hag := run_isAgg (P := P) (w := w) h
  have hsz := run_size (P := P) (w := w) h
  have hl := hr.length
  unfold part
  rw [Sem.run_bind, hag]
  simp only [Result.andThen_ok]
  have hs := hr.slice q i.size
  cases ha : i.agg with
  | true =>
    simp only [aggOr, ha, cond_true, RM.run, Option.some.injEq, Prod.mk.injEq] at hx
    obtain ⟨rfl, rfl⟩ := hx
    refine ⟨.agg ((vs.drop q).take i.size).toArray, ?_, _, rfl, hs⟩
    simp only [if_true, Sem.run_bind, hsz, Result.andThen_ok, Sem.run_pure]
    congr 2
    simp [Nat.add_sub_cancel_left]
  | false =>
    simp only [aggOr, ha, cond_false] at hx
    generalize hc : sliceC cs q i.size = ds at hx hs
    match ds, hx with
    | [c], hx =>
      obtain ⟨rfl, rfl⟩ := run_ret hx
      have hlen : ((vs.drop q).take i.size).length = 1 := by rw [← hs.length]; rfl
      match hv : (vs.drop q).take i.size, hlen with
      | [v], _ =>
        rw [hv] at hs
        have hget : vs[q]? = some v := by
          have h0 : ((vs.drop q).take i.size)[0]? = some v := by rw [hv]; rfl
          rw [List.getElem?_take] at h0
          split at h0
          · rw [List.getElem?_drop] at h0; simpa using h0
          · cases h0
        refine ⟨v, ?_, hs.1, hs.1.one⟩
        simp [hget]
    | [], hx => exact run_fail hx
    | _ :: _ :: _, hx => exact run_fail hx

theorem did_field (hC : C.Ok P) (hI : Inv Fr C.nt S e a w) {t : TypeId} {x : Operand} {f : Nat} (ho : o.op = .field t x f) (hx : (effA C e.t.get o.dst o.op).run e.h.get = some (r, F)) : Did P Fr C.nt o e a w r := by
  rw [ho] at hx
  simp only [effA] at hx
  obtain ⟨v, hv, hx⟩ := un_inv hx
  have hr := evalA_rep hI hv
  unfold fieldA at hx
  cases hti : C.ty t with
  | none => rw [hti] at hx; exact run_fail hx
  | some i =>
    obtain ⟨iu, is, ib, iz, ia, ik, ifs⟩ := i
    rw [hti] at hx
    match iu, v, hr, hx, hti with
    | .struct, .agg cs, hr, hx, hti =>
      simp only at hx
      cases hf : ifs[f]? with
      | none => rw [hf] at hx; exact run_fail hx
      | some q =>
        obtain ⟨ft, p, sz⟩ := q
        rw [hf] at hx
        simp only at hx
        cases hfi : C.ty ft with
        | none => rw [hfi] at hx; exact run_fail hx
        | some fi =>
          rw [hfi] at hx
          simp only at hx
          cases hle : Nat.ble (p + fi.size) cs.length with
          | false => rw [hle] at hx; exact run_fail hx
          | true =>
            rw [hle] at hx
            obtain ⟨y, F1, F2, h1, h2, _⟩ := RM.run_bind (m := aggOr fi.agg (sliceC cs p fi.size)) (f := ok) hx
            obtain ⟨rfl, rfl⟩ := run_ret h2
            obtain ⟨_, d, _, hd, hu, _⟩ := under hC hti
            obtain ⟨fs, hfs⟩ := UD.of_struct hu.symm
            subst hfs
            obtain ⟨g, hg, hgt, hgo, hgs⟩ := field_at hC hti hf hd
            obtain ⟨vs, hev, hrl⟩ := hr
            obtain ⟨u, hu', hur⟩ := part_at (P := P) (tiOk (hC.ty ft fi hfi)) hrl (Nat.le_of_ble_eq_true hle) h1
            exact did_pure hI (by simp [execOp, ho, hev, Instr.field, run_underlying hd, hg, asAgg, hgt, hgo, hu']) hur
    | .struct, .c _, _, hx, _ | .struct, .tup _, _, hx, _ => exact run_fail hx
    | .bool, _, _, hx, _ | .int _, _, _, hx, _ | .flt, _, _, hx, _ | .str, _, _, hx, _ | .ptr _, _, _, hx, _ | .slice _, _, _, hx, _ | .array .., _, _, hx, _ | .other, _, _, hx, _ => exact run_fail hx

theorem elemOk_size (hC : C.Ok P) {t : TypeId} {k : Kind} (h : elemOk C t k = true) : (sizeOf t).run P w = .ok k.sz w := by
  unfold elemOk at h
  cases hti : C.ty t with
  | none => rw [hti] at h; cases h
  | some i => rw [hti] at h; rw [run_size (tiOk (hC.ty t i hti)), beq_iff.1 h]

theorem inB_inv {i : Int} {n : Nat} {m : RM Res} {h : Nat → Option Obj} {y : Res × List Nat} (hx : (inB i n m).run h = some y) : 0 ≤ i ∧ i.toNat < n ∧ i < (n : Int) ∧ m.run h = some y := by
  obtain ⟨h1, hx⟩ := RM.run_asks hx
  obtain ⟨h2, hx⟩ := RM.run_asks hx
  have h1 := of_decide_eq_true h1
  have h2 := of_decide_eq_true h2
  exact ⟨h1, by omega, h2, hx⟩

theorem projN_rep {S : St} : ∀ {k : Kind} {n : Nat} {cs : List Cell} {vs : List Value} {xs : List k.den}, RepL w S cs vs → projN k n cs = some xs →
    xs.length = n ∧ vs.length = n * k.sz ∧ ∀ i x, xs[i]? = some x → RepK w S.imm k x fun j => vs[i * k.sz + j]?
  | k, 0, [], [], xs, _, hx => by
    simp only [projN, Option.some.injEq] at hx; subst hx
    exact ⟨rfl, by simp, fun i x hi => by simp at hi⟩
  | k, 0, _ :: _, _, xs, _, hx => by simp [projN] at hx
  | k, n + 1, cs, vs, xs, hr, hx => by
    simp only [projN] at hx
    cases hp : proj k cs with
    | none => rw [hp] at hx; cases hx
    | some q =>
      obtain ⟨x, rr⟩ := q
      rw [hp] at hx
      simp only at hx
      cases hq : projN k n rr with
      | none => rw [hq] at hx; cases hx
      | some ys =>
        rw [hq] at hx
        simp only [Option.some.injEq] at hx
        subst hx
        obtain ⟨h1, h2, h3⟩ := hr.proj hp
        obtain ⟨e1, e2, e3⟩ := projN_rep h2 hq
        simp only [List.length_drop] at e2
        refine ⟨by simp [e1], by rw [Nat.add_mul, Nat.one_mul]; omega, fun i y hi => ?_⟩
        cases i with
        | zero =>
          simp only [List.getElem?_cons_zero, Option.some.injEq] at hi
          subst hi
          refine h1.keep (fun _ _ => rfl) (fun _ h => h) fun j _ => by simp
        | succ i =>
          simp only [List.getElem?_cons_succ] at hi
          refine (e3 i y hi).keep (fun _ _ => rfl) (fun _ h => h) fun j _ => ?_
          rw [List.getElem?_drop]
          congr 1; rw [Nat.add_mul]; omega

theorem did_indexAddr (hC : C.Ok P) (hgl : Fr.gl = C.gl) (hI : Inv Fr C.nt S e a w) {t : TypeId} {x y : Operand} (ho : o.op = .indexAddr t x y) (hx : (effA C e.t.get o.dst o.op).run e.h.get = some (r, F)) : Did P Fr C.nt o e a w r := by
  rw [ho] at hx
  simp only [effA] at hx
  obtain ⟨v, j, hv, hj, hx⟩ := bi_inv hx
  have hr := evalA_rep hI hv
  have hjr := evalA_rep hI hj
  unfold indexAddrA at hx
  -- an immutable list
  have imm : ∀ (d : TypeDesc) (te : TypeId) (k : Kind) (xs : List k.den) (q : IntKind) (m : Int), P.underlying t = some d → UD.of d = .slice te → SlV w S.imm k xs (a.eval x) → a.eval y = .int q m → elemOk C te k = true → (inB m xs.length (okC (.vptr k xs m 0))).run e.h.get = some (r, F) → Did P Fr C.nt o e a w r := fun d te k xs q m hd hu hs hm hel hx => by
    obtain ⟨h0, h1, h1', hx⟩ := inB_inv hx
    obtain ⟨rfl, rfl⟩ := run_ret hx
    have hd' := UD.of_slice hu
    subst hd'
    obtain ⟨ad, len, cap, he, hlen, hcap, hn, hrest⟩ := hs
    cases he' : a.eval x with
    | slice ad' len' cap' =>
      rw [he'] at he; cases he
      rcases hrest with hrest | ⟨b, p, rfl, hib, hel2⟩
      · subst hrest; simp at h1
      · refine did_pure hI (v := .pointer (some ⟨b, p + m.toNat * k.sz, none⟩)) ?_ ⟨⟨b, p, rfl, hib, h0, h1, hel2⟩, rfl⟩
        simp [execOp, ho, he', hm, Instr.indexAt, asIntOf, run_underlying hd, hlen, h0, h1', elemOk_size hC hel, Addr.add_mid]
    | _ => rw [he'] at he; cases he
  split at hx
  · rename_i te _ _ _ _ _ _ _ k xs q m hti
    obtain ⟨_, d, _, hd, hu, _⟩ := under hC hti
    cases hel : elemOk C te k with
    | false => rw [hel] at hx; exact run_fail hx
    | true => rw [hel] at hx; exact imm d te k xs q m hd hu.symm hr.1 hjr.1 hel hx
  · rename_i te _ _ _ _ _ _ _ n q m hti
    obtain ⟨_, d, _, hd, hu, _⟩ := under hC hti
    obtain ⟨ob, F', hn, hy, rfl⟩ := RM.run_look hx
    cases ob with
    | lst te' k xs =>
      simp only at hy
      cases hel : elemOk C te k with
      | false => rw [hel] at hy; exact run_fail hy
      | true =>
        rw [hel] at hy
        obtain ⟨h0, h1, h1', hz⟩ := inB_inv hy
        obtain ⟨rfl, rfl⟩ := run_ret hz
        have hd' := UD.of_slice hu.symm
        subst hd'
        obtain ⟨v', flat, hvv, h2, h3, h4⟩ := hI.objs n _ hn
        rw [hr.1.1] at hvv; cases hvv
        have hm : a.eval y = .int q m := hjr.1
        rcases h2.2 with ⟨_, h⟩ | ⟨g, cap', cur, h, _, hg, hnc, hcm, hcs, htake⟩
        · omega
        · refine did_pure hI (v := .pointer (some ⟨g, m.toNat * k.sz, none⟩)) ?_ ⟨⟨g, _, _, by rw [← h]; exact hr.1.1, h0, rfl⟩, rfl⟩
          simp [execOp, ho, h, hm, Instr.indexAt, asIntOf, run_underlying hd, h0, h1', elemOk_size hC hel, Addr.add_mid]
    | frz k xs =>
      simp only at hy
      cases hel : elemOk C te k with
      | false => rw [hel] at hy; exact run_fail hy
      | true =>
        rw [hel] at hy
        obtain ⟨v', hvv, hs⟩ := hI.objs n _ hn
        rw [hr.1.1] at hvv; cases hvv
        obtain ⟨h0, h1, h1', hz⟩ := inB_inv hy
        obtain ⟨rfl, rfl⟩ := run_ret hz
        have hd' := UD.of_slice hu.symm
        subst hd'
        have hm : a.eval y = .int q m := hjr.1
        obtain ⟨ad, len, cap, he, hlen, hcap, hnn, hrest⟩ := hs
        cases he' : a.eval x with
        | slice ad' len' cap' =>
          rw [he'] at he; cases he
          rcases hrest with hrest | ⟨b, p, rfl, hib, hel2⟩
          · subst hrest; simp at h1
          · refine did_pure hI (v := .pointer (some ⟨b, p + m.toNat * k.sz, none⟩)) ?_ ⟨⟨b, p, rfl, hib, h0, h1, hel2⟩, rfl⟩
            simp [execOp, ho, he', hm, Instr.indexAt, asIntOf, run_underlying hd, hlen, h0, h1', elemOk_size hC hel, Addr.add_mid]
        | _ => rw [he'] at he; cases he
    | _ => exact run_fail hy
  · rename_i len te _ _ _ _ _ _ _ n p q m hti
    obtain ⟨_, d, _, hd, hu, _⟩ := under hC hti
    cases hte : C.ty te with
    | none => rw [hte] at hx; exact run_fail hx
    | some ie =>
      rw [hte] at hx
      simp only at hx
      cases hb : (decide (0 ≤ m) && decide (m < (len : Int))) with
      | false => rw [hb] at hx; exact run_fail hx
      | true =>
        rw [hb] at hx
        obtain ⟨rfl, rfl⟩ := run_ret hx
        simp only [Bool.and_eq_true, decide_eq_true_eq] at hb
        have hd' := UD.of_array hu.symm
        subst hd'
        obtain ⟨b, hbv, hev⟩ := hr.1
        have hm : a.eval y = .int q m := hjr.1
        refine did_pure hI (v := .pointer (some ⟨b, p + m.toNat * ie.size, none⟩)) ?_ ⟨⟨b, hbv, rfl⟩, rfl⟩
        simp [execOp, ho, hev, hm, Instr.indexAt, asIntOf, run_underlying hd, Instr.sureAddr, hb.1, hb.2, run_size (tiOk (hC.ty te ie hte)), Addr.add_mid]
  · rename_i len te _ _ _ _ _ _ _ g p q m hti
    obtain ⟨_, d, _, hd, hu, _⟩ := under hC hti
    cases hte : C.ty te with
    | none => rw [hte] at hx; exact run_fail hx
    | some ie =>
      rw [hte] at hx
      simp only at hx
      cases hk : ie.kind with
      | none => rw [hk] at hx; exact run_fail hx
      | some k =>
        cases hg : C.gl g with
        | none => rw [hk, hg] at hx; exact run_fail hx
        | some cs =>
          rw [hk, hg] at hx
          simp only at hx
          cases hb : (Nat.beq k.sz ie.size && Nat.ble (p + len * k.sz) cs.length) with
          | false => rw [hb] at hx; exact run_fail hx
          | true =>
            rw [hb] at hx
            simp only [cond_true, RM.run] at hx
            simp only [Bool.and_eq_true] at hb
            have hsz := beq_iff.1 hb.1
            have hle := Nat.le_of_ble_eq_true hb.2
            cases hpn : projN k len (sliceC cs p (len * k.sz)) with
            | none => rw [hpn] at hx; cases hx
            | some xs =>
              rw [hpn] at hx
              obtain ⟨h0, h1, h1', hx⟩ := inB_inv hx
              obtain ⟨rfl, rfl⟩ := run_ret hx
              have hd' := UD.of_array hu.symm
              subst hd'
              have hev : a.eval x = .pointer (some ⟨g, p, none⟩) := hr.1
              have hm : a.eval y = .int q m := hjr.1
              obtain ⟨him, vs, h3', _, h5, _⟩ := hI.glob g cs (by rw [hgl]; exact hg)
              have h3 : RepL w S cs vs := RepL.keep (S := ⟨fun _ => none, S.imm⟩) (S' := S) ⟨(fun _ _ h => nomatch h), fun _ h => h⟩ (fun _ _ => rfl) h3'
              have hlen := h3.length
              obtain ⟨e1, e2, e3⟩ := projN_rep (h3.slice p (len * k.sz)) hpn
              refine did_pure hI (v := .pointer (some ⟨g, p + m.toNat * ie.size, none⟩)) ?_ ⟨⟨g, p, by simp [hsz], him, h0, by omega, fun j z hj => (e3 j z hj).keep (fun _ _ => rfl) (fun _ h => h) fun c hc => ?_⟩, rfl⟩
              · simp [execOp, ho, hev, hm, Instr.indexAt, asIntOf, run_underlying hd, Instr.sureAddr, h0, h1', run_size (tiOk (hC.ty te ie hte)), Addr.add_mid]
              · have hj' : j < len := by have := (List.getElem?_eq_some_iff.1 hj).1; omega
                have hmul : (j + 1) * k.sz ≤ len * k.sz := Nat.mul_le_mul_right _ hj'
                rw [Nat.add_mul, Nat.one_mul] at hmul
                rw [List.getElem?_take, if_pos (by omega), List.getElem?_drop]
                have hlt : p + (j * k.sz + c) < vs.length := by omega
                rw [List.getElem?_eq_getElem hlt, Nat.add_assoc]
                exact h5 _ _ (List.getElem?_eq_getElem hlt)
  · exact run_fail hx

theorem did_index (hC : C.Ok P) (hI : Inv Fr C.nt S e a w) {t : TypeId} {x y : Operand} (ho : o.op = .index t x y) (hx : (effA C e.t.get o.dst o.op).run e.h.get = some (r, F)) : Did P Fr C.nt o e a w r := by
  rw [ho] at hx
  simp only [effA] at hx
  obtain ⟨v, j, hv, hj, hx⟩ := bi_inv hx
  have hr := evalA_rep hI hv
  have hjr := evalA_rep hI hj
  unfold indexA at hx
  split at hx
  · rename_i s q m hti
    obtain ⟨_, d, _, hd, hu, _⟩ := under hC hti
    have hd' := UD.of_str hu.symm
    subst hd'
    obtain ⟨h0, h1, h1', hx⟩ := inB_inv hx
    obtain ⟨rfl, rfl⟩ := run_ret hx
    have hs : a.eval x = .string s := hr.1
    have hm : a.eval y = .int q m := hjr.1
    refine did_pure hI (v := .int .u8 (bt s m)) ?_ ⟨rfl, rfl⟩
    simp only [execOp, ho, hs, hm, Sem.run_bind, run_index_string w t s q m hd]
    rw [dif_pos ⟨h0, h1'⟩]
    simp only [Result.andThen_ok, Sem.run_pure]
    congr 3
    simp only [bt, List.getD]
    rw [List.getElem?_eq_getElem (by simpa using h1)]
    rfl
  · exact run_fail hx

theorem did_extract (hI : Inv Fr C.nt S e a w) {x : Operand} {i : Nat} (ho : o.op = .extract x i) (hx : (effA C e.t.get o.dst o.op).run e.h.get = some (r, F)) : Did P Fr C.nt o e a w r := by
  rw [ho] at hx
  simp only [effA] at hx
  obtain ⟨v, hv, hx⟩ := un_inv hx
  have hr := evalA_rep hI hv
  have get : ∀ {l : List (Bool × List Cell)} {vs : List Value} (i : Nat) {c : Bool × List Cell}, RepT w S l vs → l[i]? = some c → ∃ u, vs[i]? = some u ∧ RepB w S c u := by
    intro l
    induction l with
    | nil => intro vs i c _ hc; simp at hc
    | cons p l ih =>
      intro vs i c h hc
      cases vs with
      | nil => exact h.elim
      | cons v vs =>
        cases i with
        | zero => simp at hc; subst hc; exact ⟨v, rfl, h.1⟩
        | succ i => simp at hc; obtain ⟨u, h1, h2⟩ := ih i h.2 hc; exact ⟨u, by simpa using h1, h2⟩
  match v, hr, hx with
  | .tup l, ⟨vs, hev, hl⟩, hx =>
    simp only at hx
    cases hc : l[i]? with
    | none => rw [hc] at hx; exact run_fail hx
    | some c =>
      rw [hc] at hx
      obtain ⟨u, hu, hru⟩ := get i hl hc
      have key : (execOp a.eval o).run P w = .ok (.value u) w := by simp [execOp, ho, hev, Instr.extract, hu]
      match c, hru, hx with
      | (true, cs), hru, hx => obtain ⟨rfl, rfl⟩ := run_ret hx; exact did_pure hI key hru
      | (false, [c]), hru, hx => obtain ⟨rfl, rfl⟩ := run_ret hx; exact did_pure hI key hru
      | (false, []), hru, _ => exact hru.elim
      | (false, _ :: _ :: _), hru, _ => exact hru.elim
  | .c _, _, hx | .agg _, _, hx => exact run_fail hx

end
end Go.Eng
