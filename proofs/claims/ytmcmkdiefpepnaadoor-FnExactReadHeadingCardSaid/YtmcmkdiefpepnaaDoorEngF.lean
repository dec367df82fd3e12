/-
  The engine, sixth part: the operations, one by one (stores, addresses, slices, literals).
-/
import Derived.Test.YtmcmkdiefpepnaaDoorEngE
set_option linter.unusedVariables false
set_option linter.unusedSimpArgs false
namespace Go.Eng
section
variable {P : Program} {C : Ctx} {Fr : Fd} {S : St} {o : Oper} {e : Env} {a : Act} {w : World} {r : Res} {F : List Nat}

theorem did_bin (hC : C.Ok P) (hI : Inv Fr C.nt S e a w) {op : BinOp} {t u : TypeId} {x y : Operand} (ho : o.op = .binOp op t x y u)
    (hag : ∀ xs ys v, evalA e.t.get x = some (.agg xs) → evalA e.t.get y = some (.agg ys) → (effA C e.t.get o.dst o.op).run e.h.get = some v → False)
    (hx : (effA C e.t.get o.dst o.op).run e.h.get = some (r, F)) : Did P Fr C.nt o e a w r := by
  have hx0 := hx
  rw [ho] at hx
  simp only [effA] at hx
  obtain ⟨p, q, hp, hq, hx⟩ := bi_inv hx
  have hne : ∀ xs ys, ¬ (p = .agg xs ∧ q = .agg ys) := fun xs ys h => by
    obtain ⟨rfl, rfl⟩ := h
    exact hag xs ys _ hp hq hx0
  have hx' : ((binA C t op p q).bind ok).run e.h.get = some (r, F) := by
    cases p <;> cases q <;> first | exact hx | exact absurd ⟨rfl, rfl⟩ (hne _ _)
  obtain ⟨z, F1, F2, h1, h2, _⟩ := RM.run_bind hx'
  obtain ⟨rfl, rfl⟩ := run_ret h2
  obtain ⟨v, w', hv, hw', hr, hg⟩ := bin_ok (P := P) hC (evalA_rep hI hp) (evalA_rep hI hq) h1
  have hrun : (execOp a.eval o).run P w = .ok (.value v) w' := by simp [execOp, ho, hg, hv]
  rcases hw' with rfl | rfl
  · exact did_pure hI hrun hr
  · have hkp : RepA w.drew S z v := RepA.keep (S := S) (St.le.refl S) (show Keeps S.imm w w.drew from fun _ _ => rfl) hr
    exact did_value hrun (fun x hx => by cases hx; exact hkp) hI.drew

theorem did_un (hI : Inv Fr C.nt S e a w) {op : UnOp} {t : TypeId} {x : Operand} (ho : o.op = .unOp op t x) (hx : (effA C e.t.get o.dst o.op).run e.h.get = some (r, F)) : Did P Fr C.nt o e a w r := by
  rw [ho] at hx
  simp only [effA] at hx
  obtain ⟨v, hv, hx⟩ := un_inv hx
  obtain ⟨y, F1, F2, h1, h2, _⟩ := RM.run_bind hx
  obtain ⟨rfl, rfl⟩ := run_ret h2
  have hr := evalA_rep hI hv
  cases op with
  | not =>
    match v, hr, h1 with
    | .c (.bool b), hr, h1 =>
      obtain ⟨rfl, rfl⟩ := run_ret h1
      have : a.eval x = .bool b := hr.1
      exact did_pure hI (v := .bool (!b)) (by simp [execOp, ho, this, Op.unary]) ⟨rfl, rfl⟩
    | .c (.int ..), _, hx | .c (.str _), _, hx | .c (.flt _), _, hx | .c (.sl ..), _, hx | .c .nil, _, hx | .c (.ref _), _, hx | .c (.ptr ..), _, hx | .c (.eptr ..), _, hx | .c (.vptr ..), _, hx | .c (.gptr ..), _, hx
    | .c (.fn ..), _, hx | .c (.opq _), _, hx | .agg _, _, hx | .tup _, _, hx => exact run_fail hx
  | neg =>
    match v, hr, h1 with
    | .c (.int k n), hr, h1 =>
      obtain ⟨rfl, rfl⟩ := run_ret h1
      have : a.eval x = .int k n := hr.1
      exact did_pure hI (v := .int k (k.wrap (0 - n))) (by simp [execOp, ho, this, Op.unary, Op.intArith]) ⟨rfl, rfl⟩
    | .c (.flt n), hr, h1 =>
      obtain ⟨rfl, rfl⟩ := run_ret h1
      obtain ⟨⟨b, hb, rfl⟩, _⟩ := hr
      exact did_pure hI (v := .float .f64 (Op.negFloat .f64 b)) (by simp [execOp, ho, hb, Op.unary]) ⟨⟨_, rfl, (neg_canon b).symm⟩, rfl⟩
    | .c (.bool _), _, hx | .c (.str _), _, hx | .c (.sl ..), _, hx | .c .nil, _, hx | .c (.ref _), _, hx | .c (.ptr ..), _, hx | .c (.eptr ..), _, hx | .c (.vptr ..), _, hx | .c (.gptr ..), _, hx
    | .c (.fn ..), _, hx | .c (.opq _), _, hx | .agg _, _, hx | .tup _, _, hx => exact run_fail hx
  | _ => cases v <;> exact run_fail h1

/-! ### Stores -/
theorem emb_length : ∀ (k : Kind) (x : k.den), (emb k x).length = k.sz
  | .int _, _ | .bool, _ | .str, _ | .flt, _ | .sl _, _ => rfl
  | .pair a b, x => by simp [emb, Kind.sz, emb_length a, emb_length b]
theorem setAll_other : ∀ (ups : List (Nat × Obj)) (h : AL Obj) (n : Nat), (ups.any fun p => Nat.beq p.1 n) = false → (setAll ups h).get n = h.get n
  | [], _, _, _ => rfl
  | (m, ob) :: ups, h, n, hany => by
    simp only [List.any_cons, Bool.or_eq_false_iff] at hany
    rw [setAll, setAll_other ups _ n hany.2, AL.get_set]
    split
    · rename_i hm; subst hm; rw [Nat.beq_refl] at hany; cases hany.1
    · rfl
theorem run_storeVar {t : TypeId} {i : TI} (h : TiOk P t i) {v : Value} {us : List Value} (hu : v.cells.toList = us) (hn : us.length = i.size) {b p : Nat} {cur : Array Value} {tt : TypeId}
    (hg : w.heap[b]? = some (.cells cur tt (0, 0))) (hfit : p + us.length ≤ cur.size) (h1 : ∀ u ∈ us, u.oneCell' = true) :
    (Instr.storeAt t (.pointer (some ⟨b, p, none⟩)) v).run P w = .ok () (w.setRow b (cur.toList.take p ++ us ++ cur.toList.drop (p + us.length)).toArray) := by
  have hst := run_storeCells_at P b p tt us 0 cur w hg (by simpa using hfit) h1
  have hsz : v.cells.size = i.size := by rw [← hn, ← hu]; simp
  simp only [Nat.add_zero] at hst
  simp [Instr.storeAt, Instr.sureAddr, storeVar, run_size h, hsz, hu, hst]

theorem did_store (hC : C.Ok P) (hI : Inv Fr C.nt S e a w) {t : TypeId} {x y : Operand} (ho : o.op = .store t x y) (hx : (effA C e.t.get o.dst o.op).run e.h.get = some (r, F)) : Did P Fr C.nt o e a w r := by
  rw [ho] at hx
  simp only [effA] at hx
  obtain ⟨p, v, hp, hv, hx⟩ := bi_inv hx
  have hpr := evalA_rep hI hp
  have hvr := evalA_rep hI hv
  unfold storeA at hx
  cases hti : C.ty t with
  | none => rw [hti] at hx; exact run_fail hx
  | some i =>
    cases hc : v.cells with
    | none => rw [hti, hc] at hx; exact run_fail hx
    | some bc =>
      obtain ⟨b0, new⟩ := bc
      rw [hti, hc] at hx
      have hok := tiOk (hC.ty t i hti)
      obtain ⟨hnew, _⟩ := AVal.cells_rep hvr hc
      simp only at hx
      cases hlen : Nat.beq new.length i.size with
      | false => rw [hlen] at hx; exact run_fail hx
      | true =>
        rw [hlen] at hx
        have hlen' := beq_iff.1 hlen
        have hul : (a.eval y).cells.toList.length = i.size := by rw [← hnew.length]; exact hlen'
        match p, hpr, hx with
        | .c (.ptr n q), hpr, hx =>
          obtain ⟨b, hval, hpv⟩ := hpr.1
          obtain ⟨ob, F', hn, hx, _⟩ := RM.run_look hx
          cases ob with
          | box t' cs =>
            simp only at hx
            cases hle : Nat.ble (q + i.size) cs.length with
            | false => rw [hle] at hx; exact run_fail hx
            | true =>
              rw [hle] at hx
              obtain ⟨rfl, rfl⟩ := run_ret hx
              have hle' := Nat.le_of_ble_eq_true hle
              obtain ⟨b', vs, h1, h2, h3, h4⟩ := hI.objs n _ hn
              rw [hval] at h1; cases h1
              have hl3 := h3.length
              have hrun := run_storeVar (P := P) (w := w) hok rfl hul h2 (p := q) (by rw [hul]; simp; omega) hnew.ones
              have hrep : RepL w S (putC cs q new) (vs.take q ++ ((a.eval y).cells.toList ++ vs.drop (q + (a.eval y).cells.toList.length))) := h3.put hnew q
              have hk : Keeps S.imm w (w.setRow b (vs.take q ++ (a.eval y).cells.toList ++ vs.drop (q + (a.eval y).cells.toList.length)).toArray) := fun k hi => setRow_other w b k _ (fun hkb => by
                subst hkb; exact (hI.wr n _ _ k hn rfl hval rfl).1 hi)
              refine did_skip (S' := S) (by unfold execOp; rw [ho]; simp only [hpv, Sem.run_bind, hrun]; rfl) rfl ?_
              refine hI.rewrite hn rfl hval rfl (fun k hkb => setRow_other w b k _ hkb) (by simp) rfl rfl rfl ⟨b, _, hval, setRow_heap w b _ _ t' _ h2, ?_, ?_⟩
              · have := hrep.keep (St.le.refl S) hk; rwa [← List.append_assoc] at this
              · have := hrep.ones; rwa [← List.append_assoc] at this
          | _ => exact run_fail hx
        | .c (.eptr n sz j q), hpr, hx =>
          obtain ⟨b, len, cap, hval, hj0, hpv⟩ := hpr.1
          obtain ⟨⟨nw, ups⟩, F1, F2, hva, hx, _⟩ := RM.run_bind hx
          cases hany : ups.any (fun p => Nat.beq p.1 n) with
          | true => simp only [hany] at hx; exact run_fail hx
          | false =>
          simp only [hany, cond_false] at hx
          obtain ⟨ob, F', hn, hy, _⟩ := RM.run_look hx
          cases ob with
          | lst e' k xs =>
            simp only at hy
            cases hcz : (Nat.beq k.sz sz && Nat.ble (q + i.size) sz) with
            | false => rw [hcz] at hy; exact run_fail hy
            | true =>
              rw [hcz] at hy
              simp only [Bool.and_eq_true] at hcz
              have hsz := beq_iff.1 hcz.1
              subst hsz
              have hle := Nat.le_of_ble_eq_true hcz.2
              have hz := hy
              simp only [cond_true] at hz
              have hnwl : nw.length = i.size := by
                obtain ⟨S1, _, _, _, hnw⟩ := valL_rep (h0 := e.h) (h := e.h) hI (Fz.refl _) hnew hva
                rw [hnw.length, hul]
              have hpj0 : ∃ y', proj1 k (putC (emb k (rd k xs j)) q nw) = some y' ∧ j.toNat < xs.length ∧ r = ⟨none, ups ++ [(n, .lst e' k (xs.set j.toNat y'))], []⟩ := by
                cases hwh : Nat.beq i.size k.sz with
                | true =>
                  simp only [hwh, cond_true] at hz
                  have hwh' := beq_iff.1 hwh
                  have hq0 : q = 0 := by omega
                  subst hq0
                  have hpe : putC (emb k (rd k xs j)) 0 nw = nw := by
                    have hl := emb_length k (rd k xs j)
                    simp only [putC, List.take_zero, List.nil_append, Nat.zero_add]
                    rw [List.drop_eq_nil_of_le (by omega), List.append_nil]
                  rw [hpe]
                  cases hpj : proj1 k nw with
                  | none => simp only [hpj] at hz; exact run_fail hz
                  | some y' =>
                    simp only [hpj, setW, RM.run] at hz
                    cases hd : decide (j < (xs.length : Int)) with
                    | false => rw [hd] at hz; cases hz
                    | true =>
                      rw [hd] at hz
                      simp only [cond_true, RM.run, Option.some.injEq, Prod.mk.injEq] at hz
                      have := of_decide_eq_true hd
                      exact ⟨y', rfl, by omega, hz.1.symm⟩
                | false =>
                  simp only [hwh, cond_false, setO, RM.run] at hz
                  cases hd : decide (j < (xs.length : Int)) with
                  | false => rw [hd] at hz; cases hz
                  | true =>
                    rw [hd] at hz
                    have := of_decide_eq_true hd
                    cases hpj : proj1 k (putC (emb k (rd k xs j)) q nw) with
                    | none => rw [hpj] at hz; cases hz
                    | some y' =>
                      rw [hpj] at hz
                      simp only [cond_true, RM.run, Option.some.injEq, Prod.mk.injEq] at hz
                      exact ⟨y', rfl, by omega, hz.1.symm⟩
              obtain ⟨y', hpj, hlt, rfl⟩ := hpj0
              · obtain ⟨S1, hle1, hI1, hfz, hnw⟩ := valL_rep (h0 := e.h) (h := e.h) hI (Fz.refl _) hnew hva
                have hn1 : (setAll ups e.h).get n = some (.lst e' k xs) := (setAll_other _ _ _ hany).trans hn
                obtain ⟨v', flat, h1, h2, h3, h4⟩ := hI1.objs n _ hn1
                have hval1 := hle1.val _ _ hval
                rw [hval1] at h1; cases h1
                have hrd : xs[j.toNat]? = some (rd k xs j) := by simp [rd, List.getD, List.getElem?_eq_getElem hlt]
                obtain ⟨es, e1, e2, e3, e4⟩ := (h3 _ _ hrd).cells
                have hnl := hnw.length
                have hnl0 := hnew.length
                have hput := (e3.put hnw q).proj1 hpj
                have hmul : (j.toNat + 1) * k.sz ≤ xs.length * k.sz := Nat.mul_le_mul_right _ hlt
                rw [Nat.add_mul, Nat.one_mul] at hmul
                rcases h2.2 with ⟨h, _⟩ | ⟨g, cap', cur, h, _, hg, hnc, hcm, hcs, htake⟩
                · cases h
                · cases h
                  have hcl : xs.length * k.sz ≤ cur.size := by rw [hcs]; exact Nat.mul_le_mul_right _ hnc
                  have hrun := run_storeVar (P := P) (w := w) hok rfl hul hg (p := j.toNat * k.sz + q) (by omega) hnew.ones
                  have hk : Keeps S1.imm w (w.setRow b (cur.toList.take (j.toNat * k.sz + q) ++ (a.eval y).cells.toList ++ cur.toList.drop (j.toNat * k.sz + q + (a.eval y).cells.toList.length)).toArray) := fun m hi => setRow_other w b m _ (fun hmb => by
                    subst hmb; exact (hI1.wr n _ _ m hn1 rfl hval1 rfl).1 hi)
                  refine did_skip (S' := S1) (by unfold execOp; rw [ho]; simp only [hpv, Sem.run_bind, hrun]; rfl) rfl ?_
                  rw [show ∀ h : AL Obj, setAll [] h = h from fun _ => rfl, setAll_append]
                  refine hI1.rewrite (o := .lst e' k xs) hn1 rfl hval1 rfl (fun m hmb => setRow_other w b m _ hmb) (by simp) rfl rfl rfl ⟨_, _, hval1, by rw [List.length_set]; exact ownsRow_setRow h2 hg (j.toNat * k.sz + q) (a.eval y).cells.toList (by omega), ?_, ?_⟩
                  · intro m x' hm
                    rw [List.getElem?_set] at hm
                    have hfl := h2.1
                    split at hm
                    · rename_i hjm
                      subst hjm
                      cases hm
                      refine hput.1.keep hk (fun _ h => h) (fun c hc => ?_)
                      rw [splice_get flat _ _ (by omega)]
                      have e5 := splice_get es ((a.eval y).cells.toList) q (by omega) c
                      rw [e5, hul]
                      have e6 := e2 c hc
                      by_cases hc1 : c < q
                      · rw [if_pos (by omega), if_pos hc1, ← e6]
                      · rw [if_neg (by omega), if_neg hc1]
                        by_cases hc2 : c < q + i.size
                        · rw [if_pos (by omega), if_pos hc2]; congr 1; omega
                        · rw [if_neg (by omega), if_neg hc2, ← e6]
                    · rename_i hjm
                      refine (h3 m x' hm).keep hk (fun _ h => h) (fun c hc => ?_)
                      rw [splice_get _ _ _ (by omega)]
                      by_cases hlt2 : m < j.toNat
                      · have : (m + 1) * k.sz ≤ j.toNat * k.sz := Nat.mul_le_mul_right _ hlt2
                        rw [Nat.add_mul, Nat.one_mul] at this
                        rw [if_pos (by omega)]
                      · have : (j.toNat + 1) * k.sz ≤ m * k.sz := Nat.mul_le_mul_right _ (by omega)
                        rw [Nat.add_mul, Nat.one_mul] at this
                        rw [if_neg (by omega), if_neg (by omega)]
                  · intro u hu
                    rw [List.mem_append, List.mem_append] at hu
                    rcases hu with hu | hu | hu
                    · exact h4 u (List.mem_of_mem_take hu)
                    · exact hnew.ones u hu
                    · exact h4 u (List.mem_of_mem_drop hu)
          | _ => exact run_fail hy
        | .c (.int ..), _, hx | .c (.bool _), _, hx | .c (.str _), _, hx | .c (.flt _), _, hx | .c (.sl ..), _, hx | .c .nil, _, hx | .c (.ref _), _, hx | .c (.vptr ..), _, hx | .c (.gptr ..), _, hx
        | .c (.fn ..), _, hx | .c (.opq _), _, hx | .agg _, _, hx | .tup _, _, hx => exact run_fail hx
end
end Go.Eng
