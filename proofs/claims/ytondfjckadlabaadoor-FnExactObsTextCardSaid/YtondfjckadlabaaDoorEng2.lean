/-
  Part of a proof by the engine: texts that a program of ours printed, or plain lemmas on them. No condition but what each theorem says.
-/
import Derived.Test.YtondfjckadlabaaDoorEng1
set_option linter.unusedVariables false
set_option linter.unusedSimpArgs false
namespace Go.Eng
section
variable {P : Program} {C : Ctx} {Fr : Fd} {S : St} {o : Oper} {e : Env} {a : Act} {w : World} {r : Res} {F : List Nat}

theorem run_fail {α : Type} {h : Nat → Option Obj} {x : α × List Nat} {p : Prop} (H : (RM.fail : RM α).run h = some x) : p := by simp [RM.run] at H
theorem run_ret {α : Type} {h : Nat → Option Obj} {x y : α} {F : List Nat} (H : (RM.ret x : RM α).run h = some (y, F)) : y = x ∧ F = [] := by
  simp only [RM.run, Option.some.injEq, Prod.mk.injEq] at H; exact ⟨H.1.symm, H.2.symm⟩
theorem has_none {h : AL Obj} {n : Nat} {ob : Obj} {ps : List (Nat × Obj)} (H : writesOk.newOk h ((n, ob) :: ps) = true) : h.get n = none := by
  simp only [writesOk.newOk, Bool.and_eq_true, Bool.not_eq_true'] at H
  exact (AL.has_iff h n).1 H.1

theorem UD.of_bool {d : TypeDesc} (h : UD.of d = .bool) : d = .bool := by cases d with | bool => rfl | float k => cases k <;> cases h | _ => cases h
theorem UD.of_str {d : TypeDesc} (h : UD.of d = .str) : d = .string := by cases d with | string => rfl | float k => cases k <;> cases h | _ => cases h
theorem UD.of_int {d : TypeDesc} {k : IntKind} (h : UD.of d = .int k) : d = .int k := by cases d with | int k' => cases h; rfl | float k => cases k <;> cases h | _ => cases h
theorem UD.of_flt {d : TypeDesc} (h : UD.of d = .flt) : d = .float .f64 := by
  cases d with
  | float k => cases k <;> first | rfl | cases h
  | _ => cases h
theorem UD.of_slice {d : TypeDesc} {t : TypeId} (h : UD.of d = .slice t) : d = .slice t := by cases d with | slice t' => cases h; rfl | float k => cases k <;> cases h | _ => cases h
theorem UD.of_array {d : TypeDesc} {n : Nat} {t : TypeId} (h : UD.of d = .array n t) : d = .array n t := by cases d with | array n' t' => cases h; rfl | float k => cases k <;> cases h | _ => cases h
theorem UD.of_struct {d : TypeDesc} (h : UD.of d = .struct) : ∃ fs, d = .struct fs := by cases d with | struct fs => exact ⟨fs, rfl⟩ | float k => cases k <;> cases h | _ => cases h
/-- The type that a row tells. -/
theorem under {t : TypeId} {i : TI} (hC : C.Ok P) (h : C.ty t = some i) : ∃ info d, P.info? t = some info ∧ P.underlying t = some d ∧ i.u = UD.of d ∧ i.size = info.size ∧ i.bytes = info.bytes := by
  obtain ⟨info, d, z, h1, h2, h3, h4, h5, h6, _⟩ := (tiOk (hC.ty t i h)).get
  exact ⟨info, d, h1, h2, h4, h5, h6⟩

/-- A value that is looked up. -/
theorem un_inv {tm : Nat → Option AVal} {x : Operand} {f : AVal → RM Res} {h : Nat → Option Obj} {y : Res × List Nat}
    (H : (match evalA tm x with | some v => f v | none => .fail).run h = some y) : ∃ v, evalA tm x = some v ∧ (f v).run h = some y := by
  cases hx : evalA tm x with
  | none => rw [hx] at H; exact run_fail H
  | some v => rw [hx] at H; exact ⟨v, rfl, H⟩
theorem bi_inv {tm : Nat → Option AVal} {x z : Operand} {f : AVal → AVal → RM Res} {h : Nat → Option Obj} {y : Res × List Nat}
    (H : (match evalA tm x, evalA tm z with | some v, some u => f v u | _, _ => .fail).run h = some y) : ∃ v u, evalA tm x = some v ∧ evalA tm z = some u ∧ (f v u).run h = some y := by
  cases hx : evalA tm x with
  | none => rw [hx] at H; exact run_fail H
  | some v =>
    cases hz : evalA tm z with
    | none => rw [hx, hz] at H; exact run_fail H
    | some u => rw [hx, hz] at H; exact ⟨v, u, rfl, rfl, H⟩

theorem run_zero {t : TypeId} {i : TI} (h : TiOk P t i) : ∃ z : Value, (zeroValue t).run P w = .ok z w ∧ i.zero = z.cells.toList.map ofValue ∧ (∀ v ∈ z.cells.toList, v.oneCell' = true) ∧ z.cells.size = i.size := by
  obtain ⟨info, d, z, h1, h2, h3, h4, h5, h6, h7, h8, h9, h10, _⟩ := h.get
  exact ⟨z, by simp [zeroValue, typeInfo, h1, h3], h8, h9, by omega⟩

/-- A new variable. -/
theorem did_newVar (hI : Inv Fr C.nt S e a w) {t : TypeId} {cs : List Cell} {vs : Array Value} {n : Nat} (hn : e.h.get n = none) (hr : RepL w S cs vs.toList)
    (hx : (execOp a.eval o).run P w = .ok (.value (.pointer (some ⟨w.heap.size, 0, none⟩))) (w.alloc (.cells vs t))) :
    Did P Fr C.nt o e a w ⟨some (.c (.ptr n 0)), [], [(n, .box t cs)]⟩ := by
  have hle : S.le (S.bind n (.pointer (some ⟨w.heap.size, 0, none⟩))) := St.le_bind (.inl (hI.news n hn))
  have hv : (S.bind n (.pointer (some ⟨w.heap.size, 0, none⟩))).val n = some (.pointer (some ⟨w.heap.size, 0, none⟩)) := by simp [St.bind]
  have hk : Keeps S.imm w (w.alloc (.cells vs t)) := fun b hb => heap_alloc_old w _ b (hI.imm b hb).1
  refine did_value hx (fun x hx => ?_) (S' := S.bind n (.pointer (some ⟨w.heap.size, 0, none⟩))) ?_
  · cases hx; exact ⟨⟨_, hv, rfl⟩, rfl⟩
  · exact hI.new hn rfl ⟨_, vs.toList, hv, by rw [heap_alloc_new], hr.keep hle hk, hr.ones⟩

theorem did_alloc (hC : C.Ok P) (hI : Inv Fr C.nt S e a w) {t : TypeId} (ho : o.op = .alloc t) (hx : (effA C e.t.get o.dst o.op).run e.h.get = some (r, F)) (hw : writesOk e.h F.reverse r = true) : Did P Fr C.nt o e a w r := by
  rw [ho] at hx
  simp only [effA] at hx
  cases hti : C.ty t with
  | none => rw [hti] at hx; exact run_fail hx
  | some i =>
    rw [hti] at hx
    obtain ⟨rfl, rfl⟩ := run_ret hx
    simp only [writesOk, List.all_nil, Bool.true_and] at hw
    obtain ⟨z, h1, h2, h3, h4⟩ := run_zero (P := P) (w := w) (tiOk (hC.ty t i hti))
    exact did_newVar hI (has_none hw) (by rw [h2]; exact ofValues_rep _ h3) (by simp [execOp, ho, Instr.alloc, h1, newVar, newRow])

theorem ownNil_ok {d : Nat} {a : Act} {w : World} {t : AL AVal} : ∀ {fs : List (TypeId × Nat × Nat)} {j : Nat} {cs : List Cell} {vs : List Value} {S : St} {h : AL Obj} {qs : List (Nat × Obj)}, Inv Fr C.nt S ⟨t, h⟩ a w → RepL w S cs vs →
    writesOk.newOk h ((ownNil C d j fs cs).2 ++ qs) = true → ∃ S', Inv Fr C.nt S' ⟨t, setAll (ownNil C d j fs cs).2 h⟩ a w ∧ RepL w S' (ownNil C d j fs cs).1 vs ∧ writesOk.newOk (setAll (ownNil C d j fs cs).2 h) qs = true
  | [], j, cs, vs, S, h, qs, hI, hr, hn => ⟨S, hI, hr, hn⟩
  | (ft, o, z) :: fs, j, cs, vs, S, h, qs, hI, hr, hn => by
    unfold ownNil at hn ⊢
    split at hn
    · rename_i e _ _ _ _ _ _ _ hti
      split at hn
      · rename_i k _ _ hte hc
        simp only at hn ⊢
        have h0 := has_none (ps := (ownNil C d (j + 1) fs (putC cs o [.ref (nm d j)])).2 ++ qs) hn
        obtain ⟨v, hv, hrv⟩ : ∃ v, vs[o]? = some v ∧ RepC w S .nil v := by
          have h1 := hr.slice o 1
          have h2 : sliceC cs o 1 = [.nil] := by
            unfold sliceC
            obtain ⟨hlt, he⟩ := List.getElem?_eq_some_iff.1 hc
            rw [List.drop_eq_getElem_cons hlt, he]
            rfl
          rw [h2] at h1
          cases hd : (vs.drop o).take 1 with
          | nil => rw [hd] at h1; exact h1.elim
          | cons v r =>
            rw [hd] at h1
            refine ⟨v, ?_, h1.1⟩
            have h3 : ((vs.drop o).take 1)[0]? = some v := by rw [hd]; rfl
            rw [List.getElem?_take_of_lt (by omega), List.getElem?_drop] at h3
            simpa using h3
        have hvn : v = .slice none 0 0 := hrv
        have hle : S.le (S.bind (nm d j) (.slice none 0 0)) := St.le_bind (.inl (hI.news _ h0))
        have hval : (S.bind (nm d j) (.slice none 0 0)).val (nm d j) = some (.slice none 0 0) := by simp [St.bind]
        have I1 := hI.set (n := nm d j) (o := .lst e k []) (v := .slice none 0 0) (.inl (hI.news _ h0)) ⟨.slice none 0 0, [], hval, World.ownsRow_nil w 0 e k.sz, (fun i x hi => by simp at hi), (fun u hu => by cases hu)⟩ (fun b _ hb => by cases hb)
        have R1 : RepL w (S.bind (nm d j) (.slice none 0 0)) (putC cs o [.ref (nm d j)]) vs := by
          have h1 := (hr.keep hle (fun _ _ => rfl)).put (us := [.slice none 0 0]) (new := [.ref (nm d j)]) ⟨⟨hval, rfl⟩, trivial⟩ o
          have h2 : vs.take o ++ ([Value.slice none 0 0] ++ vs.drop (o + [Value.slice none 0 0].length)) = vs := by
            obtain ⟨hlt, he⟩ := List.getElem?_eq_some_iff.1 hv
            have h3 : vs.drop o = Value.slice none 0 0 :: vs.drop (o + 1) := by rw [List.drop_eq_getElem_cons hlt, he, hvn]
            show vs.take o ++ (Value.slice none 0 0 :: vs.drop (o + 1)) = vs
            rw [← h3, List.take_append_drop]
          rw [h2] at h1
          exact h1
        have hn1 : writesOk.newOk (h.set (nm d j) (.lst e k [])) ((ownNil C d (j + 1) fs (putC cs o [.ref (nm d j)])).2 ++ qs) = true := by
          simp only [List.cons_append, writesOk.newOk, Bool.and_eq_true] at hn
          exact hn.2
        obtain ⟨S', a1, a2, a3⟩ := ownNil_ok I1 R1 hn1
        exact ⟨S', a1, a2, a3⟩
      · rename_i hno
        have hn' : writesOk.newOk h ((ownNil C d (j + 1) fs cs).2 ++ qs) = true := hn
        obtain ⟨S', a1, a2, a3⟩ := ownNil_ok hI hr hn'
        exact ⟨S', a1, a2, a3⟩
    · rename_i hno
      have hn' : writesOk.newOk h ((ownNil C d (j + 1) fs cs).2 ++ qs) = true := hn
      obtain ⟨S', a1, a2, a3⟩ := ownNil_ok hI hr hn'
      exact ⟨S', a1, a2, a3⟩
theorem did_box (hI : Inv Fr C.nt S e a w) {t : TypeId} {x : Operand} (ho : o.op = .box t x) (hx : (effA C e.t.get o.dst o.op).run e.h.get = some (r, F)) (hw : writesOk e.h F.reverse r = true) : Did P Fr C.nt o e a w r := by
  rw [ho] at hx
  simp only [effA] at hx
  obtain ⟨v, hv, hx⟩ := un_inv hx
  cases hc : v.cells with
  | none => rw [hc] at hx; exact run_fail hx
  | some p =>
    obtain ⟨b, cs⟩ := p
    rw [hc] at hx
    have hr := (AVal.cells_rep (evalA_rep hI hv) hc).1
    simp only at hx
    cases hk : mem (o.dst.getD 0) C.kp with
    | false =>
      rw [hk] at hx
      obtain ⟨rfl, rfl⟩ := run_ret hx
      simp only [writesOk, List.all_nil, Bool.true_and] at hw
      exact did_newVar hI (has_none hw) hr (by simp [execOp, ho, Instr.box, newVar, newRow])
    | true =>
      rw [hk] at hx
      simp only [cond_true] at hx
      cases hti : C.ty t with
      | none => rw [hti] at hx; exact run_fail hx
      | some i =>
        rw [hti] at hx
        obtain ⟨rfl, rfl⟩ := run_ret hx
        simp only [writesOk, List.all_nil, Bool.true_and] at hw
        obtain ⟨S', I1, R1, n1⟩ := ownNil_ok (qs := [(nm (o.dst.getD 0) 0, .box t (ownNil C (o.dst.getD 0) 1 i.fields cs).1)]) hI hr hw
        have D := did_newVar (P := P) (e := ⟨e.t, setAll (ownNil C (o.dst.getD 0) 1 i.fields cs).2 e.h⟩) (o := o) (t := t) (n := nm (o.dst.getD 0) 0) I1 (has_none n1) R1 (by simp [execOp, ho, Instr.box, newVar, newRow])
        intro K Q hK
        refine D K Q fun u w' S2 h1 h2 => hK u w' S2 h1 ?_
        show Inv Fr C.nt S2 ⟨e.t, setAll (_ ++ _) (setAll [] e.h)⟩ a w'
        rw [setAll_append]
        exact h2

theorem did_move (hI : Inv Fr C.nt S e a w) {x : Operand} (ho : o.op = .move x ∨ o.op = .assign x) (hx : (effA C e.t.get o.dst o.op).run e.h.get = some (r, F)) : Did P Fr C.nt o e a w r := by
  rcases ho with ho | ho <;>
  · rw [ho] at hx
    simp only [effA] at hx
    obtain ⟨v, hv, hx⟩ := un_inv hx
    obtain ⟨rfl, rfl⟩ := run_ret hx
    exact did_pure hI (by simp [execOp, ho]) (evalA_rep hI hv)

theorem did_pick (hI : Inv Fr C.nt S e a w) {c x y : Operand} (ho : o.op = .pick c x y) (hx : (effA C e.t.get o.dst o.op).run e.h.get = some (r, F)) : Did P Fr C.nt o e a w r := by
  rw [ho] at hx
  simp only [effA] at hx
  cases hc : evalA e.t.get c with
  | none => rw [hc] at hx; exact run_fail hx
  | some v =>
    rw [hc] at hx
    have hr := evalA_rep hI hc
    match v, hr, hx with
    | .c (.bool t), hr, hx =>
      have hcv : a.eval c = .bool t := hr.1
      simp only [RM.run] at hx
      cases t with
      | true =>
        simp only [cond_true] at hx
        obtain ⟨v, hv, hx⟩ := un_inv hx
        obtain ⟨rfl, rfl⟩ := run_ret hx
        exact did_pure hI (by simp [execOp, ho, hcv, asBool]) (evalA_rep hI hv)
      | false =>
        simp only [cond_false] at hx
        obtain ⟨v, hv, hx⟩ := un_inv hx
        obtain ⟨rfl, rfl⟩ := run_ret hx
        exact did_pure hI (by simp [execOp, ho, hcv, asBool]) (evalA_rep hI hv)
    | .c (.int ..), _, hx | .c (.str _), _, hx | .c (.flt _), _, hx | .c (.sl ..), _, hx | .c .nil, _, hx | .c (.ref _), _, hx | .c (.ptr ..), _, hx | .c (.eptr ..), _, hx | .c (.vptr ..), _, hx | .c (.gptr ..), _, hx
    | .c (.fn ..), _, hx | .c (.opq _), _, hx | .agg _, _, hx | .tup _, _, hx => exact run_fail hx

theorem did_load (hC : C.Ok P) (hgl : Fr.gl = C.gl) (hI : Inv Fr C.nt S e a w) {t : TypeId} {x : Operand} (ho : o.op = .load t x) (hx : (effA C e.t.get o.dst o.op).run e.h.get = some (r, F)) : Did P Fr C.nt o e a w r := by
  rw [ho] at hx
  simp only [effA] at hx
  obtain ⟨v, hv, hx⟩ := un_inv hx
  obtain ⟨y, F1, F2, h1, h2, _⟩ := RM.run_bind hx
  obtain ⟨rfl, rfl⟩ := run_ret h2
  obtain ⟨u, hu, hr⟩ := load_ok hC hgl hI (evalA_rep hI hv) h1
  exact did_pure hI (by simp [execOp, ho, hu]) hr

theorem did_nilCheck (hI : Inv Fr C.nt S e a w) {x : Operand} (ho : o.op = .nilCheck x) (hx : (effA C e.t.get o.dst o.op).run e.h.get = some (r, F)) : Did P Fr C.nt o e a w r := by
  rw [ho] at hx
  simp only [effA] at hx
  obtain ⟨v, hv, hx⟩ := un_inv hx
  have hr := evalA_rep hI hv
  have key : ∀ (p : Addr), a.eval x = .pointer (some p) → (execOp a.eval o).run P w = .ok (.value (a.eval x)) w := fun p hp => by simp [execOp, ho, hp]
  match v, hr, hx with
  | .c (.ptr n q), hr, hx =>
    obtain ⟨rfl, rfl⟩ := run_ret hx
    obtain ⟨b, h1, h2⟩ := hr.1
    exact did_pure hI (key _ h2) hr
  | .c (.eptr n z i q), hr, hx =>
    obtain ⟨rfl, rfl⟩ := run_ret hx
    obtain ⟨b, len, cap, h1, h2, h3⟩ := hr.1
    exact did_pure hI (key _ h3) hr
  | .c (.vptr k xs i q), hr, hx =>
    obtain ⟨rfl, rfl⟩ := run_ret hx
    obtain ⟨b, p, h1, _⟩ := hr.1
    exact did_pure hI (key _ h1) hr
  | .c (.gptr g q), hr, hx =>
    obtain ⟨rfl, rfl⟩ := run_ret hx
    exact did_pure hI (key _ hr.1) hr
  | .c (.int ..), _, hx | .c (.bool _), _, hx | .c (.str _), _, hx | .c (.flt _), _, hx | .c (.sl ..), _, hx | .c .nil, _, hx | .c (.ref _), _, hx
  | .c (.fn ..), _, hx | .c (.opq _), _, hx | .agg _, _, hx | .tup _, _, hx => exact run_fail hx

theorem sameI_eq {k k' : IntKind} (h : sameI k k' = true) : k = k' := by cases k <;> cases k' <;> first | rfl | cases h

theorem oneCell_int {k : IntKind} {n : Int} : (Value.int k n).oneCell' = true := rfl

/-! ### Floats by their bits -/
theorem canon_cases (b : Nat) : ((∃ s f, Ieee.double.read b = .nan s f) ∧ canonF b = 0x7ff8000000000000) ∨ ((FloatKind.f64.decode b).isNaN = false ∧ canonF b = b) := by
  cases h : (FloatKind.f64.decode b).isNaN with
  | true =>
    refine .inl ⟨?_, by simp [canonF, h]⟩
    have h' : (Ieee.double.read b).isNaN = true := h
    cases hd : Ieee.double.read b with
    | nan s f => exact ⟨s, f, rfl⟩
    | number s m i => rw [hd] at h'; cases h'
    | infinity s => rw [hd] at h'; cases h'
  | false => exact .inr ⟨rfl, by simp [canonF, h]⟩
theorem read_qnan : ∃ s f, Ieee.double.read 0x7ff8000000000000 = .nan s f := ⟨false, 0x8000000000000, by decide⟩
theorem canon_read (b : Nat) : Ieee.double.read (canonF b) = Ieee.double.read b ∨ (∃ s f, Ieee.double.read b = .nan s f) ∧ ∃ s f, Ieee.double.read (canonF b) = .nan s f := by
  rcases canon_cases b with ⟨h1, h2⟩ | ⟨_, h2⟩
  · exact .inr ⟨h1, by rw [h2]; exact read_qnan⟩
  · exact .inl (by rw [h2])
theorem sum_nan_l {s : Bool} {f : Nat} {y : Ieee.Datum} : Ieee.Datum.sum (.nan s f) y = none := by cases y <;> rfl
theorem sum_nan_r {s : Bool} {f : Nat} {x : Ieee.Datum} : Ieee.Datum.sum x (.nan s f) = none := by cases x <;> rfl
theorem product_nan_l {s : Bool} {f : Nat} {y : Ieee.Datum} : Ieee.Datum.product (.nan s f) y = none := by cases y <;> rfl
theorem product_nan_r {s : Bool} {f : Nat} {x : Ieee.Datum} : Ieee.Datum.product x (.nan s f) = none := by cases x <;> rfl
theorem quotient_nan_l {n : Nat} {s : Bool} {f : Nat} {y : Ieee.Datum} : Ieee.Datum.quotient n (.nan s f) y = none := by cases y <;> rfl
theorem quotient_nan_r {n : Nat} {s : Bool} {f : Nat} {x : Ieee.Datum} : Ieee.Datum.quotient n x (.nan s f) = none := by cases x <;> rfl
theorem order_nan_l {s : Bool} {f : Nat} {y : Ieee.Datum} : Ieee.Datum.order (.nan s f) y = none := by cases y <;> rfl
theorem order_nan_r {s : Bool} {f : Nat} {x : Ieee.Datum} : Ieee.Datum.order x (.nan s f) = none := by cases x <;> rfl
theorem canon2 {α : Type} (f : Ieee.Datum → Ieee.Datum → Option α) (hl : ∀ s t y, f (.nan s t) y = none) (hr : ∀ s t x, f x (.nan s t) = none) (a b : Nat) :
    f (Ieee.double.read (canonF a)) (Ieee.double.read (canonF b)) = f (Ieee.double.read a) (Ieee.double.read b) := by
  rcases canon_read a with h1 | ⟨⟨s1, f1, h1⟩, s2, f2, h2⟩
  · rcases canon_read b with h3 | ⟨⟨s3, f3, h3⟩, s4, f4, h4⟩
    · rw [h1, h3]
    · rw [h3, h4, hr, hr]
  · rw [h1, h2, hl, hl]
theorem add_canon (a b : Nat) : Ieee.double.add (canonF a) (canonF b) = Ieee.double.add a b := by
  unfold Ieee.Format.add; rw [canon2 Ieee.Datum.sum (fun _ _ _ => sum_nan_l) (fun _ _ _ => sum_nan_r)]
theorem sub_canon (a b : Nat) : Ieee.double.sub (canonF a) (canonF b) = Ieee.double.sub a b := by
  unfold Ieee.Format.sub; rw [canon2 (fun x y => Ieee.Datum.sum x y.opposite) (fun _ _ _ => sum_nan_l) (fun _ _ _ => sum_nan_r)]
theorem mul_canon (a b : Nat) : Ieee.double.mul (canonF a) (canonF b) = Ieee.double.mul a b := by
  unfold Ieee.Format.mul; rw [canon2 Ieee.Datum.product (fun _ _ _ => product_nan_l) (fun _ _ _ => product_nan_r)]
theorem div_canon (a b : Nat) : Ieee.double.div (canonF a) (canonF b) = Ieee.double.div a b := by
  unfold Ieee.Format.div; rw [canon2 (fun x y => Ieee.Datum.quotient (Ieee.double.fractionBits + 2) x y) (fun _ _ _ => quotient_nan_l) (fun _ _ _ => quotient_nan_r)]
theorem order_canon (a b : Nat) : Ieee.double.order (canonF a) (canonF b) = Ieee.double.order a b := by
  unfold Ieee.Format.order; rw [canon2 Ieee.Datum.order (fun _ _ _ => order_nan_l) (fun _ _ _ => order_nan_r)]
theorem decode_nan_lit (s : Bool) (r : Nat) (h1 : Ieee.double.infRung < r) (h2 : r < Ieee.double.signWeight) : (FloatKind.f64.decode ((if s then Ieee.double.signWeight else 0) + r)).isNaN = true := by
  have hr : ((if s then Ieee.double.signWeight else 0) + r) % Ieee.double.signWeight = r := by
    cases s with
    | true => simp only [if_true, Nat.add_mod_left]; exact Nat.mod_eq_of_lt h2
    | false => simp only [Bool.false_eq_true, if_false, Nat.zero_add]; exact Nat.mod_eq_of_lt h2
  have hb : Ieee.double.binade ≤ Ieee.double.infRung := by decide
  unfold FloatKind.decode FloatKind.format Ieee.Format.read
  simp only [hr]
  rw [if_neg (by omega), if_neg (by omega), if_neg (by omega)]
  rfl
/-- What is drawn for a result that is no number, is none. -/
theorem drawn_nan (x y t : Nat) : canonF ((Question.nanBits .f64 x y).cut t) = 0x7ff8000000000000 := by
  have h : (FloatKind.f64.decode ((Question.nanBits .f64 x y).cut t)).isNaN = true := by
    have e : (Question.nanBits .f64 x y).cut t = (if decide (t % 2 = 1) then Ieee.double.signWeight else 0) + (0x7ff0000000000000 + 1 + (t / 2) % (2 ^ 52 - 1)) := by
      have hw : Ieee.double.signWeight = 2 ^ 63 := by decide
      rw [hw]
      simp only [Question.cut]
      rcases Nat.mod_two_eq_zero_or_one t with h | h <;> simp [h] <;> omega
    rw [e]
    have hm : (t / 2) % (2 ^ 52 - 1) < 2 ^ 52 - 1 := Nat.mod_lt _ (by decide)
    have hi : Ieee.double.infRung = 0x7ff0000000000000 := by decide
    have hw : Ieee.double.signWeight = 2 ^ 63 := by decide
    exact decode_nan_lit _ _ (by omega) (by omega)
  simp [canonF, h]
theorem neg_canon (a : Nat) : canonF (Op.negFloat .f64 (canonF a)) = canonF (Op.negFloat .f64 a) := by
  rcases canon_cases a with ⟨⟨s, f, h1⟩, h2⟩ | ⟨_, h2⟩
  · have hx : ∀ b, (∃ s f, Ieee.double.read b = .nan s f) → canonF (Op.negFloat .f64 b) = 0x7ff8000000000000 := fun b ⟨s, f, hb⟩ => by
      have hmod : (Op.negFloat .f64 b) % Ieee.double.signWeight = b % Ieee.double.signWeight := by
        show (b ^^^ 2 ^ 63) % 2 ^ 63 = b % 2 ^ 63
        rw [Nat.xor_mod_two_pow, Nat.mod_self, Nat.xor_zero]
      have hn : (FloatKind.f64.decode (Op.negFloat .f64 b)).isNaN = true := by
        show (Ieee.double.read (Op.negFloat .f64 b)).isNaN = true
        unfold Ieee.Format.read at hb ⊢
        simp only [hmod]
        simp only at hb
        split at hb
        · cases hb
        · split at hb
          · cases hb
          · split at hb
            · cases hb
            · rename_i c1 c2 c3
              rw [if_neg c1, if_neg c2, if_neg c3]; rfl
      simp [canonF, hn]
    rw [hx _ ⟨s, f, h1⟩, h2]
    exact hx _ read_qnan
  · rw [h2]
theorem toInt_canon (a : Nat) (k : IntKind) : floatToIntVal .f64 (canonF a) k = floatToIntVal .f64 a k := by
  unfold floatToIntVal
  have h : ∀ b, FloatKind.f64.decode b = Ieee.double.read b := fun _ => rfl
  rw [h, h]
  rcases canon_read a with h1 | ⟨⟨s1, f1, h1⟩, s2, f2, h2⟩
  · rw [h1]
  · rw [h1, h2]; rfl
theorem canonF_idem (a : Nat) : canonF (canonF a) = canonF a := by
  rcases canon_cases a with ⟨_, h2⟩ | ⟨_, h2⟩
  · rw [h2]; rcases canon_cases 0x7ff8000000000000 with ⟨_, h⟩ | ⟨_, h⟩ <;> exact h
  · rw [h2, h2]
theorem flt_arith {P : Program} {w : World} {S : St} {op : BinOp} {t : TypeId} {a b : Nat} {o : Option Nat} (ho : op = .add ∧ o = Ieee.double.add a b ∨ op = .sub ∧ o = Ieee.double.sub a b ∨ op = .mul ∧ o = Ieee.double.mul a b ∨ op = .quo ∧ o = Ieee.double.div a b) :
    ∃ q w', (binOp op t (.float .f64 a) (.float .f64 b)).run P w = .ok q w' ∧ (w' = w ∨ w' = w.drew) ∧ RepA w S (.c (.flt (fcan o))) q := by
  cases o with
  | some r =>
    refine ⟨.float .f64 r, w, run_float_arith w op t .f64 a b r ?_, .inl rfl, ⟨r, rfl, rfl⟩, rfl⟩
    rcases ho with ⟨rfl, h⟩ | ⟨rfl, h⟩ | ⟨rfl, h⟩ | ⟨rfl, h⟩ <;> exact h.symm
  | none =>
    refine ⟨.float .f64 ((Question.nanBits .f64 a b).cut (w.tape w.drawn (.nanBits .f64 a b))), w.drew, ?_, .inr rfl, ⟨_, rfl, drawn_nan _ _ _⟩, rfl⟩
    have hf : FloatKind.f64.format = Ieee.double := rfl
    rcases ho with ⟨rfl, h⟩ | ⟨rfl, h⟩ | ⟨rfl, h⟩ | ⟨rfl, h⟩ <;> simp [binOp, Op.floatArith, hf, ← h, Question.forced]

theorem bin_ok (hC : C.Ok P) {t : TypeId} {op : BinOp} {x y z : AVal} {u v : Value} {h : Nat → Option Obj} (hx : RepA w S x u) (hy : RepA w S y v) (hz : (binA C t op x y).run h = some (z, F)) :
    ∃ q w', (binOp op t u v).run P w = .ok q w' ∧ (w' = w ∨ w' = w.drew) ∧ RepA w S z q ∧ ∀ (m n : Operand), (eqGuard op t m n u v).run P w = .ok () w := by
  have guard : ∀ (u v : Value), (∀ xs ys, ¬ (u = .agg xs ∧ v = .agg ys)) → ¬ (u = .nilIface ∧ v = .nilIface) → ∀ (m n : Operand), (eqGuard op t m n u v).run P w = .ok () w := fun u v h1 h2 m n => by
    unfold eqGuard
    cases op <;> (cases u <;> cases v <;> first | rfl | exact absurd ⟨rfl, rfl⟩ h2 | exact absurd ⟨rfl, rfl⟩ (h1 _ _))
  match x, y, hx, hy, hz with
  | .c (.int k m), .c (.int k' n), hx, hy, hz =>
    have hu : u = .int k m := hx.1
    have hv : v = .int k' n := hy.1
    subst hu hv
    suffices ∃ q, (binOp op t (.int k m) (.int k' n)).run P w = .ok q w ∧ RepA w S z q from
      let ⟨q, h1, h2⟩ := this; ⟨q, w, h1, .inl rfl, h2, guard _ _ (fun _ _ h => by cases h.1) (fun h => by cases h.1)⟩
    have same : ∀ {op}, op ≠ .shl → op ≠ .shr → (binA C t op (.c (.int k m)) (.c (.int k' n))).run h = some (z, F) → k = k' := fun {op} h1 h2 hz => by
      cases hk : sameI k k' with
      | true => exact sameI_eq hk
      | false => cases op <;> first | exact absurd rfl h1 | exact absurd rfl h2 | (simp [binA, hk, RM.run] at hz)
    cases op with
    | shl =>
      simp only [binA] at hz
      obtain ⟨hd, hz⟩ := RM.run_asks hz
      obtain ⟨rfl, rfl⟩ := run_ret hz
      have hd' := of_decide_eq_true hd
      exact ⟨_, by simp [binOp, Op.shift, show ¬ n < 0 by omega], rfl, rfl⟩
    | shr =>
      simp only [binA] at hz
      obtain ⟨hd, hz⟩ := RM.run_asks hz
      obtain ⟨rfl, rfl⟩ := run_ret hz
      have hd' := of_decide_eq_true hd
      exact ⟨_, by simp [binOp, Op.shift, show ¬ n < 0 by omega], rfl, rfl⟩
    | quo =>
      have hk := same (by simp) (by simp) hz
      subst hk
      have hs : sameI k k = true := by cases k <;> rfl
      simp only [binA, hs, cond_true] at hz
      obtain ⟨hd, hz⟩ := RM.run_asks hz
      obtain ⟨rfl, rfl⟩ := run_ret hz
      have hd' : ¬ n = 0 := by simpa using hd
      exact ⟨_, by simp [binOp, Op.intDiv, hd'], rfl, rfl⟩
    | rem =>
      have hk := same (by simp) (by simp) hz
      subst hk
      have hs : sameI k k = true := by cases k <;> rfl
      simp only [binA, hs, cond_true] at hz
      obtain ⟨hd, hz⟩ := RM.run_asks hz
      obtain ⟨rfl, rfl⟩ := run_ret hz
      have hd' : ¬ n = 0 := by simpa using hd
      exact ⟨_, by simp [binOp, Op.intDiv, hd'], rfl, rfl⟩
    | _ =>
      have hk := same (by simp) (by simp) hz
      subst hk
      have hs : sameI k k = true := by cases k <;> rfl
      simp only [binA, hs, cond_true] at hz
      obtain ⟨rfl, rfl⟩ := run_ret hz
      exact ⟨_, by simp [binOp, Op.intArith, Op.intBits, Op.intCmp], rfl, rfl⟩
  | .c (.str m), .c (.str n), hx, hy, hz =>
    have hu : u = .string m := hx.1
    have hv : v = .string n := hy.1
    subst hu hv
    suffices ∃ q, (binOp op t (.string m) (.string n)).run P w = .ok q w ∧ RepA w S z q from
      let ⟨q, h1, h2⟩ := this; ⟨q, w, h1, .inl rfl, h2, guard _ _ (fun _ _ h => by cases h.1) (fun h => by cases h.1)⟩
    cases op <;> simp only [binA] at hz <;> try exact run_fail hz
    case add =>
      obtain ⟨hd, hz⟩ := RM.run_asks hz
      obtain ⟨rfl, rfl⟩ := run_ret hz
      have hd' := of_decide_eq_true hd
      refine ⟨.string (m ++ n), ?_, rfl, rfl⟩
      have : ¬ (((m.size + n.size : Nat) : Int) > IntKind.i64.max) := by simp only [IntKind.max, IntKind.signed, IntKind.bits]; simp; omega
      simp only [binOp, Op.stringOp, if_neg this]; rfl
    all_goals
      obtain ⟨rfl, rfl⟩ := run_ret hz
      exact ⟨_, by simp [binOp, Op.stringOp], rfl, rfl⟩
  | .c (.flt m), .c (.flt n), hx, hy, hz =>
    obtain ⟨⟨m', rfl, rfl⟩, _⟩ := hx
    obtain ⟨⟨n', rfl, rfl⟩, _⟩ := hy
    suffices ∃ q w', (binOp op t (.float .f64 m') (.float .f64 n')).run P w = .ok q w' ∧ (w' = w ∨ w' = w.drew) ∧ RepA w S z q from
      let ⟨q, w', h1, h0, h2⟩ := this; ⟨q, w', h1, h0, h2, guard _ _ (fun _ _ h => by cases h.1) (fun h => by cases h.1)⟩
    cases op <;> simp only [binA] at hz <;> try exact run_fail hz
    case add => obtain ⟨rfl, rfl⟩ := run_ret hz; simp only [fadd, add_canon]; exact flt_arith (.inl ⟨rfl, rfl⟩)
    case sub => obtain ⟨rfl, rfl⟩ := run_ret hz; simp only [fsub, sub_canon]; exact flt_arith (.inr (.inl ⟨rfl, rfl⟩))
    case mul => obtain ⟨rfl, rfl⟩ := run_ret hz; simp only [fmul, mul_canon]; exact flt_arith (.inr (.inr (.inl ⟨rfl, rfl⟩)))
    case quo => obtain ⟨rfl, rfl⟩ := run_ret hz; simp only [fdiv, div_canon]; exact flt_arith (.inr (.inr (.inr ⟨rfl, rfl⟩)))
    all_goals
      obtain ⟨rfl, rfl⟩ := run_ret hz
      have hf : FloatKind.f64.format = Ieee.double := rfl
      refine ⟨_, w, by simp [binOp, Op.floatCmp, hf]; rfl, .inl rfl, ?_, rfl⟩
      simp only [feq, flt, fgt, order_canon]
      rfl
  | .c (.bool m), .c (.bool n), hx, hy, hz =>
    have hu : u = .bool m := hx.1
    have hv : v = .bool n := hy.1
    subst hu hv
    suffices ∃ q, (binOp op t (.bool m) (.bool n)).run P w = .ok q w ∧ RepA w S z q from
      let ⟨q, h1, h2⟩ := this; ⟨q, w, h1, .inl rfl, h2, guard _ _ (fun _ _ h => by cases h.1) (fun h => by cases h.1)⟩
    simp only [binA] at hz
    cases hti : C.ty t with
    | none => rw [hti] at hz; exact run_fail hz
    | some i =>
      rw [hti] at hz
      obtain ⟨info, d, z', h1, h2, h3, h4, _⟩ := (tiOk (hC.ty t i hti)).get
      obtain ⟨iu, is, ib, iz, ia, ik, ifs⟩ := i
      cases iu <;> try exact run_fail hz
      have hd : P.underlying t = some .bool := by rw [h2, UD.of_bool h4.symm]
      cases op <;> try exact run_fail hz
      · obtain ⟨rfl, rfl⟩ := run_ret hz; exact ⟨_, run_eql_bool w t m n hd, rfl, rfl⟩
      · obtain ⟨rfl, rfl⟩ := run_ret hz; exact ⟨_, run_neq_bool w t m n hd, rfl, rfl⟩
  | .c (.int ..), .c (.bool _), _, _, hz | .c (.int ..), .c (.str _), _, _, hz | .c (.int ..), .c (.flt _), _, _, hz | .c (.int ..), .c (.sl ..), _, _, hz | .c (.int ..), .c .nil, _, _, hz | .c (.int ..), .c (.ref _), _, _, hz | .c (.int ..), .c (.ptr ..), _, _, hz
  | .c (.int ..), .c (.eptr ..), _, _, hz | .c (.int ..), .c (.vptr ..), _, _, hz | .c (.int ..), .c (.gptr ..), _, _, hz | .c (.int ..), .c (.fn ..), _, _, hz | .c (.int ..), .c (.opq _), _, _, hz | .c (.int ..), .agg _, _, _, hz | .c (.int ..), .tup _, _, _, hz
  | .c (.str _), .c (.bool _), _, _, hz | .c (.str _), .c (.int ..), _, _, hz | .c (.str _), .c (.flt _), _, _, hz | .c (.str _), .c (.sl ..), _, _, hz | .c (.str _), .c .nil, _, _, hz | .c (.str _), .c (.ref _), _, _, hz | .c (.str _), .c (.ptr ..), _, _, hz
  | .c (.str _), .c (.eptr ..), _, _, hz | .c (.str _), .c (.vptr ..), _, _, hz | .c (.str _), .c (.gptr ..), _, _, hz | .c (.str _), .c (.fn ..), _, _, hz | .c (.str _), .c (.opq _), _, _, hz | .c (.str _), .agg _, _, _, hz | .c (.str _), .tup _, _, _, hz
  | .c (.bool _), .c (.str _), _, _, hz | .c (.bool _), .c (.int ..), _, _, hz | .c (.bool _), .c (.flt _), _, _, hz | .c (.bool _), .c (.sl ..), _, _, hz | .c (.bool _), .c .nil, _, _, hz | .c (.bool _), .c (.ref _), _, _, hz | .c (.bool _), .c (.ptr ..), _, _, hz
  | .c (.bool _), .c (.eptr ..), _, _, hz | .c (.bool _), .c (.vptr ..), _, _, hz | .c (.bool _), .c (.gptr ..), _, _, hz | .c (.bool _), .c (.fn ..), _, _, hz | .c (.bool _), .c (.opq _), _, _, hz | .c (.bool _), .agg _, _, _, hz | .c (.bool _), .tup _, _, _, hz
  | .c (.flt _), .c (.bool _), _, _, hz | .c (.flt _), .c (.int ..), _, _, hz | .c (.flt _), .c (.str _), _, _, hz | .c (.flt _), .c (.sl ..), _, _, hz | .c (.flt _), .c .nil, _, _, hz | .c (.flt _), .c (.ref _), _, _, hz | .c (.flt _), .c (.ptr ..), _, _, hz
  | .c (.flt _), .c (.eptr ..), _, _, hz | .c (.flt _), .c (.vptr ..), _, _, hz | .c (.flt _), .c (.gptr ..), _, _, hz | .c (.flt _), .c (.fn ..), _, _, hz | .c (.flt _), .c (.opq _), _, _, hz | .c (.flt _), .agg _, _, _, hz | .c (.flt _), .tup _, _, _, hz
  | .c (.sl ..), _, _, _, hz | .c .nil, _, _, _, hz | .c (.ref _), _, _, _, hz | .c (.ptr ..), _, _, _, hz | .c (.eptr ..), _, _, _, hz | .c (.vptr ..), _, _, _, hz | .c (.gptr ..), _, _, _, hz | .c (.fn ..), _, _, _, hz
  | .c (.opq _), _, _, _, hz | .agg _, _, _, _, hz | .tup _, _, _, _, hz => exact run_fail hz
theorem UD.of_iface {d : TypeDesc} (h : UD.of d = .iface) : ∃ ms, d = .interface ms := by cases d with | interface ms => exact ⟨ms, rfl⟩ | float k => cases k <;> cases h | _ => cases h
theorem nilPair_eq {y : Operand} {a b : AVal} {s : Bool} (h : nilPair y a b = some s) : (∃ q, y = .const q) ∧ (s = true ∧ a = .c (.opq .nilIface) ∨ s = false ∧ a = .c (.opq errV)) ∧ b = .c (.opq .nilIface) := by
  unfold nilPair at h
  split at h
  · cases h; exact ⟨⟨_, rfl⟩, .inl ⟨rfl, rfl⟩, rfl⟩
  · cases h; exact ⟨⟨_, rfl⟩, .inr ⟨rfl, rfl⟩, rfl⟩
  · cases h
theorem opq_nil {u : Value} (h : RepA w S (.c (.opq .nilIface)) u) : u = .nilIface := by
  rcases h.1.1 with h | ⟨h, _⟩
  · exact h
  · cases h
theorem opq_err {u : Value} (h : RepA w S (.c (.opq errV)) u) : ∃ t a, u = .iface t (.pointer a) := by
  rcases h.1.1 with h | ⟨_, h⟩
  · exact ⟨_, _, h⟩
  · exact h
theorem run_equalIn_err (w : World) (d : Nat) (t tx : TypeId) (v : Value) {ms} (h : P.underlying t = some (.interface ms)) : (Op.equalIn (d + 1) t (.iface tx v) .nilIface).run P w = .ok false w := by
  simp [Op.equalIn, run_underlying h]
theorem run_equal_err (w : World) (t tx : TypeId) (v : Value) {ms} (h : P.underlying t = some (.interface ms)) : (Op.equal t (.iface tx v) .nilIface).run P w = .ok false w := run_equalIn_err w 9999 t tx v h
theorem run_eql_err (w : World) (t tx : TypeId) (v : Value) {ms} (h : P.underlying t = some (.interface ms)) : (binOp .eql t (.iface tx v) .nilIface).run P w = .ok (.bool false) w := by
  simp only [binOp]
  simp [run_equal_err w t tx v h]
theorem run_neq_err (w : World) (t tx : TypeId) (v : Value) {ms} (h : P.underlying t = some (.interface ms)) : (binOp .neq t (.iface tx v) .nilIface).run P w = .ok (.bool true) w := by
  simp only [binOp]
  simp [run_equal_err w t tx v h]
theorem run_equalIn_nil (w : World) (d : Nat) (t : TypeId) {ms} (h : P.underlying t = some (.interface ms)) : (Op.equalIn (d + 1) t .nilIface .nilIface).run P w = .ok true w := by
  simp [Op.equalIn, run_underlying h]
theorem run_equal_nil (w : World) (t : TypeId) {ms} (h : P.underlying t = some (.interface ms)) : (Op.equal t .nilIface .nilIface).run P w = .ok true w := run_equalIn_nil w 9999 t h
theorem run_eql_nil (w : World) (t : TypeId) {ms} (h : P.underlying t = some (.interface ms)) : (binOp .eql t .nilIface .nilIface).run P w = .ok (.bool true) w := by
  simp only [binOp]
  simp [run_equal_nil w t h]
theorem run_neq_nil (w : World) (t : TypeId) {ms} (h : P.underlying t = some (.interface ms)) : (binOp .neq t .nilIface .nilIface).run P w = .ok (.bool false) w := by
  simp only [binOp]
  simp [run_equal_nil w t h]
theorem binN_ok (hC : C.Ok P) {t : TypeId} {op : BinOp} {m n : Operand} {x y z : AVal} {u v : Value} {h : Nat → Option Obj} (hx : RepA w S x u) (hy : RepA w S y v) (hz : (binN C t op n x y).run h = some (z, F)) :
    ∃ q w', (binOp op t u v).run P w = .ok q w' ∧ (w' = w ∨ w' = w.drew) ∧ RepA w S z q ∧ (eqGuard op t m n u v).run P w = .ok () w := by
  unfold binN at hz
  cases hn : nilPair n x y with
  | none =>
    rw [hn] at hz
    obtain ⟨q, w', h1, h2, h3, h4⟩ := bin_ok hC hx hy hz
    exact ⟨q, w', h1, h2, h3, h4 m n⟩
  | some s =>
    rw [hn] at hz
    obtain ⟨⟨c, rfl⟩, hs, rfl⟩ := nilPair_eq hn
    obtain rfl := opq_nil hy
    simp only [nilEq] at hz
    cases hti : C.ty t with
    | none => rw [hti] at hz; exact run_fail hz
    | some i =>
      rw [hti] at hz
      obtain ⟨info, d, z', h1, h2, h3, h4, _⟩ := (tiOk (hC.ty t i hti)).get
      obtain ⟨iu, is, ib, iz, ia, ik, ifs⟩ := i
      cases iu <;> try exact run_fail hz
      obtain ⟨ms, hms⟩ := UD.of_iface h4.symm
      have hd : P.underlying t = some (.interface ms) := by rw [h2, hms]
      rcases hs with ⟨rfl, rfl⟩ | ⟨rfl, rfl⟩
      · obtain rfl := opq_nil hx
        cases op <;> try exact run_fail hz
        · obtain ⟨rfl, rfl⟩ := run_ret hz; exact ⟨_, _, run_eql_nil w t hd, .inl rfl, ⟨rfl, rfl⟩, by simp [eqGuard]⟩
        · obtain ⟨rfl, rfl⟩ := run_ret hz; exact ⟨_, _, run_neq_nil w t hd, .inl rfl, ⟨rfl, rfl⟩, by simp [eqGuard]⟩
      · obtain ⟨tx, a, rfl⟩ := opq_err hx
        cases op <;> try exact run_fail hz
        · obtain ⟨rfl, rfl⟩ := run_ret hz; exact ⟨_, _, run_eql_err w t tx _ hd, .inl rfl, ⟨rfl, rfl⟩, by simp [eqGuard]⟩
        · obtain ⟨rfl, rfl⟩ := run_ret hz; exact ⟨_, _, run_neq_err w t tx _ hd, .inl rfl, ⟨rfl, rfl⟩, by simp [eqGuard]⟩
end
end Go.Eng

namespace Go.Eng
section
variable {P : Program} {C : Ctx} {Fr : Fd} {S : St} {o : Oper} {e : Env} {a : Act} {w : World} {r : Res} {F : List Nat}

theorem did_bin (hC : C.Ok P) (hI : Inv Fr C.nt S e a w) {op : BinOp} {t u : TypeId} {x y : Operand} (ho : o.op = .binOp op t x y u)
    (hag : ∀ xs ys v, evalA e.t.get x = some (.agg xs) → evalA e.t.get y = some (.agg ys) → (effA C e.t.get o.dst o.op).run e.h.get = some v → False)
    (hx : (effA C e.t.get o.dst o.op).run e.h.get = some (r, F)) : Did P Fr C.nt o e a w r := by
  have hx0 := hx
  rw [ho] at hx
  simp only [effA] at hx
  obtain ⟨p, q, hp, hq, hx⟩ := bi_inv hx
  have hne : ∀ xs ys, ¬ (p = .agg xs ∧ q = .agg ys) := fun xs ys h => by
    obtain ⟨rfl, rfl⟩ := h
    exact hag xs ys _ hp hq hx0
  have hx' : ((binN C t op y p q).bind ok).run e.h.get = some (r, F) := by
    cases p <;> cases q <;> first | exact hx | exact absurd ⟨rfl, rfl⟩ (hne _ _)
  obtain ⟨z, F1, F2, h1, h2, _⟩ := RM.run_bind hx'
  obtain ⟨rfl, rfl⟩ := run_ret h2
  obtain ⟨v, w', hv, hw', hr, hg⟩   := binN_ok (P := P) (m := x) hC (evalA_rep hI hp) (evalA_rep hI hq) h1
  have hrun : (execOp a.eval o).run P w = .ok (.value v) w' := by simp [execOp, ho, hg, hv]
  rcases hw' with rfl | rfl
  · exact did_pure hI hrun hr
  · have hkp : RepA w.drew S z v := RepA.keep (S := S) (St.le.refl S) (show Keeps S.imm w w.drew from fun _ _ => rfl) hr
    exact did_value hrun (fun x hx => by cases hx; exact hkp) hI.drew

theorem did_un (hI : Inv Fr C.nt S e a w) {op : UnOp} {t : TypeId} {x : Operand} (ho : o.op = .unOp op t x) (hx : (effA C e.t.get o.dst o.op).run e.h.get = some (r, F)) : Did P Fr C.nt o e a w r := by
  rw [ho] at hx
  simp only [effA] at hx
  obtain ⟨v, hv, hx⟩ := un_inv hx
  obtain ⟨y, F1, F2, h1, h2, _⟩ := RM.run_bind hx
  obtain ⟨rfl, rfl⟩ := run_ret h2
  have hr := evalA_rep hI hv
  cases op with
  | not =>
    match v, hr, h1 with
    | .c (.bool b), hr, h1 =>
      obtain ⟨rfl, rfl⟩ := run_ret h1
      have : a.eval x = .bool b := hr.1
      exact did_pure hI (v := .bool (!b)) (by simp [execOp, ho, this, Op.unary]) ⟨rfl, rfl⟩
    | .c (.int ..), _, hx | .c (.str _), _, hx | .c (.flt _), _, hx | .c (.sl ..), _, hx | .c .nil, _, hx | .c (.ref _), _, hx | .c (.ptr ..), _, hx | .c (.eptr ..), _, hx | .c (.vptr ..), _, hx | .c (.gptr ..), _, hx
    | .c (.fn ..), _, hx | .c (.opq _), _, hx | .agg _, _, hx | .tup _, _, hx => exact run_fail hx
  | neg =>
    match v, hr, h1 with
    | .c (.int k n), hr, h1 =>
      obtain ⟨rfl, rfl⟩ := run_ret h1
      have : a.eval x = .int k n := hr.1
      exact did_pure hI (v := .int k (k.wrap (0 - n))) (by simp [execOp, ho, this, Op.unary, Op.intArith]) ⟨rfl, rfl⟩
    | .c (.flt n), hr, h1 =>
      obtain ⟨rfl, rfl⟩ := run_ret h1
      obtain ⟨⟨b, hb, rfl⟩, _⟩ := hr
      exact did_pure hI (v := .float .f64 (Op.negFloat .f64 b)) (by simp [execOp, ho, hb, Op.unary]) ⟨⟨_, rfl, (neg_canon b).symm⟩, rfl⟩
    | .c (.bool _), _, hx | .c (.str _), _, hx | .c (.sl ..), _, hx | .c .nil, _, hx | .c (.ref _), _, hx | .c (.ptr ..), _, hx | .c (.eptr ..), _, hx | .c (.vptr ..), _, hx | .c (.gptr ..), _, hx
    | .c (.fn ..), _, hx | .c (.opq _), _, hx | .agg _, _, hx | .tup _, _, hx => exact run_fail hx
  | _ => cases v <;> exact run_fail h1

/-! ### Stores -/
theorem emb_length : ∀ (k : Kind) (x : k.den), (emb k x).length = k.sz
  | .int _, _ | .bool, _ | .str, _ | .flt, _ | .sl _, _ => rfl
  | .pair a b, x => by simp [emb, Kind.sz, emb_length a, emb_length b]
theorem setAll_other : ∀ (ups : List (Nat × Obj)) (h : AL Obj) (n : Nat), (ups.any fun p => Nat.beq p.1 n) = false → (setAll ups h).get n = h.get n
  | [], _, _, _ => rfl
  | (m, ob) :: ups, h, n, hany => by
    simp only [List.any_cons, Bool.or_eq_false_iff] at hany
    rw [setAll, setAll_other ups _ n hany.2, AL.get_set]
    split
    · rename_i hm; subst hm; rw [Nat.beq_refl] at hany; cases hany.1
    · rfl
theorem run_storeVar {t : TypeId} {i : TI} (h : TiOk P t i) {v : Value} {us : List Value} (hu : v.cells.toList = us) (hn : us.length = i.size) {b p : Nat} {cur : Array Value} {tt : TypeId}
    (hg : w.heap[b]? = some (.cells cur tt (0, 0))) (hfit : p + us.length ≤ cur.size) (h1 : ∀ u ∈ us, u.oneCell' = true) :
    (Instr.storeAt t (.pointer (some ⟨b, p, none⟩)) v).run P w = .ok () (w.setRow b (cur.toList.take p ++ us ++ cur.toList.drop (p + us.length)).toArray) := by
  have hst := run_storeCells_at P b p tt us 0 cur w hg (by simpa using hfit) h1
  have hsz : v.cells.size = i.size := by rw [← hn, ← hu]; simp
  simp only [Nat.add_zero] at hst
  simp [Instr.storeAt, Instr.sureAddr, storeVar, run_size h, hsz, hu, hst]

theorem did_store (hC : C.Ok P) (hI : Inv Fr C.nt S e a w) {t : TypeId} {x y : Operand} (ho : o.op = .store t x y) (hx : (effA C e.t.get o.dst o.op).run e.h.get = some (r, F)) : Did P Fr C.nt o e a w r := by
  rw [ho] at hx
  simp only [effA] at hx
  obtain ⟨p, v, hp, hv, hx⟩ := bi_inv hx
  have hpr := evalA_rep hI hp
  have hvr := evalA_rep hI hv
  unfold storeA at hx
  cases hti : C.ty t with
  | none => rw [hti] at hx; exact run_fail hx
  | some i =>
    cases hc : v.cells with
    | none => rw [hti, hc] at hx; exact run_fail hx
    | some bc =>
      obtain ⟨b0, new⟩ := bc
      rw [hti, hc] at hx
      have hok := tiOk (hC.ty t i hti)
      obtain ⟨hnew, _⟩ := AVal.cells_rep hvr hc
      simp only at hx
      cases hlen : Nat.beq new.length i.size with
      | false => rw [hlen] at hx; exact run_fail hx
      | true =>
        rw [hlen] at hx
        have hlen' := beq_iff.1 hlen
        have hul : (a.eval y).cells.toList.length = i.size := by rw [← hnew.length]; exact hlen'
        match p, hpr, hx with
        | .c (.ptr n q), hpr, hx =>
          obtain ⟨b, hval, hpv⟩ := hpr.1
          obtain ⟨ob, F', hn, hx, _⟩ := RM.run_look hx
          cases ob with
          | box t' cs =>
            simp only at hx
            cases hle : Nat.ble (q + i.size) cs.length with
            | false => rw [hle] at hx; exact run_fail hx
            | true =>
              rw [hle] at hx
              obtain ⟨rfl, rfl⟩ := run_ret hx
              have hle' := Nat.le_of_ble_eq_true hle
              obtain ⟨b', vs, h1, h2, h3, h4⟩ := hI.objs n _ hn
              rw [hval] at h1; cases h1
              have hl3 := h3.length
              have hrun := run_storeVar (P := P) (w := w) hok rfl hul h2 (p := q) (by rw [hul]; simp; omega) hnew.ones
              have hrep : RepL w S (putC cs q new) (vs.take q ++ ((a.eval y).cells.toList ++ vs.drop (q + (a.eval y).cells.toList.length))) := h3.put hnew q
              have hk : Keeps S.imm w (w.setRow b (vs.take q ++ (a.eval y).cells.toList ++ vs.drop (q + (a.eval y).cells.toList.length)).toArray) := fun k hi => setRow_other w b k _ (fun hkb => by
                subst hkb; exact (hI.wr n _ _ k hn rfl hval rfl).1 hi)
              refine did_skip (S' := S) (by unfold execOp; rw [ho]; simp only [hpv, Sem.run_bind, hrun]; rfl) rfl ?_
              refine hI.rewrite hn rfl hval rfl (fun k hkb => setRow_other w b k _ hkb) (by simp) rfl rfl rfl ⟨b, _, hval, setRow_heap w b _ _ t' _ h2, ?_, ?_⟩
              · have := hrep.keep (St.le.refl S) hk; rwa [← List.append_assoc] at this
              · have := hrep.ones; rwa [← List.append_assoc] at this
          | _ => exact run_fail hx
        | .c (.eptr n sz j q), hpr, hx =>
          obtain ⟨b, len, cap, hval, hj0, hpv⟩ := hpr.1
          obtain ⟨⟨nw, ups⟩, F1, F2, hva, hx, _⟩ := RM.run_bind hx
          cases hany : ups.any (fun p => Nat.beq p.1 n) with
          | true => simp only [hany] at hx; exact run_fail hx
          | false =>
          simp only [hany, cond_false] at hx
          obtain ⟨ob, F', hn, hy, _⟩ := RM.run_look hx
          cases ob with
          | lst e' k xs =>
            simp only at hy
            cases hcz : (Nat.beq k.sz sz && Nat.ble (q + i.size) sz) with
            | false => rw [hcz] at hy; exact run_fail hy
            | true =>
              rw [hcz] at hy
              simp only [Bool.and_eq_true] at hcz
              have hsz := beq_iff.1 hcz.1
              subst hsz
              have hle := Nat.le_of_ble_eq_true hcz.2
              have hz := hy
              simp only [cond_true] at hz
              have hnwl : nw.length = i.size := by
                obtain ⟨S1, _, _, _, hnw⟩ := valL_rep (h0 := e.h) (h := e.h) hI (Fz.refl _) hnew hva
                rw [hnw.length, hul]
              have hpj0 : ∃ y', proj1 k (putC (emb k (rd k xs j)) q nw) = some y' ∧ j.toNat < xs.length ∧ r = ⟨none, ups ++ [(n, .lst e' k (xs.set j.toNat y'))], []⟩ := by
                cases hwh : Nat.beq i.size k.sz with
                | true =>
                  simp only [hwh, cond_true] at hz
                  have hwh' := beq_iff.1 hwh
                  have hq0 : q = 0 := by omega
                  subst hq0
                  have hpe : putC (emb k (rd k xs j)) 0 nw = nw := by
                    have hl := emb_length k (rd k xs j)
                    simp only [putC, List.take_zero, List.nil_append, Nat.zero_add]
                    rw [List.drop_eq_nil_of_le (by omega), List.append_nil]
                  rw [hpe]
                  cases hpj : proj1 k nw with
                  | none => simp only [hpj] at hz; exact run_fail hz
                  | some y' =>
                    simp only [hpj, setW, RM.run] at hz
                    cases hd : decide (j < (xs.length : Int)) with
                    | false => rw [hd] at hz; cases hz
                    | true =>
                      rw [hd] at hz
                      simp only [cond_true, RM.run, Option.some.injEq, Prod.mk.injEq] at hz
                      have := of_decide_eq_true hd
                      exact ⟨y', rfl, by omega, hz.1.symm⟩
                | false =>
                  simp only [hwh, cond_false, setO, RM.run] at hz
                  cases hd : decide (j < (xs.length : Int)) with
                  | false => rw [hd] at hz; cases hz
                  | true =>
                    rw [hd] at hz
                    have := of_decide_eq_true hd
                    cases hpj : proj1 k (putC (emb k (rd k xs j)) q nw) with
                    | none => rw [hpj] at hz; cases hz
                    | some y' =>
                      rw [hpj] at hz
                      simp only [cond_true, RM.run, Option.some.injEq, Prod.mk.injEq] at hz
                      exact ⟨y', rfl, by omega, hz.1.symm⟩
              obtain ⟨y', hpj, hlt, rfl⟩ := hpj0
              · obtain ⟨S1, hle1, hI1, hfz, hnw⟩ := valL_rep (h0 := e.h) (h := e.h) hI (Fz.refl _) hnew hva
                have hn1 : (setAll ups e.h).get n = some (.lst e' k xs) := (setAll_other _ _ _ hany).trans hn
                obtain ⟨v', flat, h1, h2, h3, h4⟩ := hI1.objs n _ hn1
                have hval1 := hle1.val _ _ hval
                rw [hval1] at h1; cases h1
                have hrd : xs[j.toNat]? = some (rd k xs j) := by simp [rd, List.getD, List.getElem?_eq_getElem hlt]
                obtain ⟨es, e1, e2, e3, e4⟩ := (h3 _ _ hrd).cells
                have hnl := hnw.length
                have hnl0 := hnew.length
                have hput := (e3.put hnw q).proj1 hpj
                have hmul : (j.toNat + 1) * k.sz ≤ xs.length * k.sz := Nat.mul_le_mul_right _ hlt
                rw [Nat.add_mul, Nat.one_mul] at hmul
                rcases h2.2 with ⟨h, _⟩ | ⟨g, cap', cur, h, _, hg, hnc, hcm, hcs, htake⟩
                · cases h
                · cases h
                  have hcl : xs.length * k.sz ≤ cur.size := by rw [hcs]; exact Nat.mul_le_mul_right _ hnc
                  have hrun := run_storeVar (P := P) (w := w) hok rfl hul hg (p := j.toNat * k.sz + q) (by omega) hnew.ones
                  have hk : Keeps S1.imm w (w.setRow b (cur.toList.take (j.toNat * k.sz + q) ++ (a.eval y).cells.toList ++ cur.toList.drop (j.toNat * k.sz + q + (a.eval y).cells.toList.length)).toArray) := fun m hi => setRow_other w b m _ (fun hmb => by
                    subst hmb; exact (hI1.wr n _ _ m hn1 rfl hval1 rfl).1 hi)
                  refine did_skip (S' := S1) (by unfold execOp; rw [ho]; simp only [hpv, Sem.run_bind, hrun]; rfl) rfl ?_
                  rw [show ∀ h : AL Obj, setAll [] h = h from fun _ => rfl, setAll_append]
                  refine hI1.rewrite (o := .lst e' k xs) hn1 rfl hval1 rfl (fun m hmb => setRow_other w b m _ hmb) (by simp) rfl rfl rfl ⟨_, _, hval1, by rw [List.length_set]; exact ownsRow_setRow h2 hg (j.toNat * k.sz + q) (a.eval y).cells.toList (by omega), ?_, ?_⟩
                  · intro m x' hm
                    rw [List.getElem?_set] at hm
                    have hfl := h2.1
                    split at hm
                    · rename_i hjm
                      subst hjm
                      cases hm
                      refine hput.1.keep hk (fun _ h => h) (fun c hc => ?_)
                      rw [splice_get flat _ _ (by omega)]
                      have e5 := splice_get es ((a.eval y).cells.toList) q (by omega) c
                      rw [e5, hul]
                      have e6 := e2 c hc
                      by_cases hc1 : c < q
                      · rw [if_pos (by omega), if_pos hc1, ← e6]
                      · rw [if_neg (by omega), if_neg hc1]
                        by_cases hc2 : c < q + i.size
                        · rw [if_pos (by omega), if_pos hc2]; congr 1; omega
                        · rw [if_neg (by omega), if_neg hc2, ← e6]
                    · rename_i hjm
                      refine (h3 m x' hm).keep hk (fun _ h => h) (fun c hc => ?_)
                      rw [splice_get _ _ _ (by omega)]
                      by_cases hlt2 : m < j.toNat
                      · have : (m + 1) * k.sz ≤ j.toNat * k.sz := Nat.mul_le_mul_right _ hlt2
                        rw [Nat.add_mul, Nat.one_mul] at this
                        rw [if_pos (by omega)]
                      · have : (j.toNat + 1) * k.sz ≤ m * k.sz := Nat.mul_le_mul_right _ (by omega)
                        rw [Nat.add_mul, Nat.one_mul] at this
                        rw [if_neg (by omega), if_neg (by omega)]
                  · intro u hu
                    rw [List.mem_append, List.mem_append] at hu
                    rcases hu with hu | hu | hu
                    · exact h4 u (List.mem_of_mem_take hu)
                    · exact hnew.ones u hu
                    · exact h4 u (List.mem_of_mem_drop hu)
          | _ => exact run_fail hy
        | .c (.int ..), _, hx | .c (.bool _), _, hx | .c (.str _), _, hx | .c (.flt _), _, hx | .c (.sl ..), _, hx | .c .nil, _, hx | .c (.ref _), _, hx | .c (.vptr ..), _, hx | .c (.gptr ..), _, hx
        | .c (.fn ..), _, hx | .c (.opq _), _, hx | .agg _, _, hx | .tup _, _, hx => exact run_fail hx
end
end Go.Eng

namespace Go.Eng
section
variable {P : Program} {C : Ctx} {Fr : Fd} {S : St} {o : Oper} {e : Env} {a : Act} {w : World} {r : Res} {F : List Nat}

/-- A field of a struct type, as the table tells it. -/
theorem field_at (hC : C.Ok P) {t : TypeId} {i : TI} (hti : C.ty t = some i) {f : Nat} {ft : TypeId} {p sz : Nat} (hf : i.fields[f]? = some (ft, p, sz)) {fs : Array Go.Field} (hd : P.underlying t = some (.struct fs)) :
    ∃ g : Go.Field, fs[f]? = some g ∧ g.type = ft ∧ g.offset = p ∧ P.cellsOf ft = sz := by
  obtain ⟨info, d, z, h1, h2, h3, h4, h5, h6, h7, h8, h9, h10, h11, _⟩ := (tiOk (hC.ty t i hti)).get
  rw [hd] at h2; cases h2
  rw [h11] at hf
  simp only [List.getElem?_map, Array.getElem?_toList] at hf
  cases hg : fs[f]? with
  | none => simp [hg] at hf
  | some g => simp only [hg, Option.map_some, Option.some.injEq, Prod.mk.injEq] at hf; exact ⟨g, rfl, hf.1, hf.2.1, hf.1 ▸ hf.2.2⟩
theorem cellsOf_run {ft : TypeId} {sz : Nat} (h : P.cellsOf ft = sz) (h0 : 0 < sz) : (sizeOf ft).run P w = .ok sz w := by
  unfold Program.cellsOf at h
  cases hi : P.info? ft with
  | none => simp [hi] at h; omega
  | some i => simp [hi] at h; simp [sizeOf, typeInfo, hi, h]

theorem did_fieldAddr (hC : C.Ok P) (hI : Inv Fr C.nt S e a w) {t : TypeId} {x : Operand} {f : Nat} (ho : o.op = .fieldAddr t x f) (hx : (effA C e.t.get o.dst o.op).run e.h.get = some (r, F)) : Did P Fr C.nt o e a w r := by
  rw [ho] at hx
  simp only [effA] at hx
  obtain ⟨v, hv, hx⟩ := un_inv hx
  have hr := evalA_rep hI hv
  unfold fieldAddrA at hx
  cases hti : C.ty t with
  | none => rw [hti] at hx; exact run_fail hx
  | some i =>
    obtain ⟨iu, is, ib, iz, ia, ik, ifs⟩ := i
    rw [hti] at hx
    cases iu with
    | struct =>
      simp only at hx
      cases hf : ifs[f]? with
      | none => rw [hf] at hx; exact run_fail hx
      | some q =>
        obtain ⟨ft, p, sz⟩ := q
        rw [hf] at hx
        simp only at hx
        cases hsz : Nat.blt 0 sz with
        | false => rw [hsz] at hx; exact run_fail hx
        | true =>
          rw [hsz] at hx
          have hpos : 0 < sz := Nat.le_of_ble_eq_true hsz
          obtain ⟨_, d, _, h2, hu, _⟩ := under hC hti
          obtain ⟨fs, hfs⟩ := UD.of_struct hu.symm
          subst hfs
          obtain ⟨g, hg, hgt, hgo, hgs⟩ := field_at hC hti hf h2
          have key : ∀ b q, a.eval x = .pointer (some ⟨b, q, none⟩) → (execOp a.eval o).run P w = .ok (.value (.pointer (some ⟨b, q + p, none⟩))) w := fun b q hq => by
            have hs : (sizeOf g.type).run P w = .ok sz w := by rw [hgt]; exact cellsOf_run hgs hpos
            have hadd : (⟨b, q, none⟩ : Addr).add g.offset = ⟨b, q + p, none⟩ := by rw [hgo, Addr.add_mid]
            simp [execOp, ho, hq, Instr.fieldAt, run_underlying h2, hg, Instr.sureAddr, fieldPlace, hs, hadd, show ¬ sz = 0 by omega]
          match v, hr, hx with
          | .c (.ptr n q), hr, hx =>
            obtain ⟨rfl, rfl⟩ := run_ret hx
            obtain ⟨b, hb, hq⟩ := hr.1
            exact did_pure hI (key b q hq) ⟨⟨b, hb, rfl⟩, rfl⟩
          | .c (.eptr n zz j q), hr, hx =>
            obtain ⟨rfl, rfl⟩ := run_ret hx
            obtain ⟨b, len, cap, hb, hj, hq⟩ := hr.1
            exact did_pure hI (key b _ hq) ⟨⟨b, len, cap, hb, hj, by rw [Nat.add_assoc]⟩, rfl⟩
          | .c (.vptr k xs j q), hr, hx =>
            obtain ⟨rfl, rfl⟩ := run_ret hx
            obtain ⟨b, p', hq, hrest⟩ := hr.1
            exact did_pure hI (key b _ hq) ⟨⟨b, p', by rw [Nat.add_assoc], hrest⟩, rfl⟩
          | .c (.gptr g' q), hr, hx =>
            obtain ⟨rfl, rfl⟩ := run_ret hx
            exact did_pure hI (key g' q hr.1) ⟨rfl, rfl⟩
          | .c (.int ..), _, hx | .c (.bool _), _, hx | .c (.str _), _, hx | .c (.flt _), _, hx | .c (.sl ..), _, hx | .c .nil, _, hx | .c (.ref _), _, hx
          | .c (.fn ..), _, hx | .c (.opq _), _, hx | .agg _, _, hx | .tup _, _, hx => exact run_fail hx
    | _ => exact run_fail hx

/-- A part of what is a struct. -/
theorem part_at {t : TypeId} {i : TI} (h : TiOk P t i) {cs : List Cell} {vs : List Value} {x : AVal} {q : Nat} {hp : Nat → Option Obj} (hr : RepL w S cs vs) (hle : q + i.size ≤ cs.length)
    (hx : (aggOr i.agg (sliceC cs q i.size)).run hp = some (x, F)) : ∃ u, (part t vs.toArray q).run P w = .ok u w ∧ RepA w S x u := by
  have hag := run_isAgg (P := P) (w := w) h
  have hsz := run_size (P := P) (w := w) h
  have hl := hr.length
  unfold part
  rw [Sem.run_bind, hag]
  simp only [Result.andThen_ok]
  have hs := hr.slice q i.size
  cases ha : i.agg with
  | true =>
    simp only [aggOr, ha, cond_true, RM.run, Option.some.injEq, Prod.mk.injEq] at hx
    obtain ⟨rfl, rfl⟩ := hx
    refine ⟨.agg ((vs.drop q).take i.size).toArray, ?_, _, rfl, hs⟩
    simp only [if_true, Sem.run_bind, hsz, Result.andThen_ok, Sem.run_pure]
    congr 2
    simp [Nat.add_sub_cancel_left]
  | false =>
    simp only [aggOr, ha, cond_false] at hx
    generalize hc : sliceC cs q i.size = ds at hx hs
    match ds, hx with
    | [c], hx =>
      obtain ⟨rfl, rfl⟩ := run_ret hx
      have hlen : ((vs.drop q).take i.size).length = 1 := by rw [← hs.length]; rfl
      match hv : (vs.drop q).take i.size, hlen with
      | [v], _ =>
        rw [hv] at hs
        have hget : vs[q]? = some v := by
          have h0 : ((vs.drop q).take i.size)[0]? = some v := by rw [hv]; rfl
          rw [List.getElem?_take] at h0
          split at h0
          · rw [List.getElem?_drop] at h0; simpa using h0
          · cases h0
        refine ⟨v, ?_, hs.1, hs.1.one⟩
        simp [hget]
    | [], hx => exact run_fail hx
    | _ :: _ :: _, hx => exact run_fail hx

theorem did_field (hC : C.Ok P) (hI : Inv Fr C.nt S e a w) {t : TypeId} {x : Operand} {f : Nat} (ho : o.op = .field t x f) (hx : (effA C e.t.get o.dst o.op).run e.h.get = some (r, F)) : Did P Fr C.nt o e a w r := by
  rw [ho] at hx
  simp only [effA] at hx
  obtain ⟨v, hv, hx⟩ := un_inv hx
  have hr := evalA_rep hI hv
  unfold fieldA at hx
  cases hti : C.ty t with
  | none => rw [hti] at hx; exact run_fail hx
  | some i =>
    obtain ⟨iu, is, ib, iz, ia, ik, ifs⟩ := i
    rw [hti] at hx
    match iu, v, hr, hx, hti with
    | .struct, .agg cs, hr, hx, hti =>
      simp only at hx
      cases hf : ifs[f]? with
      | none => rw [hf] at hx; exact run_fail hx
      | some q =>
        obtain ⟨ft, p, sz⟩ := q
        rw [hf] at hx
        simp only at hx
        cases hfi : C.ty ft with
        | none => rw [hfi] at hx; exact run_fail hx
        | some fi =>
          rw [hfi] at hx
          simp only at hx
          cases hle : Nat.ble (p + fi.size) cs.length with
          | false => rw [hle] at hx; exact run_fail hx
          | true =>
            rw [hle] at hx
            obtain ⟨y, F1, F2, h1, h2, _⟩ := RM.run_bind (m := aggOr fi.agg (sliceC cs p fi.size)) (f := ok) hx
            obtain ⟨rfl, rfl⟩ := run_ret h2
            obtain ⟨_, d, _, hd, hu, _⟩ := under hC hti
            obtain ⟨fs, hfs⟩ := UD.of_struct hu.symm
            subst hfs
            obtain ⟨g, hg, hgt, hgo, hgs⟩ := field_at hC hti hf hd
            obtain ⟨vs, hev, hrl⟩ := hr
            obtain ⟨u, hu', hur⟩ := part_at (P := P) (tiOk (hC.ty ft fi hfi)) hrl (Nat.le_of_ble_eq_true hle) h1
            exact did_pure hI (by simp [execOp, ho, hev, Instr.field, run_underlying hd, hg, asAgg, hgt, hgo, hu']) hur
    | .struct, .c _, _, hx, _ | .struct, .tup _, _, hx, _ => exact run_fail hx
    | .bool, _, _, hx, _ | .int _, _, _, hx, _ | .flt, _, _, hx, _ | .str, _, _, hx, _ | .ptr _, _, _, hx, _ | .slice _, _, _, hx, _ | .array .., _, _, hx, _ | .iface, _, _, hx, _ | .other, _, _, hx, _ => exact run_fail hx

theorem elemOk_size (hC : C.Ok P) {t : TypeId} {k : Kind} (h : elemOk C t k = true) : (sizeOf t).run P w = .ok k.sz w := by
  unfold elemOk at h
  cases hti : C.ty t with
  | none => rw [hti] at h; cases h
  | some i => rw [hti] at h; rw [run_size (tiOk (hC.ty t i hti)), beq_iff.1 h]

theorem inB_inv {i : Int} {n : Nat} {m : RM Res} {h : Nat → Option Obj} {y : Res × List Nat} (hx : (inB i n m).run h = some y) : 0 ≤ i ∧ i.toNat < n ∧ i < (n : Int) ∧ m.run h = some y := by
  obtain ⟨h1, hx⟩ := RM.run_asks hx
  obtain ⟨h2, hx⟩ := RM.run_asks hx
  have h1 := of_decide_eq_true h1
  have h2 := of_decide_eq_true h2
  exact ⟨h1, by omega, h2, hx⟩

theorem projN_rep {S : St} : ∀ {k : Kind} {n : Nat} {cs : List Cell} {vs : List Value} {xs : List k.den}, RepL w S cs vs → projN k n cs = some xs →
    xs.length = n ∧ vs.length = n * k.sz ∧ ∀ i x, xs[i]? = some x → RepK w S.imm k x fun j => vs[i * k.sz + j]?
  | k, 0, [], [], xs, _, hx => by
    simp only [projN, Option.some.injEq] at hx; subst hx
    exact ⟨rfl, by simp, fun i x hi => by simp at hi⟩
  | k, 0, _ :: _, _, xs, _, hx => by simp [projN] at hx
  | k, n + 1, cs, vs, xs, hr, hx => by
    simp only [projN] at hx
    cases hp : proj k cs with
    | none => rw [hp] at hx; cases hx
    | some q =>
      obtain ⟨x, rr⟩ := q
      rw [hp] at hx
      simp only at hx
      cases hq : projN k n rr with
      | none => rw [hq] at hx; cases hx
      | some ys =>
        rw [hq] at hx
        simp only [Option.some.injEq] at hx
        subst hx
        obtain ⟨h1, h2, h3⟩ := hr.proj hp
        obtain ⟨e1, e2, e3⟩ := projN_rep h2 hq
        simp only [List.length_drop] at e2
        refine ⟨by simp [e1], by rw [Nat.add_mul, Nat.one_mul]; omega, fun i y hi => ?_⟩
        cases i with
        | zero =>
          simp only [List.getElem?_cons_zero, Option.some.injEq] at hi
          subst hi
          refine h1.keep (fun _ _ => rfl) (fun _ h => h) fun j _ => by simp
        | succ i =>
          simp only [List.getElem?_cons_succ] at hi
          refine (e3 i y hi).keep (fun _ _ => rfl) (fun _ h => h) fun j _ => ?_
          rw [List.getElem?_drop]
          congr 1; rw [Nat.add_mul]; omega

theorem pick_inv {n o size : Nat} {i : Int} {h : Nat → Option Obj} {r : Res} {F : List Nat} : ∀ {c j : Nat}, (pickA n o size i c j).run h = some (r, F) → ∃ j' : Nat, i = (j' : Int) ∧ j' < j + c ∧ r = ⟨some (.c (.ptr n (o + j' * size))), [], []⟩ ∧ F = []
  | 0, j, hx => run_fail hx
  | c + 1, j, hx => by
    simp only [pickA, RM.run] at hx
    cases hd : decide (i = (j : Int)) with
    | true =>
      rw [hd] at hx
      obtain ⟨rfl, rfl⟩ := run_ret (h := h) hx
      exact ⟨j, of_decide_eq_true hd, by omega, rfl, rfl⟩
    | false =>
      rw [hd] at hx
      obtain ⟨j', h1, h2, h3⟩ := pick_inv (c := c) (j := j + 1) hx
      exact ⟨j', h1, by omega, h3⟩
theorem did_indexAddr (hC : C.Ok P) (hgl : Fr.gl = C.gl) (hI : Inv Fr C.nt S e a w) {t : TypeId} {x y : Operand} (ho : o.op = .indexAddr t x y) (hx : (effA C e.t.get o.dst o.op).run e.h.get = some (r, F)) : Did P Fr C.nt o e a w r := by
  rw [ho] at hx
  simp only [effA] at hx
  obtain ⟨v, j, hv, hj, hx⟩ := bi_inv hx
  have hr := evalA_rep hI hv
  have hjr := evalA_rep hI hj
  unfold indexAddrA at hx
  -- an immutable list
  have imm : ∀ (d : TypeDesc) (te : TypeId) (k : Kind) (xs : List k.den) (q : IntKind) (m : Int), P.underlying t = some d → UD.of d = .slice te → SlV w S.imm k xs (a.eval x) → a.eval y = .int q m → elemOk C te k = true → (inB m xs.length (okC (.vptr k xs m 0))).run e.h.get = some (r, F) → Did P Fr C.nt o e a w r := fun d te k xs q m hd hu hs hm hel hx => by
    obtain ⟨h0, h1, h1', hx⟩ := inB_inv hx
    obtain ⟨rfl, rfl⟩ := run_ret hx
    have hd' := UD.of_slice hu
    subst hd'
    obtain ⟨ad, len, cap, he, hlen, hcap, hn, hrest⟩ := hs
    cases he' : a.eval x with
    | slice ad' len' cap' =>
      rw [he'] at he; cases he
      rcases hrest with hrest | ⟨b, p, rfl, hib, hel2⟩
      · subst hrest; simp at h1
      · refine did_pure hI (v := .pointer (some ⟨b, p + m.toNat * k.sz, none⟩)) ?_ ⟨⟨b, p, rfl, hib, h0, h1, hel2⟩, rfl⟩
        simp [execOp, ho, he', hm, Instr.indexAt, asIntOf, run_underlying hd, hlen, h0, h1', elemOk_size hC hel, Addr.add_mid]
    | _ => rw [he'] at he; cases he
  split at hx
  · rename_i te _ _ _ _ _ _ _ k xs q m hti
    obtain ⟨_, d, _, hd, hu, _⟩ := under hC hti
    cases hel : elemOk C te k with
    | false => rw [hel] at hx; exact run_fail hx
    | true => rw [hel] at hx; exact imm d te k xs q m hd hu.symm hr.1 hjr.1 hel hx
  · rename_i te _ _ _ _ _ _ _ n q m hti
    obtain ⟨_, d, _, hd, hu, _⟩ := under hC hti
    obtain ⟨ob, F', hn, hy, rfl⟩ := RM.run_look hx
    cases ob with
    | lst te' k xs =>
      simp only at hy
      cases hel : elemOk C te k with
      | false => rw [hel] at hy; exact run_fail hy
      | true =>
        rw [hel] at hy
        obtain ⟨h0, h1, h1', hz⟩ := inB_inv hy
        obtain ⟨rfl, rfl⟩ := run_ret hz
        have hd' := UD.of_slice hu.symm
        subst hd'
        obtain ⟨v', flat, hvv, h2, h3, h4⟩ := hI.objs n _ hn
        rw [hr.1.1] at hvv; cases hvv
        have hm : a.eval y = .int q m := hjr.1
        rcases h2.2 with ⟨_, h⟩ | ⟨g, cap', cur, h, _, hg, hnc, hcm, hcs, htake⟩
        · omega
        · refine did_pure hI (v := .pointer (some ⟨g, m.toNat * k.sz, none⟩)) ?_ ⟨⟨g, _, _, by rw [← h]; exact hr.1.1, h0, rfl⟩, rfl⟩
          simp [execOp, ho, h, hm, Instr.indexAt, asIntOf, run_underlying hd, h0, h1', elemOk_size hC hel, Addr.add_mid]
    | frz k xs =>
      simp only at hy
      cases hel : elemOk C te k with
      | false => rw [hel] at hy; exact run_fail hy
      | true =>
        rw [hel] at hy
        obtain ⟨v', hvv, hs⟩ := hI.objs n _ hn
        rw [hr.1.1] at hvv; cases hvv
        obtain ⟨h0, h1, h1', hz⟩ := inB_inv hy
        obtain ⟨rfl, rfl⟩ := run_ret hz
        have hd' := UD.of_slice hu.symm
        subst hd'
        have hm : a.eval y = .int q m := hjr.1
        obtain ⟨ad, len, cap, he, hlen, hcap, hnn, hrest⟩ := hs
        cases he' : a.eval x with
        | slice ad' len' cap' =>
          rw [he'] at he; cases he
          rcases hrest with hrest | ⟨b, p, rfl, hib, hel2⟩
          · subst hrest; simp at h1
          · refine did_pure hI (v := .pointer (some ⟨b, p + m.toNat * k.sz, none⟩)) ?_ ⟨⟨b, p, rfl, hib, h0, h1, hel2⟩, rfl⟩
            simp [execOp, ho, he', hm, Instr.indexAt, asIntOf, run_underlying hd, hlen, h0, h1', elemOk_size hC hel, Addr.add_mid]
        | _ => rw [he'] at he; cases he
    | _ => exact run_fail hy
  · rename_i len te _ _ _ _ _ _ _ n p q m hti
    obtain ⟨_, d, _, hd, hu, _⟩ := under hC hti
    cases hte : C.ty te with
    | none => rw [hte] at hx; exact run_fail hx
    | some ie =>
      rw [hte] at hx
      simp only at hx
      obtain ⟨j, hj1, hj2, rfl, rfl⟩ := pick_inv hx
      have hb : 0 ≤ m ∧ m < (len : Int) := by omega
      rw [show j = m.toNat by omega]
      · have hd' := UD.of_array hu.symm
        subst hd'
        obtain ⟨b, hbv, hev⟩ := hr.1
        have hm : a.eval y = .int q m := hjr.1
        refine did_pure hI (v := .pointer (some ⟨b, p + m.toNat * ie.size, none⟩)) ?_ ⟨⟨b, hbv, rfl⟩, rfl⟩
        simp [execOp, ho, hev, hm, Instr.indexAt, asIntOf, run_underlying hd, Instr.sureAddr, hb.1, hb.2, run_size (tiOk (hC.ty te ie hte)), Addr.add_mid]
  · rename_i len te _ _ _ _ _ _ _ g p q m hti
    obtain ⟨_, d, _, hd, hu, _⟩ := under hC hti
    cases hte : C.ty te with
    | none => rw [hte] at hx; exact run_fail hx
    | some ie =>
      rw [hte] at hx
      simp only at hx
      cases hk : ie.kind with
      | none => rw [hk] at hx; exact run_fail hx
      | some k =>
        cases hg : C.gl g with
        | none => rw [hk, hg] at hx; exact run_fail hx
        | some cs =>
          rw [hk, hg] at hx
          simp only at hx
          cases hb : (Nat.beq k.sz ie.size && Nat.ble (p + len * k.sz) cs.length) with
          | false => rw [hb] at hx; exact run_fail hx
          | true =>
            rw [hb] at hx
            simp only [cond_true, RM.run] at hx
            simp only [Bool.and_eq_true] at hb
            have hsz := beq_iff.1 hb.1
            have hle := Nat.le_of_ble_eq_true hb.2
            cases hpn : projN k len (sliceC cs p (len * k.sz)) with
            | none => rw [hpn] at hx; cases hx
            | some xs =>
              rw [hpn] at hx
              obtain ⟨h0, h1, h1', hx⟩ := inB_inv hx
              obtain ⟨rfl, rfl⟩ := run_ret hx
              have hd' := UD.of_array hu.symm
              subst hd'
              have hev : a.eval x = .pointer (some ⟨g, p, none⟩) := hr.1
              have hm : a.eval y = .int q m := hjr.1
              obtain ⟨him, vs, h3', _, h5, _⟩ := hI.glob g cs (by rw [hgl]; exact hg)
              have h3 : RepL w S cs vs := RepL.keep (S := ⟨fun _ => none, S.imm⟩) (S' := S) ⟨(fun _ _ h => nomatch h), fun _ h => h⟩ (fun _ _ => rfl) h3'
              have hlen := h3.length
              obtain ⟨e1, e2, e3⟩ := projN_rep (h3.slice p (len * k.sz)) hpn
              refine did_pure hI (v := .pointer (some ⟨g, p + m.toNat * ie.size, none⟩)) ?_ ⟨⟨g, p, by simp [hsz], him, h0, by omega, fun j z hj => (e3 j z hj).keep (fun _ _ => rfl) (fun _ h => h) fun c hc => ?_⟩, rfl⟩
              · simp [execOp, ho, hev, hm, Instr.indexAt, asIntOf, run_underlying hd, Instr.sureAddr, h0, h1', run_size (tiOk (hC.ty te ie hte)), Addr.add_mid]
              · have hj' : j < len := by have := (List.getElem?_eq_some_iff.1 hj).1; omega
                have hmul : (j + 1) * k.sz ≤ len * k.sz := Nat.mul_le_mul_right _ hj'
                rw [Nat.add_mul, Nat.one_mul] at hmul
                rw [List.getElem?_take, if_pos (by omega), List.getElem?_drop]
                have hlt : p + (j * k.sz + c) < vs.length := by omega
                rw [List.getElem?_eq_getElem hlt, Nat.add_assoc]
                exact h5 _ _ (List.getElem?_eq_getElem hlt)
  · exact run_fail hx

theorem did_index (hC : C.Ok P) (hI : Inv Fr C.nt S e a w) {t : TypeId} {x y : Operand} (ho : o.op = .index t x y) (hx : (effA C e.t.get o.dst o.op).run e.h.get = some (r, F)) : Did P Fr C.nt o e a w r := by
  rw [ho] at hx
  simp only [effA] at hx
  obtain ⟨v, j, hv, hj, hx⟩ := bi_inv hx
  have hr := evalA_rep hI hv
  have hjr := evalA_rep hI hj
  unfold indexA at hx
  split at hx
  · rename_i s q m hti
    obtain ⟨_, d, _, hd, hu, _⟩ := under hC hti
    have hd' := UD.of_str hu.symm
    subst hd'
    obtain ⟨h0, h1, h1', hx⟩ := inB_inv hx
    obtain ⟨rfl, rfl⟩ := run_ret hx
    have hs : a.eval x = .string s := hr.1
    have hm : a.eval y = .int q m := hjr.1
    refine did_pure hI (v := .int .u8 (bt s m)) ?_ ⟨rfl, rfl⟩
    simp only [execOp, ho, hs, hm, Sem.run_bind, run_index_string w t s q m hd]
    rw [dif_pos ⟨h0, h1'⟩]
    simp only [Result.andThen_ok, Sem.run_pure]
    congr 3
    simp only [bt, List.getD]
    rw [List.getElem?_eq_getElem (by simpa using h1)]
    rfl
  · exact run_fail hx

theorem did_extract (hI : Inv Fr C.nt S e a w) {x : Operand} {i : Nat} (ho : o.op = .extract x i) (hx : (effA C e.t.get o.dst o.op).run e.h.get = some (r, F)) : Did P Fr C.nt o e a w r := by
  rw [ho] at hx
  simp only [effA] at hx
  obtain ⟨v, hv, hx⟩ := un_inv hx
  have hr := evalA_rep hI hv
  have get : ∀ {l : List (Bool × List Cell)} {vs : List Value} (i : Nat) {c : Bool × List Cell}, RepT w S l vs → l[i]? = some c → ∃ u, vs[i]? = some u ∧ RepB w S c u := by
    intro l
    induction l with
    | nil => intro vs i c _ hc; simp at hc
    | cons p l ih =>
      intro vs i c h hc
      cases vs with
      | nil => exact h.elim
      | cons v vs =>
        cases i with
        | zero => simp at hc; subst hc; exact ⟨v, rfl, h.1⟩
        | succ i => simp at hc; obtain ⟨u, h1, h2⟩ := ih i h.2 hc; exact ⟨u, by simpa using h1, h2⟩
  match v, hr, hx with
  | .tup l, ⟨vs, hev, hl⟩, hx =>
    simp only at hx
    cases hc : l[i]? with
    | none => rw [hc] at hx; exact run_fail hx
    | some c =>
      rw [hc] at hx
      obtain ⟨u, hu, hru⟩ := get i hl hc
      have key : (execOp a.eval o).run P w = .ok (.value u) w := by simp [execOp, ho, hev, Instr.extract, hu]
      match c, hru, hx with
      | (true, cs), hru, hx => obtain ⟨rfl, rfl⟩ := run_ret hx; exact did_pure hI key hru
      | (false, [c]), hru, hx => obtain ⟨rfl, rfl⟩ := run_ret hx; exact did_pure hI key hru
      | (false, []), hru, _ => exact hru.elim
      | (false, _ :: _ :: _), hru, _ => exact hru.elim
  | .c _, _, hx | .agg _, _, hx => exact run_fail hx

end
end Go.Eng

namespace Go.Eng
section
variable {P : Program} {C : Ctx} {Fr : Fd} {S : St} {o : Oper} {e : Env} {a : Act} {w : World} {r : Res} {F : List Nat}

/-- A bound that may be left out. -/
def RepOpt (w : World) (S : St) : Option AVal → Option Value → Prop
  | none, none => True
  | some x, some v => RepA w S x v
  | _, _ => False
theorem cut_ok {lo hi : Option AVal} {lo' hi' : Option Value} {n : Nat} {f : Nat → Nat → RM Res} {h : Nat → Option Obj} {y : Res × List Nat} (hl : RepOpt w S lo lo') (hh : RepOpt w S hi hi')
    (hx : (cutA lo hi n f).run h = some y) : ∃ l m, (f l m).run h = some y ∧ l ≤ m ∧ m ≤ n ∧ ∀ b cap, n ≤ cap → (Instr.sliceBounds b n cap lo' hi' none).run P w = .ok (l, m, cap) w := by
  unfold cutA at hx
  have num : ∀ {x : AVal} {v : Value} {d k : Int}, RepA w S x v → boundA (some x) d = some k → ∃ q, v = .int q k := fun {x v d k} hr hb => by
    cases x with
    | c z => cases z <;> first | (simp only [boundA, Option.some.injEq] at hb; subst hb; exact ⟨_, hr.1⟩) | cases hb
    | _ => cases hb
  cases hlo : boundA lo 0 with
  | none => rw [hlo] at hx; exact run_fail hx
  | some l =>
    cases hhi : boundA hi (n : Int) with
    | none => rw [hlo, hhi] at hx; exact run_fail hx
    | some m =>
      rw [hlo, hhi] at hx
      obtain ⟨h1, hx⟩ := RM.run_asks hx
      obtain ⟨h2, hx⟩ := RM.run_asks hx
      refine ⟨l.toNat, m.toNat, hx, ?_⟩
      cases hi with
      | none =>
        cases hi' with
        | some _ => exact hh.elim
        | none =>
          simp only [boundA, Option.some.injEq] at hhi; subst hhi
          cases lo with
          | none =>
            cases lo' with
            | some _ => exact hl.elim
            | none =>
              simp only [boundA, Option.some.injEq] at hlo; subst hlo
              exact ⟨by simp, by simp, fun b cap hn => by simp [Instr.sliceBounds]⟩
          | some x =>
            cases lo' with
            | none => exact hl.elim
            | some v =>
              obtain ⟨q, rfl⟩ := num hl hlo
              simp only [Bool.and_eq_true, decide_eq_true_eq] at h2
              exact ⟨by omega, by omega, fun b cap hn => by simp [Instr.sliceBounds, run_sliceBound, h2.1, h2.2]⟩
      | some x =>
        cases hi' with
        | none => exact hh.elim
        | some v =>
          obtain ⟨q, rfl⟩ := num hh hhi
          simp only [Bool.and_eq_true, decide_eq_true_eq] at h1
          have em : (m.toNat : Int) = m := Int.toNat_of_nonneg h1.1
          cases lo with
          | none =>
            cases lo' with
            | some _ => exact hl.elim
            | none =>
              simp only [boundA, Option.some.injEq] at hlo; subst hlo
              exact ⟨by simp, by omega, fun b cap hn => by cases b <;> simp [Instr.sliceBounds, run_sliceBound, h1.1, show m ≤ (cap : Int) by omega]⟩
          | some z =>
            cases lo' with
            | none => exact hl.elim
            | some u =>
              obtain ⟨q', rfl⟩ := num hl hlo
              simp only [Bool.and_eq_true, decide_eq_true_eq] at h2
              exact ⟨by omega, by omega, fun b cap hn => by cases b <;> simp [Instr.sliceBounds, run_sliceBound, h1.1, show m ≤ (cap : Int) by omega, h2.1, em, h2.2]⟩

/-- A stretch of an immutable list. -/
theorem SlV.cut {imm : Nat → Prop} {k : Kind} {xs : List k.den} {ad : Option Addr} {len cap l m : Nat} (h : SlV w imm k xs (.slice ad len cap)) (hl : l ≤ m) (hm : m ≤ len) :
    SlV w imm k ((xs.take m).drop l) (.slice (if cap = l then ad else ad.map (·.add (l * k.sz))) (m - l) (cap - l)) := by
  obtain ⟨ad', len', cap', he, hlen, hcap, hn, hr⟩ := h
  simp only [Option.some.injEq, Value.slice.injEq] at he
  obtain ⟨rfl, rfl, rfl⟩ := he
  refine ⟨_, _, _, rfl, by simp; omega, by omega, fun hnone => ?_, ?_⟩
  · split at hnone
    · rename_i hc; omega
    · cases ad with
      | none => have := hn rfl; omega
      | some ad => cases hnone
  · by_cases hc : cap = l
    · left; apply List.eq_nil_of_length_eq_zero; simp; omega
    · rcases hr with hr | ⟨b, p, rfl, hb, hel⟩
      · left; rw [hr]; simp
      · right
        refine ⟨b, p + l * k.sz, by rw [if_neg hc]; simp [Addr.add_mid], hb, fun i x hi => ?_⟩
        rw [List.getElem?_drop, List.getElem?_take] at hi
        split at hi
        · have := hel _ x hi
          rw [Nat.add_mul] at this
          refine this.keep (fun _ _ => rfl) (fun _ h => h) fun j _ => ?_
          congr 2; omega
        · cases hi

theorem slice_ok (hC : C.Ok P) (hgl : Fr.gl = C.gl) (hI : Inv Fr C.nt S e a w) {t : TypeId} {x : Operand} {lo hi : Option Operand} {v : AVal} {lo' hi' : Option AVal} (ho : o.op = .slice t x lo hi none) (hr : RepA w S v (a.eval x))
    (hlo : RepOpt w S lo' (lo.map a.eval)) (hhi : RepOpt w S hi' (hi.map a.eval)) (hx : (sliceA C t v lo' hi').run e.h.get = some (r, F)) : Did P Fr C.nt o e a w r := by
  -- what the model does with an immutable list
  have key : ∀ {te : TypeId} {k : Kind} {xs : List k.den} {imm : Nat → Prop} {l m : Nat}, P.underlying t = some (.slice te) → elemOk C te k = true → SlV w imm k xs (a.eval x) → l ≤ m → m ≤ xs.length →
      (∀ b cap, xs.length ≤ cap → (Instr.sliceBounds b xs.length cap (lo.map a.eval) (hi.map a.eval) none).run P w = .ok (l, m, cap) w) →
      ∃ u, (execOp a.eval o).run P w = .ok (.value u) w ∧ SlV w imm k ((xs.take m).drop l) u := by
    intro te k xs imm l m hd hel hs hlm hmn hb
    obtain ⟨ad, len, cap, he, hlen, hcap, hn, hrest⟩ := hs
    simp only [Option.some.injEq] at he
    subst hlen
    refine ⟨_, ?_, SlV.cut (l := l) (m := m) (ad := ad) (len := xs.length) (cap := cap) ⟨ad, _, cap, rfl, rfl, hcap, hn, hrest⟩ hlm hmn⟩
    simp [execOp, ho, he, Instr.sliceAt, Instr.slice, run_underlying hd, hb true cap hcap, elemOk_size hC hel]
  unfold sliceA at hx
  split at hx
  · rename_i s hti
    obtain ⟨_, d, _, hd, hu, _⟩ := under hC hti
    have hd' := UD.of_str hu.symm
    subst hd'
    have hev : a.eval x = .string s := hr.1
    obtain ⟨l, m, hx, hlm, hmn, hb⟩ := cut_ok (P := P) hlo hhi hx
    obtain ⟨rfl, rfl⟩ := run_ret hx
    refine did_pure hI (v := .string (s.extract l m)) ?_ ⟨rfl, rfl⟩
    simp [execOp, ho, hev, Instr.sliceAt, Instr.slice, run_underlying hd, hb false s.size (Nat.le_refl _)]
  · rename_i te _ _ _ _ _ _ _ k xs hti
    obtain ⟨_, d, _, hd, hu, _⟩ := under hC hti
    have hd' := UD.of_slice hu.symm
    subst hd'
    cases hel : elemOk C te k with
    | false => rw [hel] at hx; exact run_fail hx
    | true =>
      rw [hel] at hx
      simp only [cond_true] at hx
      obtain ⟨l, m, hx, hlm, hmn, hb⟩ := cut_ok (P := P) hlo hhi hx
      obtain ⟨rfl, rfl⟩ := run_ret hx
      obtain ⟨u, h1, h2⟩ := key hd hel hr.1 hlm hmn hb
      exact did_pure hI h1 ⟨h2, h2.one⟩
  · rename_i te _ _ _ _ _ _ _ n hti
    obtain ⟨_, d, _, hd, hu, _⟩ := under hC hti
    have hd' := UD.of_slice hu.symm
    subst hd'
    obtain ⟨ob, F', hn, hy, rfl⟩ := RM.run_look hx
    cases ob with
    | frz k xs =>
      simp only at hy
      cases hel : elemOk C te k with
      | false => rw [hel] at hy; exact run_fail hy
      | true =>
        rw [hel] at hy
        simp only [cond_true] at hy
        obtain ⟨l, m, hy, hlm, hmn, hb⟩ := cut_ok (P := P) hlo hhi hy
        obtain ⟨rfl, rfl⟩ := run_ret hy
        obtain ⟨v', hvv, hs⟩ := hI.objs n _ hn
        rw [hr.1.1] at hvv; cases hvv
        obtain ⟨u, h1, h2⟩ := key hd hel hs hlm hmn hb
        exact did_pure hI h1 ⟨h2, h2.one⟩
    | lst te' k xs =>
      simp only at hy
      cases hel : elemOk C te k with
      | false => rw [hel] at hy; exact run_fail hy
      | true =>
        rw [hel] at hy
        simp only [cond_true] at hy
        obtain ⟨l, m, hy, hlm, hmn, hb⟩ := cut_ok (P := P) hlo hhi hy
        obtain ⟨rfl, rfl⟩ := run_ret hy
        obtain ⟨v', hvv, hI'⟩ := hI.freeze hn k.sz_pos
        rw [hr.1.1] at hvv; cases hvv
        obtain ⟨v', hvv, hs⟩ := hI'.objs n (.frz k xs) (by simp [AL.get_set])
        have hvv' : (S.froze (a.eval x)).val n = some (a.eval x) := hr.1.1
        rw [hvv'] at hvv; cases hvv
        obtain ⟨u, h1, h2⟩ := key hd hel hs hlm hmn hb
        exact did_value h1 (fun z hz => by cases hz; exact ⟨h2, h2.one⟩) hI'
    | _ => exact run_fail hy
  · rename_i len te _ _ _ _ _ _ _ g p hti
    obtain ⟨_, d, _, hd, hu, _⟩ := under hC hti
    cases hte : C.ty te with
    | none => rw [hte] at hx; exact run_fail hx
    | some ie =>
      rw [hte] at hx
      simp only at hx
      cases hk : ie.kind with
      | none => rw [hk] at hx; exact run_fail hx
      | some k =>
        cases hg : C.gl g with
        | none => rw [hk, hg] at hx; exact run_fail hx
        | some cs =>
          rw [hk, hg] at hx
          simp only at hx
          cases hb : (Nat.beq k.sz ie.size && Nat.ble (p + len * k.sz) cs.length) with
          | false => rw [hb] at hx; exact run_fail hx
          | true =>
            rw [hb] at hx
            simp only [cond_true, RM.run] at hx
            simp only [Bool.and_eq_true] at hb
            have hsz := beq_iff.1 hb.1
            have hle := Nat.le_of_ble_eq_true hb.2
            cases hpn : projN k len (sliceC cs p (len * k.sz)) with
            | none => rw [hpn] at hx; cases hx
            | some xs =>
              rw [hpn] at hx
              obtain ⟨l, m, hx, hlm, hmn, hbd⟩ := cut_ok (P := P) hlo hhi hx
              obtain ⟨rfl, rfl⟩ := run_ret hx
              have hd' := UD.of_array hu.symm
              subst hd'
              have hev : a.eval x = .pointer (some ⟨g, p, none⟩) := hr.1
              obtain ⟨him, vs, h3', _, h5, _⟩ := hI.glob g cs (by rw [hgl]; exact hg)
              have h3 : RepL w S cs vs := RepL.keep (S := ⟨fun _ => none, S.imm⟩) (S' := S) ⟨(fun _ _ h => nomatch h), fun _ h => h⟩ (fun _ _ => rfl) h3'
              have hlen := h3.length
              obtain ⟨e1, e2, e3⟩ := projN_rep (h3.slice p (len * k.sz)) hpn
              have hs : SlV w S.imm k xs (.slice (some ⟨g, p, none⟩) len len) := ⟨_, _, _, rfl, e1.symm, Nat.le_refl _, (fun h => by cases h), .inr ⟨g, p, rfl, him, fun j z hj => (e3 j z hj).keep (fun _ _ => rfl) (fun _ h => h) fun c hc => by
                have hj' : j < len := by have := (List.getElem?_eq_some_iff.1 hj).1; omega
                have hmul : (j + 1) * k.sz ≤ len * k.sz := Nat.mul_le_mul_right _ hj'
                rw [Nat.add_mul, Nat.one_mul] at hmul
                rw [List.getElem?_take, if_pos (by omega), List.getElem?_drop]
                have hlt : p + (j * k.sz + c) < vs.length := by omega
                rw [List.getElem?_eq_getElem hlt, Nat.add_assoc]
                exact h5 _ _ (List.getElem?_eq_getElem hlt)⟩⟩
              have hcut := SlV.cut hs hlm hmn
              refine did_pure hI ?_ ⟨hcut, hcut.one⟩
              have hif : (if len = l then some (⟨g, p, none⟩ : Addr) else (some ⟨g, p, none⟩ : Option Addr).map (·.add (l * k.sz))) = some (if len = l then ⟨g, p, none⟩ else (⟨g, p, none⟩ : Addr).add (l * k.sz)) := by split <;> rfl
              rw [hif]
              simp [execOp, ho, hev, Instr.sliceAt, Instr.sureAddr, run_underlying hd, hbd false len (Nat.le_refl _), run_size (tiOk (hC.ty te ie hte)), hsz]
  · exact run_fail hx

theorem keep_ok (hC : C.Ok P) (hgl : Fr.gl = C.gl) (hI : Inv Fr C.nt S e a w) {d : Nat} {t : TypeId} {x h : Operand} {v u : AVal} (ho : o.op = .slice t x none (some h) none) (hr : RepA w S v (a.eval x)) (hu : RepA w S u (a.eval h))
    (hx : (keepA C d t v u).run e.h.get = some (r, F)) (hw : writesOk e.h F.reverse r = true) : Did P Fr C.nt o e a w r := by
  have hhi : RepOpt w S (some u) ((some h : Option Operand).map a.eval) := hu
  have hlo : RepOpt w S none ((none : Option Operand).map a.eval) := trivial
  unfold keepA at hx
  split at hx
  · rename_i te _ _ _ _ _ _ _ n hti
    obtain ⟨_, dd, _, hd, hut, _⟩ := under hC hti
    have hd' := UD.of_slice hut.symm
    subst hd'
    obtain ⟨ob, F', hn, hy, hF'⟩ := RM.run_look hx
    cases ob with
    | lst te' k xs =>
      simp only at hy
      cases hel : elemOk C te k with
      | false => rw [hel] at hy; exact run_fail hy
      | true =>
        rw [hel] at hy
        simp only [cond_true] at hy
        obtain ⟨l, m, hy, hlm, hmn, hb⟩ := cut_ok (P := P) hlo hhi hy
        cases hz : Nat.beq l 0 with
        | false => rw [hz] at hy; exact run_fail hy
        | true =>
        have hl0 := beq_iff.1 hz
        rw [hz] at hy
        simp only [cond_true] at hy
        obtain ⟨rfl, rfl⟩ := run_ret hy
        obtain ⟨v', flat, hvv, e2, e3, e4⟩ := hI.objs n _ hn
        rw [hr.1.1] at hvv; cases hvv
        subst hl0
        have hnm : (e.h.set n .dead).get (nm d 0) = none := by
          simp only [writesOk, Bool.and_eq_true] at hw
          have h9 := has_none hw.2
          rw [AL.get_set, if_neg (fun hc => by rw [hc] at h9; rw [hn] at h9; cases h9)]
          exact h9
        have hle : (m * k.sz) ≤ xs.length * k.sz := Nat.mul_le_mul_right _ hmn
        -- what the model answers
        have model : ∃ v'', (execOp a.eval o).run P w = .ok (.value v'') w ∧ w.ownsRow 0 te' k.sz v'' m (flat.take (m * k.sz)) ∧ v''.oneCell' = true ∧ ∀ b, blk v'' = some b → blk (a.eval x) = some b := by
          have hlen : (flat.take (m * k.sz)).length = m * k.sz := by rw [List.length_take, e2.1]; omega
          rcases e2.2 with ⟨he, h0⟩ | ⟨g, cap, cur, he, hbg, hg, hnc, hcm, hcs, htake⟩
          · have hm0 : m = 0 := by omega
            subst hm0
            refine ⟨.slice none 0 0, ?_, ⟨hlen, .inl ⟨rfl, rfl⟩⟩, rfl, fun b hb => by cases hb⟩
            have hb0 := hb true 0 (by omega)
            rw [h0] at hb0
            simp only [Option.map_none, Option.map_some] at hb0
            simp [execOp, ho, he, Instr.sliceAt, Instr.slice, run_underlying hd, hb0, elemOk_size hC hel]
          · refine ⟨.slice (some ⟨g, 0, none⟩) m cap, ?_, ⟨hlen, .inr ⟨g, cap, cur, rfl, hbg, hg, by omega, hcm, hcs, ?_⟩⟩, rfl, fun b hb => by rw [he]; exact hb⟩
            · have hb1 := hb true cap hnc
              simp only [Option.map_none, Option.map_some] at hb1
              simp [execOp, ho, he, Instr.sliceAt, Instr.slice, run_underlying hd, hb1, elemOk_size hC hel, Addr.add]
            · rw [← htake, List.take_take, Nat.min_eq_left hle]
        obtain ⟨v'', hrun, hown, hone, hblk⟩ := model
        have hI1 := hI.kill hn
        have hval : (S.bind (nm d 0) v'').val (nm d 0) = some v'' := by simp [St.bind]
        refine did_value (S' := S.bind (nm d 0) v'') hrun (fun z hz => by cases hz; exact ⟨⟨hval, hone⟩, hone⟩) ?_
        refine hI1.set (.inl (hI1.news _ hnm)) ⟨v'', flat.take (m * k.sz), hval, by rw [List.length_take, Nat.min_eq_left hmn]; exact hown, fun j y hj => ?_, fun u hu => e4 u (List.mem_of_mem_take hu)⟩ fun b _ hbb => ?_
        · rw [List.getElem?_take] at hj
          split at hj
          · rename_i hlt
            have hjm : (j + 1) * k.sz ≤ m * k.sz := Nat.mul_le_mul_right _ hlt
            rw [Nat.add_mul, Nat.one_mul] at hjm
            refine (e3 j y hj).keep (fun _ _ => rfl) (fun _ h => h) fun c hc => ?_
            rw [List.getElem?_take_of_lt (by omega)]
          · cases hj
        · have hb2 := hblk b hbb
          have hwr := hI.wr n _ (a.eval x) b hn rfl hr.1.1 hb2
          refine ⟨hwr.1, hwr.2, fun p ob u _ hp hm hu hc => ?_⟩
          rw [AL.get_set] at hp
          split at hp
          · cases hp; cases hm
          · rename_i hmn'; exact hI.dis p n ob _ u (a.eval x) b hmn' hp hn hm rfl hu hr.1.1 hc hb2
    | _ => exact slice_ok hC hgl hI ho hr hlo hhi hy
  · exact slice_ok hC hgl hI ho hr hlo hhi hx

theorem did_slice (hC : C.Ok P) (hgl : Fr.gl = C.gl) (hI : Inv Fr C.nt S e a w) {t : TypeId} {x : Operand} {lo hi mx : Option Operand} (ho : o.op = .slice t x lo hi mx) (hx : (effA C e.t.get o.dst o.op).run e.h.get = some (r, F)) (hw : writesOk e.h F.reverse r = true) : Did P Fr C.nt o e a w r := by
  rw [ho] at hx
  simp only [effA] at hx
  cases mx with
  | some _ => exact run_fail hx
  | none =>
    simp only at hx
    obtain ⟨v, hv, hx⟩ := un_inv hx
    have hr := evalA_rep hI hv
    cases lo with
    | none =>
      cases hi with
      | none => exact slice_ok hC hgl hI ho hr (lo' := none) (hi' := none) trivial trivial hx
      | some h =>
        obtain ⟨u, hu, hx⟩ := un_inv hx
        cases hc : (isConst h || mem (o.dst.getD 0) C.kp) with
        | true => rw [hc] at hx; exact keep_ok hC hgl hI ho hr (evalA_rep hI hu) hx hw
        | false => rw [hc] at hx; exact slice_ok hC hgl hI ho hr (lo' := none) (hi' := some u) trivial (evalA_rep hI hu) hx
    | some l =>
      cases hi with
      | none => obtain ⟨u, hu, hx⟩ := un_inv hx; exact slice_ok hC hgl hI ho hr (lo' := some u) (hi' := none) (evalA_rep hI hu) trivial hx
      | some h => obtain ⟨u, u', hu, hu', hx⟩ := bi_inv hx; exact slice_ok hC hgl hI ho hr (lo' := some u) (hi' := some u') (evalA_rep hI hu) (evalA_rep hI hu') hx

theorem len_ok (hC : C.Ok P) (hI : Inv Fr C.nt S e a w) {t : TypeId} {x y : AVal} {v : Value} {ts : List TypeId} {ty : TypeId} (hr : RepA w S x v) (hx : (lenA C t x).run e.h.get = some (y, F)) :
    ∃ u, (Builtin.len_ (t :: ts).toArray ty #[v]).run P w = .ok u w ∧ RepA w S y u := by
  unfold lenA at hx
  split at hx
  · rename_i s hti
    obtain ⟨_, d, _, hd, hu, _⟩ := under hC hti
    have hd' := UD.of_str hu.symm
    subst hd'
    obtain ⟨rfl, rfl⟩ := run_ret hx
    have hev : v = .string s := hr.1
    exact ⟨.int .i64 s.size, by simp [Builtin.len_, hev, run_underlying hd, goInt], rfl, rfl⟩
  · rename_i te _ _ _ _ _ _ _ k xs hti
    obtain ⟨_, d, _, hd, hu, _⟩ := under hC hti
    have hd' := UD.of_slice hu.symm
    subst hd'
    obtain ⟨rfl, rfl⟩ := run_ret hx
    obtain ⟨ad, len, cap, he, hlen, _⟩ := hr.1
    simp only [Option.some.injEq] at he
    exact ⟨.int .i64 xs.length, by simp [Builtin.len_, he, run_underlying hd, goInt, hlen], rfl, rfl⟩
  · rename_i te _ _ _ _ _ _ _ hti
    obtain ⟨_, d, _, hd, hu, _⟩ := under hC hti
    have hd' := UD.of_slice hu.symm
    subst hd'
    obtain ⟨rfl, rfl⟩ := run_ret hx
    have hev : v = .slice none 0 0 := hr.1
    exact ⟨.int .i64 0, by simp [Builtin.len_, hev, run_underlying hd, goInt], rfl, rfl⟩
  · rename_i te _ _ _ _ _ _ _ n hti
    obtain ⟨_, d, _, hd, hu, _⟩ := under hC hti
    have hd' := UD.of_slice hu.symm
    subst hd'
    obtain ⟨ob, F', hn, hy, rfl⟩ := RM.run_look hx
    cases ob with
    | lst te' k xs =>
      obtain ⟨rfl, rfl⟩ := run_ret hy
      obtain ⟨v', flat, hvv, h2, _⟩ := hI.objs n _ hn
      rw [hr.1.1] at hvv; cases hvv
      rcases h2.2 with ⟨h, h0⟩ | ⟨g, cap', cur, h, _⟩
      · exact ⟨.int .i64 xs.length, by simp [Builtin.len_, h, run_underlying hd, goInt, h0], rfl, rfl⟩
      · exact ⟨.int .i64 xs.length, by simp [Builtin.len_, h, run_underlying hd, goInt], rfl, rfl⟩
    | frz k xs =>
      obtain ⟨rfl, rfl⟩ := run_ret hy
      obtain ⟨v', hvv, ad, len, cap, he, hlen, _⟩ := hI.objs n _ hn
      rw [hr.1.1] at hvv; cases hvv
      simp only [Option.some.injEq] at he
      exact ⟨.int .i64 xs.length, by simp [Builtin.len_, he, run_underlying hd, goInt, hlen], rfl, rfl⟩
    | _ => exact run_fail hy
  · exact run_fail hx

/-! ### Append -/
/-- The elements of a slice that is read, as cells that lie somewhere. -/
theorem elems_ok (hI : Inv Fr C.nt S e a w) {k : Kind} {x : AVal} {v : Value} {ys : List k.den} (hr : RepA w S x v) (hx : (elemsA k x).run e.h.get = some (ys, F)) :
    ∃ news : List Value, (∀ u ∈ news, u.oneCell' = true) ∧ news.length = ys.length * k.sz ∧ (∀ i y, ys[i]? = some y → RepK w S.imm k y fun j => news[i * k.sz + j]?) ∧
      ((v = .slice none 0 0 ∧ ys = []) ∨ ∃ ad cap, v = .slice (some ad) ys.length cap ∧ ∀ (j : Nat) u, news[j]? = some u → w.cell? (ad.add j) = some u) := by
  -- of an immutable one
  have imm : ∀ {xs : List k.den}, SlV w S.imm k xs v → ∃ news : List Value, (∀ u ∈ news, u.oneCell' = true) ∧ news.length = xs.length * k.sz ∧ (∀ i y, xs[i]? = some y → RepK w S.imm k y fun j => news[i * k.sz + j]?) ∧
      ((v = .slice none 0 0 ∧ xs = []) ∨ ∃ ad cap, v = .slice (some ad) xs.length cap ∧ ∀ (j : Nat) u, news[j]? = some u → w.cell? (ad.add j) = some u) := by
    intro xs hs
    obtain ⟨ad, len, cap, he, hlen, hcap, hn, hrest⟩ := hs
    simp only [Option.some.injEq] at he
    subst he
    cases ad with
    | none =>
      have hc := hn rfl
      have hl : xs = [] := List.eq_nil_of_length_eq_zero (by omega)
      subst hl hc
      exact ⟨[], (fun u hu => by cases hu), by simp, (fun i y hi => by simp at hi), .inl ⟨by simp at hlen; rw [hlen], rfl⟩⟩
    | some ad =>
      rcases hrest with rfl | ⟨b, p, hab, hb, hel⟩
      · exact ⟨[], (fun u hu => by cases hu), by simp, (fun i y hi => by simp at hi), .inr ⟨ad, cap, by rw [hlen], (fun j u hj => by simp at hj)⟩⟩
      · cases hab
        -- element by element
        have build : ∀ (l : List k.den) (q : Nat), (∀ i x, l[i]? = some x → RepK w S.imm k x fun j => w.cell? ⟨b, p + (q + i) * k.sz + j, none⟩) →
            ∃ news : List Value, (∀ u ∈ news, u.oneCell' = true) ∧ news.length = l.length * k.sz ∧ ∀ j, j < l.length * k.sz → w.cell? ⟨b, p + q * k.sz + j, none⟩ = news[j]? := by
          intro l
          induction l with
          | nil => intro q _; exact ⟨[], (fun u hu => by cases hu), by simp, (fun j hj => by simp at hj)⟩
          | cons y l ih =>
            intro q hq
            obtain ⟨vs, h1, h2, h3, h4⟩ := (hq 0 y rfl).cells
            obtain ⟨ns, n1, n2, n3⟩ := ih (q + 1) (fun i x hi => by have := hq (i + 1) x (by simpa using hi); rwa [show q + (i + 1) = q + 1 + i by omega] at this)
            refine ⟨vs ++ ns, fun u hu => (List.mem_append.1 hu).elim (h4 u) (n1 u), by simp [h1, n2, Nat.add_mul, Nat.add_comm], fun j hj => ?_⟩
            by_cases hlt : j < k.sz
            · rw [List.getElem?_append_left (by omega), ← h2 j hlt]; simp
            · have := n3 (j - k.sz) (by simp [Nat.add_mul] at hj; omega)
              rw [List.getElem?_append_right (by omega), h1, ← this]
              congr 2; rw [Nat.add_mul]; omega
        obtain ⟨ns, n1, n2, n3⟩ := build xs 0 (fun i x hi => by simpa using hel i x hi)
        refine ⟨ns, n1, n2, fun i y hi => (hel i y hi).keep (fun _ _ => rfl) (fun _ h => h) (fun j hj => ?_), .inr ⟨_, cap, by rw [hlen], fun j u hj => ?_⟩⟩
        · have hlt : i < xs.length := (List.getElem?_eq_some_iff.1 hi).1
          have hm : (i + 1) * k.sz ≤ xs.length * k.sz := Nat.mul_le_mul_right _ hlt
          rw [Nat.add_mul, Nat.one_mul] at hm
          rw [← n3 _ (by omega)]
          congr 2; omega
        · have hlt : j < ns.length := (List.getElem?_eq_some_iff.1 hj).1
          rw [Addr.add_mid, ← hj, ← n3 j (by omega)]
          congr 2; omega
  unfold elemsA at hx
  split at hx
  · split at hx
    · rename_i k' xs hk
      subst hk
      obtain ⟨rfl, rfl⟩ := run_ret hx
      exact imm hr.1
    · exact run_fail hx
  · obtain ⟨rfl, rfl⟩ := run_ret hx
    exact ⟨[], (fun u hu => by cases hu), by simp, (fun i y hi => by simp at hi), .inl ⟨hr.1, rfl⟩⟩
  · rename_i n
    obtain ⟨ob, F', hn, hy, rfl⟩ := RM.run_look hx
    cases ob with
    | lst te k' xs =>
      simp only at hy
      split at hy
      · rename_i hk
        subst hk
        obtain ⟨rfl, rfl⟩ := run_ret hy
        obtain ⟨v', flat, hvv, h2, h3, h4⟩ := hI.objs n _ hn
        rw [hr.1.1] at hvv; cases hvv
        refine ⟨flat, h4, h2.1, h3, ?_⟩
        rcases h2.2 with ⟨h, h0⟩ | ⟨g, cap', cur, h, _⟩
        · exact .inl ⟨h, List.eq_nil_of_length_eq_zero h0⟩
        · exact .inr ⟨_, cap', h, h2.cells (by rw [h]; rfl)⟩
      · exact run_fail hy
    | frz k' xs =>
      simp only at hy
      split at hy
      · rename_i hk
        subst hk
        obtain ⟨rfl, rfl⟩ := run_ret hy
        obtain ⟨v', hvv, hs⟩ := hI.objs n _ hn
        rw [hr.1.1] at hvv; cases hvv
        exact imm hs
      · exact run_fail hy
    | _ => exact run_fail hy
  · exact run_fail hx
end
end Go.Eng
