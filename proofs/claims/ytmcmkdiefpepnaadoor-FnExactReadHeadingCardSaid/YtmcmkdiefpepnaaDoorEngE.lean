/-
  The engine, fifth part: the operations, one by one (but calls).
-/
import Derived.Test.YtmcmkdiefpepnaaDoorEngD
set_option linter.unusedVariables false
set_option linter.unusedSimpArgs false
namespace Go.Eng
section
variable {P : Program} {C : Ctx} {Fr : Fd} {S : St} {o : Oper} {e : Env} {a : Act} {w : World} {r : Res} {F : List Nat}

theorem run_fail {α : Type} {h : Nat → Option Obj} {x : α × List Nat} {p : Prop} (H : (RM.fail : RM α).run h = some x) : p := by simp [RM.run] at H
theorem run_ret {α : Type} {h : Nat → Option Obj} {x y : α} {F : List Nat} (H : (RM.ret x : RM α).run h = some (y, F)) : y = x ∧ F = [] := by
  simp only [RM.run, Option.some.injEq, Prod.mk.injEq] at H; exact ⟨H.1.symm, H.2.symm⟩
theorem has_none {h : AL Obj} {n : Nat} {ob : Obj} {ps : List (Nat × Obj)} (H : writesOk.newOk h ((n, ob) :: ps) = true) : h.get n = none := by
  simp only [writesOk.newOk, Bool.and_eq_true, Bool.not_eq_true'] at H
  exact (AL.has_iff h n).1 H.1

theorem UD.of_bool {d : TypeDesc} (h : UD.of d = .bool) : d = .bool := by cases d with | bool => rfl | float k => cases k <;> cases h | _ => cases h
theorem UD.of_str {d : TypeDesc} (h : UD.of d = .str) : d = .string := by cases d with | string => rfl | float k => cases k <;> cases h | _ => cases h
theorem UD.of_int {d : TypeDesc} {k : IntKind} (h : UD.of d = .int k) : d = .int k := by cases d with | int k' => cases h; rfl | float k => cases k <;> cases h | _ => cases h
theorem UD.of_flt {d : TypeDesc} (h : UD.of d = .flt) : d = .float .f64 := by
  cases d with
  | float k => cases k <;> first | rfl | cases h
  | _ => cases h
theorem UD.of_slice {d : TypeDesc} {t : TypeId} (h : UD.of d = .slice t) : d = .slice t := by cases d with | slice t' => cases h; rfl | float k => cases k <;> cases h | _ => cases h
theorem UD.of_array {d : TypeDesc} {n : Nat} {t : TypeId} (h : UD.of d = .array n t) : d = .array n t := by cases d with | array n' t' => cases h; rfl | float k => cases k <;> cases h | _ => cases h
theorem UD.of_struct {d : TypeDesc} (h : UD.of d = .struct) : ∃ fs, d = .struct fs := by cases d with | struct fs => exact ⟨fs, rfl⟩ | float k => cases k <;> cases h | _ => cases h
/-- The type that a row tells. -/
theorem under {t : TypeId} {i : TI} (hC : C.Ok P) (h : C.ty t = some i) : ∃ info d, P.info? t = some info ∧ P.underlying t = some d ∧ i.u = UD.of d ∧ i.size = info.size ∧ i.bytes = info.bytes := by
  obtain ⟨info, d, z, h1, h2, h3, h4, h5, h6, _⟩ := (tiOk (hC.ty t i h)).get
  exact ⟨info, d, h1, h2, h4, h5, h6⟩

/-- A value that is looked up. -/
theorem un_inv {tm : Nat → Option AVal} {x : Operand} {f : AVal → RM Res} {h : Nat → Option Obj} {y : Res × List Nat}
    (H : (match evalA tm x with | some v => f v | none => .fail).run h = some y) : ∃ v, evalA tm x = some v ∧ (f v).run h = some y := by
  cases hx : evalA tm x with
  | none => rw [hx] at H; exact run_fail H
  | some v => rw [hx] at H; exact ⟨v, rfl, H⟩
theorem bi_inv {tm : Nat → Option AVal} {x z : Operand} {f : AVal → AVal → RM Res} {h : Nat → Option Obj} {y : Res × List Nat}
    (H : (match evalA tm x, evalA tm z with | some v, some u => f v u | _, _ => .fail).run h = some y) : ∃ v u, evalA tm x = some v ∧ evalA tm z = some u ∧ (f v u).run h = some y := by
  cases hx : evalA tm x with
  | none => rw [hx] at H; exact run_fail H
  | some v =>
    cases hz : evalA tm z with
    | none => rw [hx, hz] at H; exact run_fail H
    | some u => rw [hx, hz] at H; exact ⟨v, u, rfl, rfl, H⟩

theorem run_zero {t : TypeId} {i : TI} (h : TiOk P t i) : ∃ z : Value, (zeroValue t).run P w = .ok z w ∧ i.zero = z.cells.toList.map ofValue ∧ (∀ v ∈ z.cells.toList, v.oneCell' = true) ∧ z.cells.size = i.size := by
  obtain ⟨info, d, z, h1, h2, h3, h4, h5, h6, h7, h8, h9, h10, _⟩ := h.get
  exact ⟨z, by simp [zeroValue, typeInfo, h1, h3], h8, h9, by omega⟩

/-- A new variable. -/
theorem did_newVar (hI : Inv Fr C.nt S e a w) {t : TypeId} {cs : List Cell} {vs : Array Value} {n : Nat} (hn : e.h.get n = none) (hr : RepL w S cs vs.toList)
    (hx : (execOp a.eval o).run P w = .ok (.value (.pointer (some ⟨w.heap.size, 0, none⟩))) (w.alloc (.cells vs t))) :
    Did P Fr C.nt o e a w ⟨some (.c (.ptr n 0)), [], [(n, .box t cs)]⟩ := by
  have hle : S.le (S.bind n (.pointer (some ⟨w.heap.size, 0, none⟩))) := St.le_bind (.inl (hI.news n hn))
  have hv : (S.bind n (.pointer (some ⟨w.heap.size, 0, none⟩))).val n = some (.pointer (some ⟨w.heap.size, 0, none⟩)) := by simp [St.bind]
  have hk : Keeps S.imm w (w.alloc (.cells vs t)) := fun b hb => heap_alloc_old w _ b (hI.imm b hb).1
  refine did_value hx (fun x hx => ?_) (S' := S.bind n (.pointer (some ⟨w.heap.size, 0, none⟩))) ?_
  · cases hx; exact ⟨⟨_, hv, rfl⟩, rfl⟩
  · exact hI.new hn rfl ⟨_, vs.toList, hv, by rw [heap_alloc_new], hr.keep hle hk, hr.ones⟩

theorem did_alloc (hC : C.Ok P) (hI : Inv Fr C.nt S e a w) {t : TypeId} (ho : o.op = .alloc t) (hx : (effA C e.t.get o.dst o.op).run e.h.get = some (r, F)) (hw : writesOk e.h F.reverse r = true) : Did P Fr C.nt o e a w r := by
  rw [ho] at hx
  simp only [effA] at hx
  cases hti : C.ty t with
  | none => rw [hti] at hx; exact run_fail hx
  | some i =>
    rw [hti] at hx
    obtain ⟨rfl, rfl⟩ := run_ret hx
    simp only [writesOk, List.all_nil, Bool.true_and] at hw
    obtain ⟨z, h1, h2, h3, h4⟩ := run_zero (P := P) (w := w) (tiOk (hC.ty t i hti))
    exact did_newVar hI (has_none hw) (by rw [h2]; exact ofValues_rep _ h3) (by simp [execOp, ho, Instr.alloc, h1, newVar, newRow])

theorem did_box (hI : Inv Fr C.nt S e a w) {t : TypeId} {x : Operand} (ho : o.op = .box t x) (hx : (effA C e.t.get o.dst o.op).run e.h.get = some (r, F)) (hw : writesOk e.h F.reverse r = true) : Did P Fr C.nt o e a w r := by
  rw [ho] at hx
  simp only [effA] at hx
  obtain ⟨v, hv, hx⟩ := un_inv hx
  cases hc : v.cells with
  | none => rw [hc] at hx; exact run_fail hx
  | some p =>
    obtain ⟨b, cs⟩ := p
    rw [hc] at hx
    obtain ⟨rfl, rfl⟩ := run_ret hx
    simp only [writesOk, List.all_nil, Bool.true_and] at hw
    have hr := (AVal.cells_rep (evalA_rep hI hv) hc).1
    exact did_newVar hI (has_none hw) hr (by simp [execOp, ho, Instr.box, newVar, newRow])

theorem did_move (hI : Inv Fr C.nt S e a w) {x : Operand} (ho : o.op = .move x ∨ o.op = .assign x) (hx : (effA C e.t.get o.dst o.op).run e.h.get = some (r, F)) : Did P Fr C.nt o e a w r := by
  rcases ho with ho | ho <;>
  · rw [ho] at hx
    simp only [effA] at hx
    obtain ⟨v, hv, hx⟩ := un_inv hx
    obtain ⟨rfl, rfl⟩ := run_ret hx
    exact did_pure hI (by simp [execOp, ho]) (evalA_rep hI hv)

theorem did_pick (hI : Inv Fr C.nt S e a w) {c x y : Operand} (ho : o.op = .pick c x y) (hx : (effA C e.t.get o.dst o.op).run e.h.get = some (r, F)) : Did P Fr C.nt o e a w r := by
  rw [ho] at hx
  simp only [effA] at hx
  cases hc : evalA e.t.get c with
  | none => rw [hc] at hx; exact run_fail hx
  | some v =>
    rw [hc] at hx
    have hr := evalA_rep hI hc
    match v, hr, hx with
    | .c (.bool t), hr, hx =>
      have hcv : a.eval c = .bool t := hr.1
      simp only [RM.run] at hx
      cases t with
      | true =>
        simp only [cond_true] at hx
        obtain ⟨v, hv, hx⟩ := un_inv hx
        obtain ⟨rfl, rfl⟩ := run_ret hx
        exact did_pure hI (by simp [execOp, ho, hcv, asBool]) (evalA_rep hI hv)
      | false =>
        simp only [cond_false] at hx
        obtain ⟨v, hv, hx⟩ := un_inv hx
        obtain ⟨rfl, rfl⟩ := run_ret hx
        exact did_pure hI (by simp [execOp, ho, hcv, asBool]) (evalA_rep hI hv)
    | .c (.int ..), _, hx | .c (.str _), _, hx | .c (.flt _), _, hx | .c (.sl ..), _, hx | .c .nil, _, hx | .c (.ref _), _, hx | .c (.ptr ..), _, hx | .c (.eptr ..), _, hx | .c (.vptr ..), _, hx | .c (.gptr ..), _, hx
    | .c (.fn ..), _, hx | .c (.opq _), _, hx | .agg _, _, hx | .tup _, _, hx => exact run_fail hx

theorem did_load (hC : C.Ok P) (hgl : Fr.gl = C.gl) (hI : Inv Fr C.nt S e a w) {t : TypeId} {x : Operand} (ho : o.op = .load t x) (hx : (effA C e.t.get o.dst o.op).run e.h.get = some (r, F)) : Did P Fr C.nt o e a w r := by
  rw [ho] at hx
  simp only [effA] at hx
  obtain ⟨v, hv, hx⟩ := un_inv hx
  obtain ⟨y, F1, F2, h1, h2, _⟩ := RM.run_bind hx
  obtain ⟨rfl, rfl⟩ := run_ret h2
  obtain ⟨u, hu, hr⟩ := load_ok hC hgl hI (evalA_rep hI hv) h1
  exact did_pure hI (by simp [execOp, ho, hu]) hr

theorem did_nilCheck (hI : Inv Fr C.nt S e a w) {x : Operand} (ho : o.op = .nilCheck x) (hx : (effA C e.t.get o.dst o.op).run e.h.get = some (r, F)) : Did P Fr C.nt o e a w r := by
  rw [ho] at hx
  simp only [effA] at hx
  obtain ⟨v, hv, hx⟩ := un_inv hx
  have hr := evalA_rep hI hv
  have key : ∀ (p : Addr), a.eval x = .pointer (some p) → (execOp a.eval o).run P w = .ok (.value (a.eval x)) w := fun p hp => by simp [execOp, ho, hp]
  match v, hr, hx with
  | .c (.ptr n q), hr, hx =>
    obtain ⟨rfl, rfl⟩ := run_ret hx
    obtain ⟨b, h1, h2⟩ := hr.1
    exact did_pure hI (key _ h2) hr
  | .c (.eptr n z i q), hr, hx =>
    obtain ⟨rfl, rfl⟩ := run_ret hx
    obtain ⟨b, len, cap, h1, h2, h3⟩ := hr.1
    exact did_pure hI (key _ h3) hr
  | .c (.vptr k xs i q), hr, hx =>
    obtain ⟨rfl, rfl⟩ := run_ret hx
    obtain ⟨b, p, h1, _⟩ := hr.1
    exact did_pure hI (key _ h1) hr
  | .c (.gptr g q), hr, hx =>
    obtain ⟨rfl, rfl⟩ := run_ret hx
    exact did_pure hI (key _ hr.1) hr
  | .c (.int ..), _, hx | .c (.bool _), _, hx | .c (.str _), _, hx | .c (.flt _), _, hx | .c (.sl ..), _, hx | .c .nil, _, hx | .c (.ref _), _, hx
  | .c (.fn ..), _, hx | .c (.opq _), _, hx | .agg _, _, hx | .tup _, _, hx => exact run_fail hx

theorem sameI_eq {k k' : IntKind} (h : sameI k k' = true) : k = k' := by cases k <;> cases k' <;> first | rfl | cases h

theorem oneCell_int {k : IntKind} {n : Int} : (Value.int k n).oneCell' = true := rfl

/-! ### Floats by their bits -/
theorem canon_cases (b : Nat) : ((∃ s f, Ieee.double.read b = .nan s f) ∧ canonF b = 0x7ff8000000000000) ∨ ((FloatKind.f64.decode b).isNaN = false ∧ canonF b = b) := by
  cases h : (FloatKind.f64.decode b).isNaN with
  | true =>
    refine .inl ⟨?_, by simp [canonF, h]⟩
    have h' : (Ieee.double.read b).isNaN = true := h
    cases hd : Ieee.double.read b with
    | nan s f => exact ⟨s, f, rfl⟩
    | number s m i => rw [hd] at h'; cases h'
    | infinity s => rw [hd] at h'; cases h'
  | false => exact .inr ⟨rfl, by simp [canonF, h]⟩
theorem read_qnan : ∃ s f, Ieee.double.read 0x7ff8000000000000 = .nan s f := ⟨false, 0x8000000000000, by decide⟩
theorem canon_read (b : Nat) : Ieee.double.read (canonF b) = Ieee.double.read b ∨ (∃ s f, Ieee.double.read b = .nan s f) ∧ ∃ s f, Ieee.double.read (canonF b) = .nan s f := by
  rcases canon_cases b with ⟨h1, h2⟩ | ⟨_, h2⟩
  · exact .inr ⟨h1, by rw [h2]; exact read_qnan⟩
  · exact .inl (by rw [h2])
theorem sum_nan_l {s : Bool} {f : Nat} {y : Ieee.Datum} : Ieee.Datum.sum (.nan s f) y = none := by cases y <;> rfl
theorem sum_nan_r {s : Bool} {f : Nat} {x : Ieee.Datum} : Ieee.Datum.sum x (.nan s f) = none := by cases x <;> rfl
theorem product_nan_l {s : Bool} {f : Nat} {y : Ieee.Datum} : Ieee.Datum.product (.nan s f) y = none := by cases y <;> rfl
theorem product_nan_r {s : Bool} {f : Nat} {x : Ieee.Datum} : Ieee.Datum.product x (.nan s f) = none := by cases x <;> rfl
theorem quotient_nan_l {n : Nat} {s : Bool} {f : Nat} {y : Ieee.Datum} : Ieee.Datum.quotient n (.nan s f) y = none := by cases y <;> rfl
theorem quotient_nan_r {n : Nat} {s : Bool} {f : Nat} {x : Ieee.Datum} : Ieee.Datum.quotient n x (.nan s f) = none := by cases x <;> rfl
theorem order_nan_l {s : Bool} {f : Nat} {y : Ieee.Datum} : Ieee.Datum.order (.nan s f) y = none := by cases y <;> rfl
theorem order_nan_r {s : Bool} {f : Nat} {x : Ieee.Datum} : Ieee.Datum.order x (.nan s f) = none := by cases x <;> rfl
theorem canon2 {α : Type} (f : Ieee.Datum → Ieee.Datum → Option α) (hl : ∀ s t y, f (.nan s t) y = none) (hr : ∀ s t x, f x (.nan s t) = none) (a b : Nat) :
    f (Ieee.double.read (canonF a)) (Ieee.double.read (canonF b)) = f (Ieee.double.read a) (Ieee.double.read b) := by
  rcases canon_read a with h1 | ⟨⟨s1, f1, h1⟩, s2, f2, h2⟩
  · rcases canon_read b with h3 | ⟨⟨s3, f3, h3⟩, s4, f4, h4⟩
    · rw [h1, h3]
    · rw [h3, h4, hr, hr]
  · rw [h1, h2, hl, hl]
theorem add_canon (a b : Nat) : Ieee.double.add (canonF a) (canonF b) = Ieee.double.add a b := by
  unfold Ieee.Format.add; rw [canon2 Ieee.Datum.sum (fun _ _ _ => sum_nan_l) (fun _ _ _ => sum_nan_r)]
theorem sub_canon (a b : Nat) : Ieee.double.sub (canonF a) (canonF b) = Ieee.double.sub a b := by
  unfold Ieee.Format.sub; rw [canon2 (fun x y => Ieee.Datum.sum x y.opposite) (fun _ _ _ => sum_nan_l) (fun _ _ _ => sum_nan_r)]
theorem mul_canon (a b : Nat) : Ieee.double.mul (canonF a) (canonF b) = Ieee.double.mul a b := by
  unfold Ieee.Format.mul; rw [canon2 Ieee.Datum.product (fun _ _ _ => product_nan_l) (fun _ _ _ => product_nan_r)]
theorem div_canon (a b : Nat) : Ieee.double.div (canonF a) (canonF b) = Ieee.double.div a b := by
  unfold Ieee.Format.div; rw [canon2 (fun x y => Ieee.Datum.quotient (Ieee.double.fractionBits + 2) x y) (fun _ _ _ => quotient_nan_l) (fun _ _ _ => quotient_nan_r)]
theorem order_canon (a b : Nat) : Ieee.double.order (canonF a) (canonF b) = Ieee.double.order a b := by
  unfold Ieee.Format.order; rw [canon2 Ieee.Datum.order (fun _ _ _ => order_nan_l) (fun _ _ _ => order_nan_r)]
theorem decode_nan_lit (s : Bool) (r : Nat) (h1 : Ieee.double.infRung < r) (h2 : r < Ieee.double.signWeight) : (FloatKind.f64.decode ((if s then Ieee.double.signWeight else 0) + r)).isNaN = true := by
  have hr : ((if s then Ieee.double.signWeight else 0) + r) % Ieee.double.signWeight = r := by
    cases s with
    | true => simp only [if_true, Nat.add_mod_left]; exact Nat.mod_eq_of_lt h2
    | false => simp only [Bool.false_eq_true, if_false, Nat.zero_add]; exact Nat.mod_eq_of_lt h2
  have hb : Ieee.double.binade ≤ Ieee.double.infRung := by decide
  unfold FloatKind.decode FloatKind.format Ieee.Format.read
  simp only [hr]
  rw [if_neg (by omega), if_neg (by omega), if_neg (by omega)]
  rfl
/-- What is drawn for a result that is no number, is none. -/
theorem drawn_nan (x y t : Nat) : canonF ((Question.nanBits .f64 x y).cut t) = 0x7ff8000000000000 := by
  have h : (FloatKind.f64.decode ((Question.nanBits .f64 x y).cut t)).isNaN = true := by
    have e : (Question.nanBits .f64 x y).cut t = (if decide (t % 2 = 1) then Ieee.double.signWeight else 0) + (0x7ff0000000000000 + 1 + (t / 2) % (2 ^ 52 - 1)) := by
      have hw : Ieee.double.signWeight = 2 ^ 63 := by decide
      rw [hw]
      simp only [Question.cut]
      rcases Nat.mod_two_eq_zero_or_one t with h | h <;> simp [h] <;> omega
    rw [e]
    have hm : (t / 2) % (2 ^ 52 - 1) < 2 ^ 52 - 1 := Nat.mod_lt _ (by decide)
    have hi : Ieee.double.infRung = 0x7ff0000000000000 := by decide
    have hw : Ieee.double.signWeight = 2 ^ 63 := by decide
    exact decode_nan_lit _ _ (by omega) (by omega)
  simp [canonF, h]
theorem neg_canon (a : Nat) : canonF (Op.negFloat .f64 (canonF a)) = canonF (Op.negFloat .f64 a) := by
  rcases canon_cases a with ⟨⟨s, f, h1⟩, h2⟩ | ⟨_, h2⟩
  · have hx : ∀ b, (∃ s f, Ieee.double.read b = .nan s f) → canonF (Op.negFloat .f64 b) = 0x7ff8000000000000 := fun b ⟨s, f, hb⟩ => by
      have hmod : (Op.negFloat .f64 b) % Ieee.double.signWeight = b % Ieee.double.signWeight := by
        show (b ^^^ 2 ^ 63) % 2 ^ 63 = b % 2 ^ 63
        rw [Nat.xor_mod_two_pow, Nat.mod_self, Nat.xor_zero]
      have hn : (FloatKind.f64.decode (Op.negFloat .f64 b)).isNaN = true := by
        show (Ieee.double.read (Op.negFloat .f64 b)).isNaN = true
        unfold Ieee.Format.read at hb ⊢
        simp only [hmod]
        simp only at hb
        split at hb
        · cases hb
        · split at hb
          · cases hb
          · split at hb
            · cases hb
            · rename_i c1 c2 c3
              rw [if_neg c1, if_neg c2, if_neg c3]; rfl
      simp [canonF, hn]
    rw [hx _ ⟨s, f, h1⟩, h2]
    exact hx _ read_qnan
  · rw [h2]
theorem toInt_canon (a : Nat) (k : IntKind) : floatToIntVal .f64 (canonF a) k = floatToIntVal .f64 a k := by
  unfold floatToIntVal
  have h : ∀ b, FloatKind.f64.decode b = Ieee.double.read b := fun _ => rfl
  rw [h, h]
  rcases canon_read a with h1 | ⟨⟨s1, f1, h1⟩, s2, f2, h2⟩
  · rw [h1]
  · rw [h1, h2]; rfl
theorem canonF_idem (a : Nat) : canonF (canonF a) = canonF a := by
  rcases canon_cases a with ⟨_, h2⟩ | ⟨_, h2⟩
  · rw [h2]; rcases canon_cases 0x7ff8000000000000 with ⟨_, h⟩ | ⟨_, h⟩ <;> exact h
  · rw [h2, h2]
theorem flt_arith {P : Program} {w : World} {S : St} {op : BinOp} {t : TypeId} {a b : Nat} {o : Option Nat} (ho : op = .add ∧ o = Ieee.double.add a b ∨ op = .sub ∧ o = Ieee.double.sub a b ∨ op = .mul ∧ o = Ieee.double.mul a b ∨ op = .quo ∧ o = Ieee.double.div a b) :
    ∃ q w', (binOp op t (.float .f64 a) (.float .f64 b)).run P w = .ok q w' ∧ (w' = w ∨ w' = w.drew) ∧ RepA w S (.c (.flt (fcan o))) q := by
  cases o with
  | some r =>
    refine ⟨.float .f64 r, w, run_float_arith w op t .f64 a b r ?_, .inl rfl, ⟨r, rfl, rfl⟩, rfl⟩
    rcases ho with ⟨rfl, h⟩ | ⟨rfl, h⟩ | ⟨rfl, h⟩ | ⟨rfl, h⟩ <;> exact h.symm
  | none =>
    refine ⟨.float .f64 ((Question.nanBits .f64 a b).cut (w.tape w.drawn (.nanBits .f64 a b))), w.drew, ?_, .inr rfl, ⟨_, rfl, drawn_nan _ _ _⟩, rfl⟩
    have hf : FloatKind.f64.format = Ieee.double := rfl
    rcases ho with ⟨rfl, h⟩ | ⟨rfl, h⟩ | ⟨rfl, h⟩ | ⟨rfl, h⟩ <;> simp [binOp, Op.floatArith, hf, ← h, Question.forced]

theorem bin_ok (hC : C.Ok P) {t : TypeId} {op : BinOp} {x y z : AVal} {u v : Value} {h : Nat → Option Obj} (hx : RepA w S x u) (hy : RepA w S y v) (hz : (binA C t op x y).run h = some (z, F)) :
    ∃ q w', (binOp op t u v).run P w = .ok q w' ∧ (w' = w ∨ w' = w.drew) ∧ RepA w S z q ∧ ∀ (m n : Operand), (eqGuard op t m n u v).run P w = .ok () w := by
  have guard : ∀ (u v : Value), (∀ xs ys, ¬ (u = .agg xs ∧ v = .agg ys)) → ¬ (u = .nilIface ∧ v = .nilIface) → ∀ (m n : Operand), (eqGuard op t m n u v).run P w = .ok () w := fun u v h1 h2 m n => by
    unfold eqGuard
    cases op <;> (cases u <;> cases v <;> first | rfl | exact absurd ⟨rfl, rfl⟩ h2 | exact absurd ⟨rfl, rfl⟩ (h1 _ _))
  match x, y, hx, hy, hz with
  | .c (.int k m), .c (.int k' n), hx, hy, hz =>
    have hu : u = .int k m := hx.1
    have hv : v = .int k' n := hy.1
    subst hu hv
    suffices ∃ q, (binOp op t (.int k m) (.int k' n)).run P w = .ok q w ∧ RepA w S z q from
      let ⟨q, h1, h2⟩ := this; ⟨q, w, h1, .inl rfl, h2, guard _ _ (fun _ _ h => by cases h.1) (fun h => by cases h.1)⟩
    have same : ∀ {op}, op ≠ .shl → op ≠ .shr → (binA C t op (.c (.int k m)) (.c (.int k' n))).run h = some (z, F) → k = k' := fun {op} h1 h2 hz => by
      cases hk : sameI k k' with
      | true => exact sameI_eq hk
      | false => cases op <;> first | exact absurd rfl h1 | exact absurd rfl h2 | (simp [binA, hk, RM.run] at hz)
    cases op with
    | shl =>
      simp only [binA] at hz
      obtain ⟨hd, hz⟩ := RM.run_asks hz
      obtain ⟨rfl, rfl⟩ := run_ret hz
      have hd' := of_decide_eq_true hd
      exact ⟨_, by simp [binOp, Op.shift, show ¬ n < 0 by omega], rfl, rfl⟩
    | shr =>
      simp only [binA] at hz
      obtain ⟨hd, hz⟩ := RM.run_asks hz
      obtain ⟨rfl, rfl⟩ := run_ret hz
      have hd' := of_decide_eq_true hd
      exact ⟨_, by simp [binOp, Op.shift, show ¬ n < 0 by omega], rfl, rfl⟩
    | quo =>
      have hk := same (by simp) (by simp) hz
      subst hk
      have hs : sameI k k = true := by cases k <;> rfl
      simp only [binA, hs, cond_true] at hz
      obtain ⟨hd, hz⟩ := RM.run_asks hz
      obtain ⟨rfl, rfl⟩ := run_ret hz
      have hd' : ¬ n = 0 := by simpa using hd
      exact ⟨_, by simp [binOp, Op.intDiv, hd'], rfl, rfl⟩
    | rem =>
      have hk := same (by simp) (by simp) hz
      subst hk
      have hs : sameI k k = true := by cases k <;> rfl
      simp only [binA, hs, cond_true] at hz
      obtain ⟨hd, hz⟩ := RM.run_asks hz
      obtain ⟨rfl, rfl⟩ := run_ret hz
      have hd' : ¬ n = 0 := by simpa using hd
      exact ⟨_, by simp [binOp, Op.intDiv, hd'], rfl, rfl⟩
    | _ =>
      have hk := same (by simp) (by simp) hz
      subst hk
      have hs : sameI k k = true := by cases k <;> rfl
      simp only [binA, hs, cond_true] at hz
      obtain ⟨rfl, rfl⟩ := run_ret hz
      exact ⟨_, by simp [binOp, Op.intArith, Op.intBits, Op.intCmp], rfl, rfl⟩
  | .c (.str m), .c (.str n), hx, hy, hz =>
    have hu : u = .string m := hx.1
    have hv : v = .string n := hy.1
    subst hu hv
    suffices ∃ q, (binOp op t (.string m) (.string n)).run P w = .ok q w ∧ RepA w S z q from
      let ⟨q, h1, h2⟩ := this; ⟨q, w, h1, .inl rfl, h2, guard _ _ (fun _ _ h => by cases h.1) (fun h => by cases h.1)⟩
    cases op <;> simp only [binA] at hz <;> try exact run_fail hz
    case add =>
      obtain ⟨hd, hz⟩ := RM.run_asks hz
      obtain ⟨rfl, rfl⟩ := run_ret hz
      have hd' := of_decide_eq_true hd
      refine ⟨.string (m ++ n), ?_, rfl, rfl⟩
      have : ¬ (((m.size + n.size : Nat) : Int) > IntKind.i64.max) := by simp only [IntKind.max, IntKind.signed, IntKind.bits]; simp; omega
      simp only [binOp, Op.stringOp, if_neg this]; rfl
    all_goals
      obtain ⟨rfl, rfl⟩ := run_ret hz
      exact ⟨_, by simp [binOp, Op.stringOp], rfl, rfl⟩
  | .c (.flt m), .c (.flt n), hx, hy, hz =>
    obtain ⟨⟨m', rfl, rfl⟩, _⟩ := hx
    obtain ⟨⟨n', rfl, rfl⟩, _⟩ := hy
    suffices ∃ q w', (binOp op t (.float .f64 m') (.float .f64 n')).run P w = .ok q w' ∧ (w' = w ∨ w' = w.drew) ∧ RepA w S z q from
      let ⟨q, w', h1, h0, h2⟩ := this; ⟨q, w', h1, h0, h2, guard _ _ (fun _ _ h => by cases h.1) (fun h => by cases h.1)⟩
    cases op <;> simp only [binA] at hz <;> try exact run_fail hz
    case add => obtain ⟨rfl, rfl⟩ := run_ret hz; simp only [fadd, add_canon]; exact flt_arith (.inl ⟨rfl, rfl⟩)
    case sub => obtain ⟨rfl, rfl⟩ := run_ret hz; simp only [fsub, sub_canon]; exact flt_arith (.inr (.inl ⟨rfl, rfl⟩))
    case mul => obtain ⟨rfl, rfl⟩ := run_ret hz; simp only [fmul, mul_canon]; exact flt_arith (.inr (.inr (.inl ⟨rfl, rfl⟩)))
    case quo => obtain ⟨rfl, rfl⟩ := run_ret hz; simp only [fdiv, div_canon]; exact flt_arith (.inr (.inr (.inr ⟨rfl, rfl⟩)))
    all_goals
      obtain ⟨rfl, rfl⟩ := run_ret hz
      have hf : FloatKind.f64.format = Ieee.double := rfl
      refine ⟨_, w, by simp [binOp, Op.floatCmp, hf]; rfl, .inl rfl, ?_, rfl⟩
      simp only [feq, flt, fgt, order_canon]
      rfl
  | .c (.bool m), .c (.bool n), hx, hy, hz =>
    have hu : u = .bool m := hx.1
    have hv : v = .bool n := hy.1
    subst hu hv
    suffices ∃ q, (binOp op t (.bool m) (.bool n)).run P w = .ok q w ∧ RepA w S z q from
      let ⟨q, h1, h2⟩ := this; ⟨q, w, h1, .inl rfl, h2, guard _ _ (fun _ _ h => by cases h.1) (fun h => by cases h.1)⟩
    simp only [binA] at hz
    cases hti : C.ty t with
    | none => rw [hti] at hz; exact run_fail hz
    | some i =>
      rw [hti] at hz
      obtain ⟨info, d, z', h1, h2, h3, h4, _⟩ := (tiOk (hC.ty t i hti)).get
      obtain ⟨iu, is, ib, iz, ia, ik, ifs⟩ := i
      cases iu <;> try exact run_fail hz
      have hd : P.underlying t = some .bool := by rw [h2, UD.of_bool h4.symm]
      cases op <;> try exact run_fail hz
      · obtain ⟨rfl, rfl⟩ := run_ret hz; exact ⟨_, run_eql_bool w t m n hd, rfl, rfl⟩
      · obtain ⟨rfl, rfl⟩ := run_ret hz; exact ⟨_, run_neq_bool w t m n hd, rfl, rfl⟩
  | .c (.int ..), .c (.bool _), _, _, hz | .c (.int ..), .c (.str _), _, _, hz | .c (.int ..), .c (.flt _), _, _, hz | .c (.int ..), .c (.sl ..), _, _, hz | .c (.int ..), .c .nil, _, _, hz | .c (.int ..), .c (.ref _), _, _, hz | .c (.int ..), .c (.ptr ..), _, _, hz
  | .c (.int ..), .c (.eptr ..), _, _, hz | .c (.int ..), .c (.vptr ..), _, _, hz | .c (.int ..), .c (.gptr ..), _, _, hz | .c (.int ..), .c (.fn ..), _, _, hz | .c (.int ..), .c (.opq _), _, _, hz | .c (.int ..), .agg _, _, _, hz | .c (.int ..), .tup _, _, _, hz
  | .c (.str _), .c (.bool _), _, _, hz | .c (.str _), .c (.int ..), _, _, hz | .c (.str _), .c (.flt _), _, _, hz | .c (.str _), .c (.sl ..), _, _, hz | .c (.str _), .c .nil, _, _, hz | .c (.str _), .c (.ref _), _, _, hz | .c (.str _), .c (.ptr ..), _, _, hz
  | .c (.str _), .c (.eptr ..), _, _, hz | .c (.str _), .c (.vptr ..), _, _, hz | .c (.str _), .c (.gptr ..), _, _, hz | .c (.str _), .c (.fn ..), _, _, hz | .c (.str _), .c (.opq _), _, _, hz | .c (.str _), .agg _, _, _, hz | .c (.str _), .tup _, _, _, hz
  | .c (.bool _), .c (.str _), _, _, hz | .c (.bool _), .c (.int ..), _, _, hz | .c (.bool _), .c (.flt _), _, _, hz | .c (.bool _), .c (.sl ..), _, _, hz | .c (.bool _), .c .nil, _, _, hz | .c (.bool _), .c (.ref _), _, _, hz | .c (.bool _), .c (.ptr ..), _, _, hz
  | .c (.bool _), .c (.eptr ..), _, _, hz | .c (.bool _), .c (.vptr ..), _, _, hz | .c (.bool _), .c (.gptr ..), _, _, hz | .c (.bool _), .c (.fn ..), _, _, hz | .c (.bool _), .c (.opq _), _, _, hz | .c (.bool _), .agg _, _, _, hz | .c (.bool _), .tup _, _, _, hz
  | .c (.flt _), .c (.bool _), _, _, hz | .c (.flt _), .c (.int ..), _, _, hz | .c (.flt _), .c (.str _), _, _, hz | .c (.flt _), .c (.sl ..), _, _, hz | .c (.flt _), .c .nil, _, _, hz | .c (.flt _), .c (.ref _), _, _, hz | .c (.flt _), .c (.ptr ..), _, _, hz
  | .c (.flt _), .c (.eptr ..), _, _, hz | .c (.flt _), .c (.vptr ..), _, _, hz | .c (.flt _), .c (.gptr ..), _, _, hz | .c (.flt _), .c (.fn ..), _, _, hz | .c (.flt _), .c (.opq _), _, _, hz | .c (.flt _), .agg _, _, _, hz | .c (.flt _), .tup _, _, _, hz
  | .c (.sl ..), _, _, _, hz | .c .nil, _, _, _, hz | .c (.ref _), _, _, _, hz | .c (.ptr ..), _, _, _, hz | .c (.eptr ..), _, _, _, hz | .c (.vptr ..), _, _, _, hz | .c (.gptr ..), _, _, _, hz | .c (.fn ..), _, _, _, hz
  | .c (.opq _), _, _, _, hz | .agg _, _, _, _, hz | .tup _, _, _, _, hz => exact run_fail hz
end
end Go.Eng
