/-
  The engine, ninth part: append and the other builtins, literals.
-/
import Derived.Test.YtmcmkdiefpepnaaDoorEngH
import Derived.Laws.BytesString
set_option linter.unusedVariables false
set_option linter.unusedSimpArgs false
namespace Go.Eng
section
variable {P : Program} {C : Ctx} {Fr : Fd} {S : St} {o : Oper} {e : Env} {a : Act} {w : World} {r : Res} {F : List Nat}

def RepAs (w : World) (S : St) : List AVal → List Value → Prop
  | [], [] => True
  | x :: xs, v :: vs => RepA w S x v ∧ RepAs w S xs vs
  | _, _ => False
theorem argsA_rep (hI : Inv Fr C.nt S e a w) : ∀ {l : List Operand} {xs : List AVal}, argsA e.t.get l = some xs → RepAs w S xs (l.map a.eval)
  | [], xs, h => by simp only [argsA, Option.some.injEq] at h; subst h; trivial
  | x :: l, xs, h => by
    simp only [argsA] at h
    cases hx : evalA e.t.get x with
    | none => rw [hx] at h; cases h
    | some v =>
      cases hl : argsA e.t.get l with
      | none => rw [hx, hl] at h; cases h
      | some vs =>
        rw [hx, hl] at h
        simp only [Option.some.injEq] at h
        subst h
        exact ⟨evalA_rep hI hx, argsA_rep hI hl⟩

theorem append_ok (hC : C.Ok P) (hI : Inv Fr C.nt S e a w) {d : Nat} {t : TypeId} {s x : AVal} {sv xv : Value} {ty : TypeId} (hs : RepA w S s sv) (hxr : RepA w S x xv)
    (hx : (appendA C d t s x).run e.h.get = some (r, F)) (hw : writesOk e.h F.reverse r = true) :
    ∃ v w' S', (Builtin.append_ #[t, t] ty #[sv, xv]).run P w = .ok v w' ∧ (∀ z, r.v = some z → RepA w' S' z v) ∧ Inv Fr C.nt S' ⟨e.t, setAll r.news (setAll r.ups e.h)⟩ a w' := by
  unfold appendA at hx
  split at hx
  · rename_i te _ _ _ _ _ _ _ hti
    obtain ⟨_, dd, _, hd, hu, _⟩ := under hC hti
    have hd' := UD.of_slice hu.symm
    subst hd'
    cases hte : C.ty te with
    | none => rw [hte] at hx; exact run_fail hx
    | some i =>
      rw [hte] at hx
      simp only at hx
      cases hk : i.kind with
      | none => rw [hk] at hx; exact run_fail hx
      | some k =>
        rw [hk] at hx
        simp only at hx
        cases hb : (Nat.beq k.sz i.size && Nat.blt 0 i.bytes) with
        | false => rw [hb] at hx; exact run_fail hx
        | true =>
          rw [hb] at hx
          simp only [Bool.and_eq_true] at hb
          have hsz := beq_iff.1 hb.1
          have hby : 0 < i.bytes := Nat.le_of_ble_eq_true hb.2
          obtain ⟨info, d', z, h1, h2, h3, h4, h5, h6, h7, h8, h9, h10, _⟩ := (tiOk (hC.ty te i hte)).get
          simp only [cond_true] at hx
          obtain ⟨ys, F1, F2, hys, hx2, hF⟩ := RM.run_bind hx
          obtain ⟨news, n1, n2, n3, n4⟩ := elems_ok hI hxr hys
          -- what the model does
          have model : ∀ (xs : List k.den) (flat : List Value), w.ownsRow 0 te k.sz sv xs.length flat → xs.length + ys.length ≤ maxBytes / i.bytes →
              ∃ v' w', (Builtin.append_ #[t, t] ty #[sv, xv]).run P w = .ok v' w' ∧ w'.ownsRow 0 te k.sz v' (xs.length + ys.length) (flat ++ news) ∧ w.grownBy w' sv.ownBlock ∧ ∀ b, blk v' = some b → blk sv = some b ∨ w.heap.size ≤ b := fun xs flat hown hle => by
            have hmul : (xs.length + ys.length) * info.bytes ≤ 140737488355328 := by
              have := Nat.mul_le_mul_right i.bytes hle
              have h0 := Nat.div_mul_le_self maxBytes i.bytes
              rw [← h6]; unfold maxBytes at *; omega
            have hml : xs.length + ys.length ≤ maxLen := by
              have h0 := Nat.div_le_self maxBytes i.bytes
              have : maxBytes ≤ maxLen := by unfold maxBytes maxLen; omega
              omega
            refine run_append (P := P) (w := w) t ty te info z k.sz info.bytes hd h1 h3 (by omega) rfl (by omega) k.sz_pos sv xs.length flat hown xv ys.length news ?_ n1 hml hmul
            rcases n4 with ⟨rfl, rfl⟩ | ⟨ad, cap, rfl, hc⟩
            · exact .inl ⟨rfl, rfl, List.eq_nil_of_length_eq_zero (by simpa using n2)⟩
            · exact .inr ⟨ad, cap, rfl, n2, hc⟩
          -- the new list, laid under its name; 'h0': the objects without the old one
          have lay : ∀ (xs : List k.den) (flat : List Value) (h0 : AL Obj), Inv Fr C.nt S ⟨e.t, h0⟩ a w → h0.get (nm d 0) = none → w.ownsRow 0 te k.sz sv xs.length flat → (∀ i x, xs[i]? = some x → RepK w S.imm k x fun j => flat[i * k.sz + j]?) → (∀ u ∈ flat, u.oneCell' = true) →
              (∀ b, blk sv = some b → ¬ S.imm b ∧ (Fr.w0.heap.size ≤ b ∨ Fr.pw b) ∧ ∀ n ob u, h0.get n = some ob → ob.mut = true → S.val n = some u → blk u ≠ some b) →
              xs.length + ys.length ≤ maxBytes / i.bytes →
              ∃ v w' S', (Builtin.append_ #[t, t] ty #[sv, xv]).run P w = .ok v w' ∧ RepA w' S' (.c (.ref (nm d 0))) v ∧ Inv Fr C.nt S' ⟨e.t, h0.set (nm d 0) (.lst te k (xs ++ ys))⟩ a w' := by
            intro xs flat h0 hI0 hnm hown hrep hone hfree hle
            obtain ⟨v', w', hrun, hown', hgr, hblk⟩ := model xs flat hown hle
            have hob : ∀ b, sv.ownBlock = some b ↔ blk sv = some b := fun b => by
              rcases hown.2 with ⟨rfl, _⟩ | ⟨g, cap, cur, rfl, _⟩ <;> simp [Value.ownBlock, blk]
            have hI1 : Inv Fr C.nt S ⟨e.t, h0⟩ a w' := hI0.world (fun b => blk sv = some b) hfree (fun b hb hnb => hgr.block b hb (fun hc => hnb ((hob b).1 hc.symm))) hgr.size hgr.os hgr.tape hgr.output
            have hkeep : Keeps S.imm w w' := fun b hb => hgr.block b (hI0.imm b hb).1 (fun hc => (hfree b ((hob b).1 hc.symm)).1 hb)
            have hle' : S.le (S.bind (nm d 0) v') := St.le_bind (.inl (hI0.news _ hnm))
            have hval : (S.bind (nm d 0) v').val (nm d 0) = some v' := by simp [St.bind]
            have hone' : v'.oneCell' = true := by rcases hown'.2 with ⟨rfl, _⟩ | ⟨g, cap, cur, rfl, _⟩ <;> rfl
            refine ⟨v', w', S.bind (nm d 0) v', hrun, ⟨⟨hval, hone'⟩, hone'⟩, ?_⟩
            refine hI1.set (.inl (hI0.news _ hnm)) ⟨v', flat ++ news, hval, by rw [List.length_append]; exact hown', fun j y hj => ?_, fun u hu => (List.mem_append.1 hu).elim (hone u) (n1 u)⟩ fun b _ hb => ?_
            · have hfl := hown.1
              rw [List.getElem?_append] at hj
              split at hj
              · rename_i hlt
                refine (hrep j y hj).keep hkeep (fun _ h => h) (fun c hc => ?_)
                have hm : (j + 1) * k.sz ≤ xs.length * k.sz := Nat.mul_le_mul_right _ hlt
                rw [Nat.add_mul, Nat.one_mul] at hm
                rw [List.getElem?_append_left (by omega)]
              · rename_i hge
                refine (n3 _ y hj).keep hkeep (fun _ h => h) (fun c hc => ?_)
                have hm : xs.length * k.sz ≤ j * k.sz := Nat.mul_le_mul_right _ (by omega)
                rw [List.getElem?_append_right (by omega), hfl, Nat.sub_mul]
                congr 1; omega
            · rcases hblk b hb with hb' | hb'
              · have hf := hfree b hb'
                exact ⟨hf.1, hf.2.1, fun m p u _ hp hm hu => hf.2.2 m p u hp hm hu⟩
              · refine ⟨fun hi => by have := (hI0.imm b hi).1; omega, .inl (Nat.le_trans hI0.grow hb'), fun m p u _ hp hm hu hc => ?_⟩
                have hro := hI0.objs m p hp
                cases p with
                | lst t3 k3 xs3 =>
                  obtain ⟨v3, flat3, e1, e2, _⟩ := hro
                  rw [hu] at e1; cases e1
                  rcases e2.2 with ⟨rfl, _⟩ | ⟨g, cap, cur, rfl, _, hg, _⟩
                  · simp [blk] at hc
                  · simp only [blk, Option.some.injEq] at hc
                    have := (Array.getElem?_eq_some_iff.1 hg).1; omega
                | box t3 cs3 =>
                  obtain ⟨b3, vs3, e1, e2, _⟩ := hro
                  rw [hu] at e1; cases e1
                  simp only [blk, Option.some.injEq] at hc
                  have := (Array.getElem?_eq_some_iff.1 e2).1; omega
                | _ => cases hm
          clear hx
          match s, hs, hx2 with
          | .c .nil, hs, hx =>
            obtain ⟨h1', hx⟩ := RM.run_asks hx
            obtain ⟨rfl, rfl⟩ := run_ret hx
            have hev : sv = .slice none 0 0 := hs.1
            subst hev
            simp only [writesOk, List.all_nil, Bool.true_and] at hw
            obtain ⟨v, w', S', r1, r2, r3⟩ := lay [] [] e.h hI (has_none hw) (World.ownsRow_nil w 0 te k.sz) (fun i x hi => by simp at hi) (fun u hu => by cases hu) (fun b hb => by cases hb) (of_decide_eq_true h1')
            exact ⟨v, w', S', r1, fun z hz => by cases hz; exact r2, r3⟩
          | .c (.ref n), hs, hx =>
            obtain ⟨ob, F', hn, hy, hF'⟩ := RM.run_look hx
            cases ob with
            | lst te' k' xs =>
              simp only at hy
              cases hee : Nat.beq te te' with
              | false => rw [hee] at hy; exact run_fail hy
              | true =>
                rw [hee] at hy
                have := beq_iff.1 hee
                subst this
                simp only [cond_true] at hy
                split at hy
                · rename_i hkk
                  subst hkk
                  obtain ⟨h1', hy⟩ := RM.run_asks hy
                  obtain ⟨rfl, rfl⟩ := run_ret hy
                  obtain ⟨v', flat, hvv, e2, e3, e4⟩ := hI.objs n _ hn
                  rw [hs.1.1] at hvv; cases hvv
                  have hnm : (e.h.set n .dead).get (nm d 0) = none := by
                    simp only [writesOk, Bool.and_eq_true] at hw
                    have h9 := has_none hw.2
                    rw [AL.get_set, if_neg (fun hc => by rw [hc] at h9; rw [hn] at h9; cases h9)]
                    exact h9
                  obtain ⟨v, w', S', r1, r2, r3⟩ := lay xs flat (e.h.set n .dead) (hI.kill hn) hnm e2 e3 e4 (fun b hb => by
                    have hwr := hI.wr n _ sv b hn rfl hs.1.1 hb
                    refine ⟨hwr.1, hwr.2, fun m p u hp hm hu hc => ?_⟩
                    rw [AL.get_set] at hp
                    split at hp
                    · cases hp; cases hm
                    · rename_i hmn; exact hI.dis m n p _ u sv b hmn hp hn hm rfl hu hs.1.1 hc hb) (of_decide_eq_true h1')
                  exact ⟨v, w', S', r1, fun z hz => by cases hz; exact r2, r3⟩
                · exact run_fail hy
            | _ => exact run_fail hy
          | .c (.int ..), _, hx | .c (.bool _), _, hx | .c (.str _), _, hx | .c (.flt _), _, hx | .c (.sl ..), _, hx | .c (.ptr ..), _, hx | .c (.eptr ..), _, hx | .c (.vptr ..), _, hx | .c (.gptr ..), _, hx
          | .c (.fn ..), _, hx | .c (.opq _), _, hx | .agg _, _, hx | .tup _, _, hx => exact run_fail hx
  · exact run_fail hx

theorem did_conv (hC : C.Ok P) (hI : Inv Fr C.nt S e a w) {s t : TypeId} {x : Operand} (ho : o.op = .convert s t x) (hx : (effA C e.t.get o.dst o.op).run e.h.get = some (r, F)) : Did P Fr C.nt o e a w r := by
  rw [ho] at hx
  simp only [effA] at hx
  obtain ⟨v, hv, hx⟩ := un_inv hx
  have hr := evalA_rep hI hv
  unfold convA at hx
  cases hs : C.ty s with
  | none => rw [hs] at hx; exact run_fail hx
  | some i =>
    cases ht : C.ty t with
    | none => rw [hs, ht] at hx; exact run_fail hx
    | some j =>
      rw [hs, ht] at hx
      obtain ⟨_, d, _, hd, hus, _⟩ := under hC hs
      obtain ⟨_, d', _, hd', hu', _⟩ := under hC ht
      obtain ⟨ju, js, jb, jz, ja, jk, jf⟩ := j
      cases ju with
      | flt =>
        have hd2 := UD.of_flt hu'.symm
        subst hd2
        match v, hr, hx with
        | .c (.int k' n), hr, hx =>
          obtain ⟨rfl, rfl⟩ := run_ret hx
          have : a.eval x = .int k' n := hr.1
          exact did_pure hI (v := .float .f64 (FloatKind.f64.nearest n)) (by cases d <;> simp [execOp, ho, this, convert, run_underlying hd, run_underlying hd', Conv.intToFloat]) ⟨⟨_, rfl, rfl⟩, rfl⟩
        | .c (.flt n), hr, hx =>
          obtain ⟨rfl, rfl⟩ := run_ret hx
          obtain ⟨⟨b, hb, rfl⟩, _⟩ := hr
          exact did_pure hI (v := .float .f64 b) (by cases d <;> simp [execOp, ho, hb, convert, run_underlying hd, run_underlying hd', Conv.floatToFloat]) ⟨⟨_, rfl, rfl⟩, rfl⟩
        | .c (.bool _), _, hx | .c (.str _), _, hx | .c (.sl ..), _, hx | .c .nil, _, hx | .c (.ref _), _, hx | .c (.ptr ..), _, hx | .c (.eptr ..), _, hx | .c (.vptr ..), _, hx | .c (.gptr ..), _, hx
        | .c (.fn ..), _, hx | .c (.opq _), _, hx | .agg _, _, hx | .tup _, _, hx => exact run_fail hx
      | int k =>
        match v, hr, hx with
        | .c (.flt n), hr, hx =>
          obtain ⟨⟨b, hb, rfl⟩, _⟩ := hr
          have hd2 := UD.of_int hu'.symm
          subst hd2
          simp only [RM.run, toInt_canon] at hx
          cases hm : floatToIntVal .f64 b k with
          | none => rw [hm] at hx; cases hx
          | some m =>
            rw [hm] at hx
            obtain ⟨rfl, rfl⟩ := run_ret (h := e.h.get) hx
            exact did_pure hI (v := .int k m) (by simp [execOp, ho, hb, run_convert_float_int w s t .f64 k b m (by rw [hd]; rfl) hd' hm]) ⟨rfl, rfl⟩
        | .c (.int k' n), hr, hx =>
          obtain ⟨rfl, rfl⟩ := run_ret hx
          have : a.eval x = .int k' n := hr.1
          have hd2 := UD.of_int hu'.symm
          subst hd2
          exact did_pure hI (v := .int k (k.wrap n)) (by simp [execOp, ho, this, convert, run_underlying hd, run_underlying hd', Conv.intToInt]) ⟨rfl, rfl⟩
        | .c (.bool _), _, hx | .c (.str _), _, hx | .c (.sl ..), _, hx | .c .nil, _, hx | .c (.ref _), _, hx | .c (.ptr ..), _, hx | .c (.eptr ..), _, hx | .c (.vptr ..), _, hx | .c (.gptr ..), _, hx
        | .c (.fn ..), _, hx | .c (.opq _), _, hx | .agg _, _, hx | .tup _, _, hx => exact run_fail hx
      | str =>
        have hd2 := UD.of_str hu'.symm
        subst hd2
        by_cases hv1 : ∃ n, v = .c (.str n)
        · obtain ⟨n, rfl⟩ := hv1
          obtain ⟨rfl, rfl⟩ := run_ret hx
          have : a.eval x = .string n := hr.1
          exact did_pure hI (v := .string n) (by simp [execOp, ho, this, convert, run_underlying hd, run_underlying hd']) ⟨rfl, rfl⟩
        · obtain ⟨iu, is, ib, iz, ia, ik, ifs, ieq⟩ := i
          have hx2 : ∃ te, iu = .slice te ∧ (match C.ty te with
              | some { u := .int .u8, .. } => (elemsA (.int .u8) v).bind fun xs => okC (.str (bytesOf xs))
              | _ => (.fail : RM Res)).run e.h.get = some (r, F) := by
            cases iu with
            | slice te =>
              refine ⟨te, rfl, ?_⟩
              match v, hv1, hx with
              | .c (.str n), hv1, _ => exact absurd ⟨n, rfl⟩ hv1
              | .c (.int ..), _, hx | .c (.bool _), _, hx | .c (.flt _), _, hx | .c (.sl ..), _, hx | .c .nil, _, hx | .c (.ref _), _, hx | .c (.ptr ..), _, hx | .c (.eptr ..), _, hx | .c (.vptr ..), _, hx | .c (.gptr ..), _, hx
              | .c (.fn ..), _, hx | .c (.opq _), _, hx | .agg _, _, hx | .tup _, _, hx => exact hx
            | _ =>
              match v, hv1, hx with
              | .c (.str n), hv1, _ => exact absurd ⟨n, rfl⟩ hv1
              | .c (.int ..), _, hx | .c (.bool _), _, hx | .c (.flt _), _, hx | .c (.sl ..), _, hx | .c .nil, _, hx | .c (.ref _), _, hx | .c (.ptr ..), _, hx | .c (.eptr ..), _, hx | .c (.vptr ..), _, hx | .c (.gptr ..), _, hx
              | .c (.fn ..), _, hx | .c (.opq _), _, hx | .agg _, _, hx | .tup _, _, hx => exact run_fail hx
          obtain ⟨te, rfl, hx2⟩ := hx2
          split at hx2
          · rename_i hte
            obtain ⟨_, d3, _, hd3, hu3, _⟩ := under hC hte
            have hd3' := UD.of_int hu3.symm
            subst hd3'
            have hds := UD.of_slice hus.symm
            subst hds
            obtain ⟨ys, F1, F2, e1, e2, _⟩ := RM.run_bind hx2
            obtain ⟨rfl, _⟩ := run_ret e2
            obtain ⟨news, n1, n2, n3, n4⟩ := elems_ok hI hr e1
            refine did_pure hI (v := .string (bytesOf ys)) ?_ ⟨rfl, rfl⟩
            have hcells : news = ys.map (Value.int .u8) := by
              apply List.ext_getElem?
              intro j
              rw [List.getElem?_map]
              cases hy : ys[j]? with
              | none =>
                rw [List.getElem?_eq_none_iff] at hy
                rw [List.getElem?_eq_none (by rw [n2]; simp [Kind.sz]; omega)]; rfl
              | some y =>
                have := n3 j y hy
                simp only [RepK, Kind.sz, Nat.mul_one, Nat.add_zero] at this
                rw [this]; rfl
            have hb : (convert s t (a.eval x)).run P w = .ok (.string (bytesOf ys)) w := by
              rcases n4 with ⟨h1, rfl⟩ | ⟨ad, cap, h1, hc⟩
              · rw [h1, run_convert_bytes_string w s t te none 0 0 hd hd3 hd']; rfl
              · rw [h1, run_convert_bytes_string w s t te (some ad) _ cap hd hd3 hd']
                have hl := run_loadCells_list (P := P) w ad news (fun j u hj => hc j u hj)
                rw [n2, show (Kind.int .u8).sz = 1 from rfl, Nat.mul_one, hcells] at hl
                rw [run_bytesToString w ad ys.length cap ys hl]
                congr 2
                have fp : ∀ (l : List Int) (r : ByteArray), l.foldl (fun r n => r.push (UInt8.ofNat n.toNat)) r = ⟨r.data ++ (l.map fun n => UInt8.ofNat n.toNat).toArray⟩ := by
                  intro l
                  induction l with
                  | nil => intro r; simp
                  | cons n l ih => intro r; simp only [List.foldl_cons, ih]; simp [ByteArray.push]
                rw [fp]
                simp [bytesOf]
            unfold execOp; rw [ho]; simp only [Sem.run_bind, hb]; rfl
          · exact run_fail hx2
      | _ => exact run_fail hx


theorem did_builtin (hC : C.Ok P) (hI : Inv Fr C.nt S e a w) {c : Call} {b : Builtin} {xs : List AVal} (ho : o.op = .call c) (hcb : c.callee = .builtin b) (hxs : argsA e.t.get c.args.toList = some xs)
    (hx : (builtinA C (o.dst.getD 0) b c.argTypes.toList xs).run e.h.get = some (r, F)) (hw : writesOk e.h F.reverse r = true) : Did P Fr C.nt o e a w r := by
  have hrs := argsA_rep hI hxs
  have hrun : ∀ {v : Value} {w' : World}, (∀ cs, (builtin b c.argTypes o.type cs (c.args.map a.eval)).run P w = .ok (.value v) w') → (execOp a.eval o).run P w = .ok (.value v) w' := fun {v w'} h => by
    have e1 : ∃ cs, resolve a.eval c o.type = pure { target := .builtin b c.argTypes o.type cs, args := c.args.map a.eval } := by unfold resolve; rw [hcb]; exact ⟨_, rfl⟩
    obtain ⟨cs, e1⟩ := e1
    unfold execOp; rw [ho]; show Sem.run P (resolve a.eval c o.type >>= fun d => invoke d.target d.args) w = _
    rw [e1]; exact h cs
  have hargs : c.args.map a.eval = (c.args.toList.map a.eval).toArray := by rw [← Array.toList_map, Array.toArray_toList]
  unfold builtinA at hx
  split at hx
  · rename_i t ts x hts
    obtain ⟨y, F1, F2, h1, h2, _⟩ := RM.run_bind hx
    obtain ⟨rfl, rfl⟩ := run_ret h2
    match hl : c.args.toList.map a.eval, hrs with
    | [v], hrs =>
      obtain ⟨u, hu, hur⟩ := len_ok (P := P) hC hI (ts := ts) (ty := o.type) hrs.1 h1
      refine did_pure hI (hrun fun cs => ?_) hur
      have hts' : c.argTypes = (t :: ts).toArray := by rw [← hts]
      simp only [builtin, Sem.run_bind, hargs, hl, hts']
      rw [hu]; rfl
    | [], hrs => exact hrs.elim
    | _ :: _ :: _, hrs => exact hrs.2.elim
  · rename_i t t' ts s x hts
    cases hb : Nat.beq t t' with
    | false => rw [hb] at hx; exact run_fail hx
    | true =>
      rw [hb] at hx
      have := beq_iff.1 hb
      subst this
      simp only [cond_true] at hx
      match hl : c.args.toList.map a.eval, hrs with
      | [sv, xv], hrs =>
        obtain ⟨v, w', S', h1, h2, h3⟩ := append_ok (P := P) (ty := o.type) hC hI hrs.1 hrs.2.1 hx hw
        refine did_value (hrun fun cs => ?_) h2 h3
        have happ : (Builtin.append_ c.argTypes o.type #[sv, xv]).run P w = .ok v w' := by
          have hts' : c.argTypes = (t :: t :: ts).toArray := by rw [← hts]
          rw [hts', ← h1]
          simp [Builtin.append_]
        simp only [builtin, Sem.run_bind, hargs, hl]
        rw [happ]; rfl
      | [], hrs => exact hrs.elim
      | [_], hrs => exact hrs.2.elim
      | _ :: _ :: _ :: _, hrs => exact hrs.2.2.elim
  · rename_i ts k m k' n
    cases hk : sameI k k' with
    | false => rw [hk] at hx; exact run_fail hx
    | true =>
      rw [hk] at hx
      obtain ⟨rfl, rfl⟩ := run_ret hx
      match hl : c.args.toList.map a.eval, hrs with
      | [v, u], hrs =>
        have hv : v = .int k m := hrs.1.1
        have hu : u = .int k' n := hrs.2.1.1
        refine did_pure hI (hrun (v := .int k (if n > m then n else m)) fun cs => ?_) ⟨rfl, rfl⟩
        simp only [builtin, Sem.run_bind, hargs, hl, hv, hu, run_max_int2]; rfl
      | [], hrs => exact hrs.elim
      | [_], hrs => exact hrs.2.elim
      | _ :: _ :: _ :: _, hrs => exact hrs.2.2.elim
  · rename_i ts k m k' n
    cases hk : sameI k k' with
    | false => rw [hk] at hx; exact run_fail hx
    | true =>
      rw [hk] at hx
      obtain ⟨rfl, rfl⟩ := run_ret hx
      match hl : c.args.toList.map a.eval, hrs with
      | [v, u], hrs =>
        have hv : v = .int k m := hrs.1.1
        have hu : u = .int k' n := hrs.2.1.1
        refine did_pure hI (hrun (v := .int k (if n < m then n else m)) fun cs => ?_) ⟨rfl, rfl⟩
        simp only [builtin, Sem.run_bind, hargs, hl, hv, hu, run_min_int2]; rfl
      | [], hrs => exact hrs.elim
      | [_], hrs => exact hrs.2.elim
      | _ :: _ :: _ :: _, hrs => exact hrs.2.2.elim
  · exact run_fail hx
end
end Go.Eng
