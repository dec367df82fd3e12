/-
  Part of a proof by the engine: texts that a program of ours printed, or plain lemmas on them. No condition but what each theorem says.
-/
import Derived.Test.YtondfjckadlabaaDoorEng2
import Derived.Laws.BytesString
import Derived.Laws.MakeOwn
set_option linter.unusedVariables false
set_option linter.unusedSimpArgs false
namespace Go.Eng
section
variable {P : Program} {C : Ctx} {Fr : Fd} {S : St} {o : Oper} {e : Env} {a : Act} {w : World} {r : Res} {F : List Nat}

def RepAs (w : World) (S : St) : List AVal → List Value → Prop
  | [], [] => True
  | x :: xs, v :: vs => RepA w S x v ∧ RepAs w S xs vs
  | _, _ => False
theorem argsA_rep (hI : Inv Fr C.nt S e a w) : ∀ {l : List Operand} {xs : List AVal}, argsA e.t.get l = some xs → RepAs w S xs (l.map a.eval)
  | [], xs, h => by simp only [argsA, Option.some.injEq] at h; subst h; trivial
  | x :: l, xs, h => by
    simp only [argsA] at h
    cases hx : evalA e.t.get x with
    | none => rw [hx] at h; cases h
    | some v =>
      cases hl : argsA e.t.get l with
      | none => rw [hx, hl] at h; cases h
      | some vs =>
        rw [hx, hl] at h
        simp only [Option.some.injEq] at h
        subst h
        exact ⟨evalA_rep hI hx, argsA_rep hI hl⟩

theorem append_ok (hC : C.Ok P) (hI : Inv Fr C.nt S e a w) {d : Nat} {t : TypeId} {s x : AVal} {sv xv : Value} {ty : TypeId} (hs : RepA w S s sv) (hxr : RepA w S x xv)
    (hx : (appendA C d t s x).run e.h.get = some (r, F)) (hw : writesOk e.h F.reverse r = true) :
    ∃ v w' S', (Builtin.append_ #[t, t] ty #[sv, xv]).run P w = .ok v w' ∧ (∀ z, r.v = some z → RepA w' S' z v) ∧ Inv Fr C.nt S' ⟨e.t, setAll r.news (setAll r.ups e.h)⟩ a w' := by
  unfold appendA at hx
  split at hx
  · rename_i te _ _ _ _ _ _ _ hti
    obtain ⟨_, dd, _, hd, hu, _⟩ := under hC hti
    have hd' := UD.of_slice hu.symm
    subst hd'
    cases hte : C.ty te with
    | none => rw [hte] at hx; exact run_fail hx
    | some i =>
      rw [hte] at hx
      simp only at hx
      cases hk : i.kind with
      | none => rw [hk] at hx; exact run_fail hx
      | some k =>
        rw [hk] at hx
        simp only at hx
        cases hb : (Nat.beq k.sz i.size && Nat.blt 0 i.bytes) with
        | false => rw [hb] at hx; exact run_fail hx
        | true =>
          rw [hb] at hx
          simp only [Bool.and_eq_true] at hb
          have hsz := beq_iff.1 hb.1
          have hby : 0 < i.bytes := Nat.le_of_ble_eq_true hb.2
          obtain ⟨info, d', z, h1, h2, h3, h4, h5, h6, h7, h8, h9, h10, _⟩ := (tiOk (hC.ty te i hte)).get
          simp only [cond_true] at hx
          obtain ⟨ys, F1, F2, hys, hx2, hF⟩ := RM.run_bind hx
          obtain ⟨news, n1, n2, n3, n4⟩ := elems_ok hI hxr hys
          -- what the model does
          have model : ∀ (xs : List k.den) (flat : List Value), w.ownsRow 0 te k.sz sv xs.length flat → xs.length + ys.length ≤ maxBytes / i.bytes →
              ∃ v' w', (Builtin.append_ #[t, t] ty #[sv, xv]).run P w = .ok v' w' ∧ w'.ownsRow 0 te k.sz v' (xs.length + ys.length) (flat ++ news) ∧ w.grownBy w' sv.ownBlock ∧ ∀ b, blk v' = some b → blk sv = some b ∨ w.heap.size ≤ b := fun xs flat hown hle => by
            have hmul : (xs.length + ys.length) * info.bytes ≤ 140737488355328 := by
              have := Nat.mul_le_mul_right i.bytes hle
              have h0 := Nat.div_mul_le_self maxBytes i.bytes
              rw [← h6]; unfold maxBytes at *; omega
            have hml : xs.length + ys.length ≤ maxLen := by
              have h0 := Nat.div_le_self maxBytes i.bytes
              have : maxBytes ≤ maxLen := by unfold maxBytes maxLen; omega
              omega
            refine run_append (P := P) (w := w) t ty te info z k.sz info.bytes hd h1 h3 (by omega) rfl (by omega) k.sz_pos sv xs.length flat hown xv ys.length news ?_ n1 hml hmul
            rcases n4 with ⟨rfl, rfl⟩ | ⟨ad, cap, rfl, hc⟩
            · exact .inl ⟨rfl, rfl, List.eq_nil_of_length_eq_zero (by simpa using n2)⟩
            · exact .inr ⟨ad, cap, rfl, n2, hc⟩
          -- the new list, laid under its name; 'h0': the objects without the old one
          have lay : ∀ (xs : List k.den) (flat : List Value) (h0 : AL Obj), Inv Fr C.nt S ⟨e.t, h0⟩ a w → h0.get (nm d 0) = none → w.ownsRow 0 te k.sz sv xs.length flat → (∀ i x, xs[i]? = some x → RepK w S.imm k x fun j => flat[i * k.sz + j]?) → (∀ u ∈ flat, u.oneCell' = true) →
              (∀ b, blk sv = some b → ¬ S.imm b ∧ (Fr.w0.heap.size ≤ b ∨ Fr.pw b) ∧ ∀ n ob u, h0.get n = some ob → ob.mut = true → S.val n = some u → blk u ≠ some b) →
              xs.length + ys.length ≤ maxBytes / i.bytes →
              ∃ v w' S', (Builtin.append_ #[t, t] ty #[sv, xv]).run P w = .ok v w' ∧ RepA w' S' (.c (.ref (nm d 0))) v ∧ Inv Fr C.nt S' ⟨e.t, h0.set (nm d 0) (.lst te k (xs ++ ys))⟩ a w' := by
            intro xs flat h0 hI0 hnm hown hrep hone hfree hle
            obtain ⟨v', w', hrun, hown', hgr, hblk⟩ := model xs flat hown hle
            have hob : ∀ b, sv.ownBlock = some b ↔ blk sv = some b := fun b => by
              rcases hown.2 with ⟨rfl, _⟩ | ⟨g, cap, cur, rfl, _⟩ <;> simp [Value.ownBlock, blk]
            have hI1 : Inv Fr C.nt S ⟨e.t, h0⟩ a w' := hI0.world (fun b => blk sv = some b) hfree (fun b hb hnb => hgr.block b hb (fun hc => hnb ((hob b).1 hc.symm))) hgr.size hgr.os hgr.tape hgr.output
            have hkeep : Keeps S.imm w w' := fun b hb => hgr.block b (hI0.imm b hb).1 (fun hc => (hfree b ((hob b).1 hc.symm)).1 hb)
            have hle' : S.le (S.bind (nm d 0) v') := St.le_bind (.inl (hI0.news _ hnm))
            have hval : (S.bind (nm d 0) v').val (nm d 0) = some v' := by simp [St.bind]
            have hone' : v'.oneCell' = true := by rcases hown'.2 with ⟨rfl, _⟩ | ⟨g, cap, cur, rfl, _⟩ <;> rfl
            refine ⟨v', w', S.bind (nm d 0) v', hrun, ⟨⟨hval, hone'⟩, hone'⟩, ?_⟩
            refine hI1.set (.inl (hI0.news _ hnm)) ⟨v', flat ++ news, hval, by rw [List.length_append]; exact hown', fun j y hj => ?_, fun u hu => (List.mem_append.1 hu).elim (hone u) (n1 u)⟩ fun b _ hb => ?_
            · have hfl := hown.1
              rw [List.getElem?_append] at hj
              split at hj
              · rename_i hlt
                refine (hrep j y hj).keep hkeep (fun _ h => h) (fun c hc => ?_)
                have hm : (j + 1) * k.sz ≤ xs.length * k.sz := Nat.mul_le_mul_right _ hlt
                rw [Nat.add_mul, Nat.one_mul] at hm
                rw [List.getElem?_append_left (by omega)]
              · rename_i hge
                refine (n3 _ y hj).keep hkeep (fun _ h => h) (fun c hc => ?_)
                have hm : xs.length * k.sz ≤ j * k.sz := Nat.mul_le_mul_right _ (by omega)
                rw [List.getElem?_append_right (by omega), hfl, Nat.sub_mul]
                congr 1; omega
            · rcases hblk b hb with hb' | hb'
              · have hf := hfree b hb'
                exact ⟨hf.1, hf.2.1, fun m p u _ hp hm hu => hf.2.2 m p u hp hm hu⟩
              · refine ⟨fun hi => by have := (hI0.imm b hi).1; omega, .inl (Nat.le_trans hI0.grow hb'), fun m p u _ hp hm hu hc => ?_⟩
                have hro := hI0.objs m p hp
                cases p with
                | lst t3 k3 xs3 =>
                  obtain ⟨v3, flat3, e1, e2, _⟩ := hro
                  rw [hu] at e1; cases e1
                  rcases e2.2 with ⟨rfl, _⟩ | ⟨g, cap, cur, rfl, _, hg, _⟩
                  · simp [blk] at hc
                  · simp only [blk, Option.some.injEq] at hc
                    have := (Array.getElem?_eq_some_iff.1 hg).1; omega
                | box t3 cs3 =>
                  obtain ⟨b3, vs3, e1, e2, _⟩ := hro
                  rw [hu] at e1; cases e1
                  simp only [blk, Option.some.injEq] at hc
                  have := (Array.getElem?_eq_some_iff.1 e2).1; omega
                | map ka kk va vk es =>
                  obtain ⟨b3, en, clock, e1, e2, _⟩ := hro
                  rw [hu] at e1; cases e1
                  simp only [blk, Option.some.injEq] at hc
                  have := (Array.getElem?_eq_some_iff.1 e2).1; omega
                | _ => cases hm
          clear hx
          match s, hs, hx2 with
          | .c .nil, hs, hx =>
            obtain ⟨h1', hx⟩ := RM.run_asks hx
            obtain ⟨rfl, rfl⟩ := run_ret hx
            have hev : sv = .slice none 0 0 := hs.1
            subst hev
            simp only [writesOk, List.all_nil, Bool.true_and] at hw
            obtain ⟨v, w', S', r1, r2, r3⟩ := lay [] [] e.h hI (has_none hw) (World.ownsRow_nil w 0 te k.sz) (fun i x hi => by simp at hi) (fun u hu => by cases hu) (fun b hb => by cases hb) (of_decide_eq_true h1')
            exact ⟨v, w', S', r1, fun z hz => by cases hz; exact r2, r3⟩
          | .c (.ref n), hs, hx =>
            obtain ⟨ob, F', hn, hy, hF'⟩ := RM.run_look hx
            cases ob with
            | lst te' k' xs =>
              simp only at hy
              cases hee : Nat.beq te te' with
              | false => rw [hee] at hy; exact run_fail hy
              | true =>
                rw [hee] at hy
                have := beq_iff.1 hee
                subst this
                simp only [cond_true] at hy
                split at hy
                · rename_i hkk
                  subst hkk
                  obtain ⟨h1', hy⟩ := RM.run_asks hy
                  obtain ⟨rfl, rfl⟩ := run_ret hy
                  obtain ⟨v', flat, hvv, e2, e3, e4⟩ := hI.objs n _ hn
                  rw [hs.1.1] at hvv; cases hvv
                  have hnm : (e.h.set n .dead).get (nm d 0) = none := by
                    simp only [writesOk, Bool.and_eq_true] at hw
                    have h9 := has_none hw.2
                    rw [AL.get_set, if_neg (fun hc => by rw [hc] at h9; rw [hn] at h9; cases h9)]
                    exact h9
                  obtain ⟨v, w', S', r1, r2, r3⟩ := lay xs flat (e.h.set n .dead) (hI.kill hn) hnm e2 e3 e4 (fun b hb => by
                    have hwr := hI.wr n _ sv b hn rfl hs.1.1 hb
                    refine ⟨hwr.1, hwr.2, fun m p u hp hm hu hc => ?_⟩
                    rw [AL.get_set] at hp
                    split at hp
                    · cases hp; cases hm
                    · rename_i hmn; exact hI.dis m n p _ u sv b hmn hp hn hm rfl hu hs.1.1 hc hb) (of_decide_eq_true h1')
                  exact ⟨v, w', S', r1, fun z hz => by cases hz; exact r2, r3⟩
                · exact run_fail hy
            | _ => exact run_fail hy
          | .c (.int ..), _, hx | .c (.bool _), _, hx | .c (.str _), _, hx | .c (.flt _), _, hx | .c (.sl ..), _, hx | .c (.ptr ..), _, hx | .c (.eptr ..), _, hx | .c (.vptr ..), _, hx | .c (.gptr ..), _, hx
          | .c (.fn ..), _, hx | .c (.opq _), _, hx | .agg _, _, hx | .tup _, _, hx => exact run_fail hx
  · exact run_fail hx

theorem did_conv (hC : C.Ok P) (hI : Inv Fr C.nt S e a w) {s t : TypeId} {x : Operand} (ho : o.op = .convert s t x) (hx : (effA C e.t.get o.dst o.op).run e.h.get = some (r, F)) : Did P Fr C.nt o e a w r := by
  rw [ho] at hx
  simp only [effA] at hx
  obtain ⟨v, hv, hx⟩ := un_inv hx
  have hr := evalA_rep hI hv
  unfold convA at hx
  cases hs : C.ty s with
  | none => rw [hs] at hx; exact run_fail hx
  | some i =>
    cases ht : C.ty t with
    | none => rw [hs, ht] at hx; exact run_fail hx
    | some j =>
      rw [hs, ht] at hx
      obtain ⟨_, d, _, hd, hus, _⟩ := under hC hs
      obtain ⟨_, d', _, hd', hu', _⟩ := under hC ht
      obtain ⟨ju, js, jb, jz, ja, jk, jf⟩ := j
      cases ju with
      | flt =>
        have hd2 := UD.of_flt hu'.symm
        subst hd2
        match v, hr, hx with
        | .c (.int k' n), hr, hx =>
          obtain ⟨rfl, rfl⟩ := run_ret hx
          have : a.eval x = .int k' n := hr.1
          exact did_pure hI (v := .float .f64 (FloatKind.f64.nearest n)) (by cases d <;> simp [execOp, ho, this, convert, run_underlying hd, run_underlying hd', Conv.intToFloat]) ⟨⟨_, rfl, rfl⟩, rfl⟩
        | .c (.flt n), hr, hx =>
          obtain ⟨rfl, rfl⟩ := run_ret hx
          obtain ⟨⟨b, hb, rfl⟩, _⟩ := hr
          exact did_pure hI (v := .float .f64 b) (by cases d <;> simp [execOp, ho, hb, convert, run_underlying hd, run_underlying hd', Conv.floatToFloat]) ⟨⟨_, rfl, rfl⟩, rfl⟩
        | .c (.bool _), _, hx | .c (.str _), _, hx | .c (.sl ..), _, hx | .c .nil, _, hx | .c (.ref _), _, hx | .c (.ptr ..), _, hx | .c (.eptr ..), _, hx | .c (.vptr ..), _, hx | .c (.gptr ..), _, hx
        | .c (.fn ..), _, hx | .c (.opq _), _, hx | .agg _, _, hx | .tup _, _, hx => exact run_fail hx
      | int k =>
        match v, hr, hx with
        | .c (.flt n), hr, hx =>
          obtain ⟨⟨b, hb, rfl⟩, _⟩ := hr
          have hd2 := UD.of_int hu'.symm
          subst hd2
          simp only [RM.run, toInt_canon] at hx
          cases hm : floatToIntVal .f64 b k with
          | none => rw [hm] at hx; cases hx
          | some m =>
            rw [hm] at hx
            obtain ⟨rfl, rfl⟩ := run_ret (h := e.h.get) hx
            exact did_pure hI (v := .int k m) (by simp [execOp, ho, hb, run_convert_float_int w s t .f64 k b m (by rw [hd]; rfl) hd' hm]) ⟨rfl, rfl⟩
        | .c (.int k' n), hr, hx =>
          obtain ⟨rfl, rfl⟩ := run_ret hx
          have : a.eval x = .int k' n := hr.1
          have hd2 := UD.of_int hu'.symm
          subst hd2
          exact did_pure hI (v := .int k (k.wrap n)) (by simp [execOp, ho, this, convert, run_underlying hd, run_underlying hd', Conv.intToInt]) ⟨rfl, rfl⟩
        | .c (.bool _), _, hx | .c (.str _), _, hx | .c (.sl ..), _, hx | .c .nil, _, hx | .c (.ref _), _, hx | .c (.ptr ..), _, hx | .c (.eptr ..), _, hx | .c (.vptr ..), _, hx | .c (.gptr ..), _, hx
        | .c (.fn ..), _, hx | .c (.opq _), _, hx | .agg _, _, hx | .tup _, _, hx => exact run_fail hx
      | str =>
        have hd2 := UD.of_str hu'.symm
        subst hd2
        by_cases hv1 : ∃ n, v = .c (.str n)
        · obtain ⟨n, rfl⟩ := hv1
          obtain ⟨rfl, rfl⟩ := run_ret hx
          have : a.eval x = .string n := hr.1
          exact did_pure hI (v := .string n) (by simp [execOp, ho, this, convert, run_underlying hd, run_underlying hd']) ⟨rfl, rfl⟩
        · obtain ⟨iu, is, ib, iz, ia, ik, ifs, ieq⟩ := i
          have hx2 : ∃ te, iu = .slice te ∧ (match C.ty te with
              | some { u := .int .u8, .. } => (elemsA (.int .u8) v).bind fun xs => okC (.str (bytesOf xs))
              | _ => (.fail : RM Res)).run e.h.get = some (r, F) := by
            cases iu with
            | slice te =>
              refine ⟨te, rfl, ?_⟩
              match v, hv1, hx with
              | .c (.str n), hv1, _ => exact absurd ⟨n, rfl⟩ hv1
              | .c (.int ..), _, hx | .c (.bool _), _, hx | .c (.flt _), _, hx | .c (.sl ..), _, hx | .c .nil, _, hx | .c (.ref _), _, hx | .c (.ptr ..), _, hx | .c (.eptr ..), _, hx | .c (.vptr ..), _, hx | .c (.gptr ..), _, hx
              | .c (.fn ..), _, hx | .c (.opq _), _, hx | .agg _, _, hx | .tup _, _, hx => exact hx
            | _ =>
              match v, hv1, hx with
              | .c (.str n), hv1, _ => exact absurd ⟨n, rfl⟩ hv1
              | .c (.int ..), _, hx | .c (.bool _), _, hx | .c (.flt _), _, hx | .c (.sl ..), _, hx | .c .nil, _, hx | .c (.ref _), _, hx | .c (.ptr ..), _, hx | .c (.eptr ..), _, hx | .c (.vptr ..), _, hx | .c (.gptr ..), _, hx
              | .c (.fn ..), _, hx | .c (.opq _), _, hx | .agg _, _, hx | .tup _, _, hx => exact run_fail hx
          obtain ⟨te, rfl, hx2⟩ := hx2
          split at hx2
          · rename_i hte
            obtain ⟨_, d3, _, hd3, hu3, _⟩ := under hC hte
            have hd3' := UD.of_int hu3.symm
            subst hd3'
            have hds := UD.of_slice hus.symm
            subst hds
            obtain ⟨ys, F1, F2, e1, e2, _⟩ := RM.run_bind hx2
            obtain ⟨rfl, _⟩ := run_ret e2
            obtain ⟨news, n1, n2, n3, n4⟩ := elems_ok hI hr e1
            refine did_pure hI (v := .string (bytesOf ys)) ?_ ⟨rfl, rfl⟩
            have hcells : news = ys.map (Value.int .u8) := by
              apply List.ext_getElem?
              intro j
              rw [List.getElem?_map]
              cases hy : ys[j]? with
              | none =>
                rw [List.getElem?_eq_none_iff] at hy
                rw [List.getElem?_eq_none (by rw [n2]; simp [Kind.sz]; omega)]; rfl
              | some y =>
                have := n3 j y hy
                simp only [RepK, Kind.sz, Nat.mul_one, Nat.add_zero] at this
                rw [this]; rfl
            have hb : (convert s t (a.eval x)).run P w = .ok (.string (bytesOf ys)) w := by
              rcases n4 with ⟨h1, rfl⟩ | ⟨ad, cap, h1, hc⟩
              · rw [h1, run_convert_bytes_string w s t te none 0 0 hd hd3 hd']; rfl
              · rw [h1, run_convert_bytes_string w s t te (some ad) _ cap hd hd3 hd']
                have hl := run_loadCells_list (P := P) w ad news (fun j u hj => hc j u hj)
                rw [n2, show (Kind.int .u8).sz = 1 from rfl, Nat.mul_one, hcells] at hl
                rw [run_bytesToString w ad ys.length cap ys hl]
                congr 2
                have fp : ∀ (l : List Int) (r : ByteArray), l.foldl (fun r n => r.push (UInt8.ofNat n.toNat)) r = ⟨r.data ++ (l.map fun n => UInt8.ofNat n.toNat).toArray⟩ := by
                  intro l
                  induction l with
                  | nil => intro r; simp
                  | cons n l ih => intro r; simp only [List.foldl_cons, ih]; simp [ByteArray.push]
                rw [fp]
                simp [bytesOf]
            unfold execOp; rw [ho]; simp only [Sem.run_bind, hb]; rfl
          · exact run_fail hx2
      | _ => exact run_fail hx


theorem did_builtin (hC : C.Ok P) (hI : Inv Fr C.nt S e a w) {c : Call} {b : Builtin} {xs : List AVal} (ho : o.op = .call c) (hcb : c.callee = .builtin b) (hxs : argsA e.t.get c.args.toList = some xs)
    (hx : (builtinA C (o.dst.getD 0) b c.argTypes.toList xs).run e.h.get = some (r, F)) (hw : writesOk e.h F.reverse r = true) : Did P Fr C.nt o e a w r := by
  have hrs := argsA_rep hI hxs
  have hrun : ∀ {v : Value} {w' : World}, (∀ cs, (builtin b c.argTypes o.type cs (c.args.map a.eval)).run P w = .ok (.value v) w') → (execOp a.eval o).run P w = .ok (.value v) w' := fun {v w'} h => by
    have e1 : ∃ cs, resolve a.eval c o.type = pure { target := .builtin b c.argTypes o.type cs, args := c.args.map a.eval } := by unfold resolve; rw [hcb]; exact ⟨_, rfl⟩
    obtain ⟨cs, e1⟩ := e1
    unfold execOp; rw [ho]; show Sem.run P (resolve a.eval c o.type >>= fun d => invoke d.target d.args) w = _
    rw [e1]; exact h cs
  have hargs : c.args.map a.eval = (c.args.toList.map a.eval).toArray := by rw [← Array.toList_map, Array.toArray_toList]
  unfold builtinA at hx
  split at hx
  · rename_i t ts x hts
    obtain ⟨y, F1, F2, h1, h2, _⟩ := RM.run_bind hx
    obtain ⟨rfl, rfl⟩ := run_ret h2
    match hl : c.args.toList.map a.eval, hrs with
    | [v], hrs =>
      obtain ⟨u, hu, hur⟩ := len_ok (P := P) hC hI (ts := ts) (ty := o.type) hrs.1 h1
      refine did_pure hI (hrun fun cs => ?_) hur
      have hts' : c.argTypes = (t :: ts).toArray := by rw [← hts]
      simp only [builtin, Sem.run_bind, hargs, hl, hts']
      rw [hu]; rfl
    | [], hrs => exact hrs.elim
    | _ :: _ :: _, hrs => exact hrs.2.elim
  · rename_i t t' ts s x hts
    cases hb : Nat.beq t t' with
    | false => rw [hb] at hx; exact run_fail hx
    | true =>
      rw [hb] at hx
      have := beq_iff.1 hb
      subst this
      simp only [cond_true] at hx
      match hl : c.args.toList.map a.eval, hrs with
      | [sv, xv], hrs =>
        obtain ⟨v, w', S', h1, h2, h3⟩ := append_ok (P := P) (ty := o.type) hC hI hrs.1 hrs.2.1 hx hw
        refine did_value (hrun fun cs => ?_) h2 h3
        have happ : (Builtin.append_ c.argTypes o.type #[sv, xv]).run P w = .ok v w' := by
          have hts' : c.argTypes = (t :: t :: ts).toArray := by rw [← hts]
          rw [hts', ← h1]
          simp [Builtin.append_]
        simp only [builtin, Sem.run_bind, hargs, hl]
        rw [happ]; rfl
      | [], hrs => exact hrs.elim
      | [_], hrs => exact hrs.2.elim
      | _ :: _ :: _ :: _, hrs => exact hrs.2.2.elim
  · rename_i ts k m k' n
    cases hk : sameI k k' with
    | false => rw [hk] at hx; exact run_fail hx
    | true =>
      rw [hk] at hx
      obtain ⟨rfl, rfl⟩ := run_ret hx
      match hl : c.args.toList.map a.eval, hrs with
      | [v, u], hrs =>
        have hv : v = .int k m := hrs.1.1
        have hu : u = .int k' n := hrs.2.1.1
        refine did_pure hI (hrun (v := .int k (if n > m then n else m)) fun cs => ?_) ⟨rfl, rfl⟩
        simp only [builtin, Sem.run_bind, hargs, hl, hv, hu, run_max_int2]; rfl
      | [], hrs => exact hrs.elim
      | [_], hrs => exact hrs.2.elim
      | _ :: _ :: _ :: _, hrs => exact hrs.2.2.elim
  · rename_i ts k m k' n
    cases hk : sameI k k' with
    | false => rw [hk] at hx; exact run_fail hx
    | true =>
      rw [hk] at hx
      obtain ⟨rfl, rfl⟩ := run_ret hx
      match hl : c.args.toList.map a.eval, hrs with
      | [v, u], hrs =>
        have hv : v = .int k m := hrs.1.1
        have hu : u = .int k' n := hrs.2.1.1
        refine did_pure hI (hrun (v := .int k (if n < m then n else m)) fun cs => ?_) ⟨rfl, rfl⟩
        simp only [builtin, Sem.run_bind, hargs, hl, hv, hu, run_min_int2]; rfl
      | [], hrs => exact hrs.elim
      | [_], hrs => exact hrs.2.elim
      | _ :: _ :: _ :: _, hrs => exact hrs.2.2.elim
  · exact run_fail hx
end
end Go.Eng

namespace Go.Eng
section
variable {P : Program} {C : Ctx} {Fr : Fd} {S : St} {o : Oper} {e : Env} {a : Act} {w : World} {r : Res} {F : List Nat}

theorem foldl_set : ∀ (us : List Value) (k o : Nat) (l : Array Value) (j : Nat), o + k + us.length ≤ l.size →
    ((us.zipIdx k).foldl (fun cs p => cs.setIfInBounds (o + p.2) p.1) l).toList[j]? = (if j < o + k then l.toList[j]? else if j < o + k + us.length then us[j - (o + k)]? else l.toList[j]?) ∧
    ((us.zipIdx k).foldl (fun cs p => cs.setIfInBounds (o + p.2) p.1) l).size = l.size
  | [], k, o, l, j, _ => by
    simp only [List.zipIdx_nil, List.foldl_nil, List.length_nil, Nat.add_zero]
    constructor
    · split <;> rfl
    · trivial
  | u :: us, k, o, l, j, h => by
    simp only [List.length_cons] at h
    have ih := foldl_set us (k + 1) o (l.setIfInBounds (o + k) u) j (by simp; omega)
    simp only [List.zipIdx_cons, List.foldl_cons]
    refine ⟨ih.1.trans ?_, by rw [ih.2]; simp⟩
    rw [Array.toList_setIfInBounds, List.getElem?_set]
    simp only [List.length_cons]
    by_cases h1 : j < o + k
    · rw [if_pos (by omega), if_neg (by omega), if_pos h1]
    · rw [if_neg h1]
      by_cases h2 : j = o + k
      · subst h2
        rw [if_pos (by omega), if_pos rfl, if_pos (by simp; omega), if_pos (by omega)]
        simp
      · rw [if_neg (by omega)]
        by_cases h3 : j < o + k + (us.length + 1)
        · rw [if_pos (by omega), if_pos h3]
          have : j - (o + k) = j - (o + (k + 1)) + 1 := by omega
          rw [this]; simp
        · rw [if_neg (by omega), if_neg (by omega), if_neg h3]

theorem fill_set (us : Array Value) (o : Nat) (vs : List Value) (h : o + us.size ≤ vs.length) :
    us.zipIdx.foldl (fun cs (p : Value × Nat) => cs.setIfInBounds (o + p.2) p.1) vs.toArray = (vs.take o ++ (us.toList ++ vs.drop (o + us.toList.length))).toArray := by
  rw [← Array.foldl_toList, Array.toList_zipIdx]
  apply Array.ext'
  apply List.ext_getElem?
  intro j
  have := foldl_set us.toList 0 o vs.toArray j (by simpa using h)
  rw [this.1]
  simp only [Nat.add_zero]
  rw [splice_get _ _ _ (by omega)]

theorem fill_ok (hI : Inv Fr C.nt S e a w) {fs : List (TypeId × Nat × Nat)} {place : Nat → Option (Nat × Nat)} (hp : ∀ i t p sz, fs[i]? = some (t, p, sz) → place i = some (p, sz)) :
    ∀ {ps : List (Nat × Operand)} {cs cs' : List Cell} {vs : List Value} {h : Nat → Option Obj}, RepL w S cs vs → (fillA fs e.t.get ps cs).run h = some (cs', F) →
      ∃ vs', Instr.fill place vs.toArray (ps.map fun p => (p.1, a.eval p.2)) = some vs'.toArray ∧ RepL w S cs' vs' ∧ vs'.length = vs.length
  | [], cs, cs', vs, h, hr, hx => by
    obtain ⟨rfl, _⟩ := run_ret hx
    exact ⟨vs, rfl, hr, rfl⟩
  | (i, x) :: ps, cs, cs', vs, h, hr, hx => by
    simp only [fillA] at hx
    cases hf : fs[i]? with
    | none => rw [hf] at hx; exact run_fail hx
    | some q =>
      obtain ⟨t, p, sz⟩ := q
      cases hv : evalA e.t.get x with
      | none => rw [hf, hv] at hx; exact run_fail hx
      | some v =>
        rw [hf, hv] at hx
        simp only at hx
        cases hc : v.cells with
        | none => rw [hc] at hx; exact run_fail hx
        | some bc =>
          obtain ⟨b, new⟩ := bc
          rw [hc] at hx
          simp only at hx
          cases hb : (Nat.beq new.length sz && Nat.ble (p + sz) cs.length) with
          | false => rw [hb] at hx; exact run_fail hx
          | true =>
            rw [hb] at hx
            simp only [Bool.and_eq_true] at hb
            have h1 := beq_iff.1 hb.1
            have h2 := Nat.le_of_ble_eq_true hb.2
            have hnew := (AVal.cells_rep (evalA_rep hI hv) hc).1
            have hn := hnew.length
            have hl := hr.length
            have hsz : (a.eval x).cells.size = sz := by rw [← h1, hn]; simp
            have hput := hr.put hnew p
            obtain ⟨vs', e1, e2, e3⟩ := fill_ok hI hp hput hx
            refine ⟨vs', ?_, e2, ?_⟩
            · simp only [List.map_cons, Instr.fill, hp i t p sz hf, hsz]
              rw [if_neg (by simp; omega), fill_set _ _ _ (by omega)]
              exact e1
            · rw [e3]; simp at hn ⊢; omega

theorem mapM_places {P : Program} : ∀ (fs : List Go.Field), (fs.all fun f => (P.info? f.type).isSome) = true → fs.mapM (fun f => (P.info? f.type).map fun i => (f.offset, i.size)) = some (fs.map fun f => (f.offset, P.cellsOf f.type))
  | [], _ => rfl
  | f :: fs, h => by
    simp only [List.all_cons, Bool.and_eq_true] at h
    cases hi : P.info? f.type with
    | none => rw [hi] at h; cases h.1
    | some i => simp [List.mapM_cons, hi, mapM_places fs h.2, Program.cellsOf]

theorem did_build (hC : C.Ok P) (hI : Inv Fr C.nt S e a w) {t : TypeId} {ps : Array (Nat × Operand)} (ho : o.op = .build t ps) (hx : (effA C e.t.get o.dst o.op).run e.h.get = some (r, F)) (hw : writesOk e.h F.reverse r = true) : Did P Fr C.nt o e a w r := by
  rw [ho] at hx
  simp only [effA] at hx
  cases hti : C.ty t with
  | none => rw [hti] at hx; exact run_fail hx
  | some i =>
    rw [hti] at hx
    simp only at hx
    obtain ⟨info, d, z, h1, h2, h3, h4, h5, h6, h7, h8, h9, h10, h11, h12⟩ := (tiOk (hC.ty t i hti)).get
    have fin : (∀ (place : Nat → Option (Nat × Nat)), (∀ j t p sz, i.fields[j]? = some (t, p, sz) → place j = some (p, sz)) → ∀ cells, Instr.fill place z.cells (ps.toList.map fun p => (p.1, a.eval p.2)) = some cells → P.built t (ps.toList.map fun p => (p.1, a.eval p.2)) = some cells → True) → True := fun _ => trivial
    have hps : (ps.map fun (i, x) => (i, a.eval x)).toList = ps.toList.map fun p => (p.1, a.eval p.2) := by simp
    have done : ∀ {cs : List Cell} {vs' : List Value}, r = ⟨some (.agg cs), [], []⟩ → P.built t (ps.toList.map fun p => (p.1, a.eval p.2)) = some vs'.toArray → RepL w S cs vs' → Did P Fr C.nt o e a w r := fun {cs vs'} hr hb hrl => by
      subst hr
      have := run_build (P := P) w t (ps.map fun (i, x) => (i, a.eval x)) vs'.toArray (by rw [hps]; exact hb)
      exact did_pure hI (v := .agg vs'.toArray) (by unfold execOp; rw [ho]; simp only [Sem.run_bind, this]; rfl) ⟨vs', rfl, hrl⟩
    have hz0 : RepL w S i.zero z.cells.toList := by rw [h8]; exact ofValues_rep _ h9
    cases hu : i.u with
    | struct =>
      rw [hu] at hx
      simp only at hx
      obtain ⟨cs, F1, F2, e1, e2, _⟩ := RM.run_bind hx
      obtain ⟨fs, hfs⟩ := UD.of_struct (h4.symm.trans hu)
      subst hfs
      obtain ⟨vs', f1, f2, f3⟩ := fill_ok (place := fun j => ((fs.toList.map fun f => (f.offset, P.cellsOf f.type)).toArray[j]? : Option (Nat × Nat))) hI (fun j t p sz hj => by
        rw [h11] at hj
        simp only [List.getElem?_map] at hj
        cases hg : fs.toList[j]? with
        | none => rw [hg] at hj; cases hj
        | some g => rw [hg] at hj; simp only [Option.map_some, Option.some.injEq, Prod.mk.injEq] at hj; simp [hg]; simp at hg; simp [hg, hj.2.1, hj.2.2]) hz0 e1
      have hb : P.built t (ps.toList.map fun p => (p.1, a.eval p.2)) = some vs'.toArray := by
        unfold Program.built
        simp only [h1, h2, h3, mapM_places fs.toList h12]
        simpa using f1
      cases hk : mem (o.dst.getD 0) C.kp with
      | false =>
        rw [hk] at e2
        obtain ⟨rfl, rfl⟩ := run_ret e2
        exact done rfl hb f2
      | true =>
        rw [hk] at e2
        simp only [cond_true] at e2
        obtain ⟨rfl, rfl⟩ := run_ret e2
        simp only [writesOk, List.all_nil, Bool.true_and] at hw
        obtain ⟨S', I1, R1, n1⟩ := ownNil_ok (qs := []) hI f2 (by rw [List.append_nil]; exact hw)
        have := run_build (P := P) w t (ps.map fun (i, x) => (i, a.eval x)) vs'.toArray (by rw [hps]; exact hb)
        exact did_value (v := .agg vs'.toArray) (S' := S') (by unfold execOp; rw [ho]; simp only [Sem.run_bind, this]; rfl) (fun x hx => by cases hx; exact ⟨vs', rfl, R1⟩) I1
    | array n te =>
      rw [hu] at hx
      simp only at hx
      obtain ⟨cs, F1, F2, e1, e2, _⟩ := RM.run_bind hx
      obtain ⟨rfl, rfl⟩ := run_ret e2
      have hd := UD.of_array (h4.symm.trans hu)
      subst hd
      obtain ⟨ie, hie⟩ := Option.isSome_iff_exists.1 h12
      have hce : P.cellsOf te = ie.size := by simp [Program.cellsOf, hie]
      obtain ⟨vs', f1, f2, f3⟩ := fill_ok (place := fun j => some (j * ie.size, ie.size)) hI (fun j t p sz hj => by
        rw [h11] at hj
        simp only [List.getElem?_map] at hj
        cases hg : (List.range n)[j]? with
        | none => rw [hg] at hj; cases hj
        | some g =>
          have : g = j := by rw [List.getElem?_range] at hg; exact (Option.some.inj hg).symm; exact by have := (List.getElem?_eq_some_iff.1 hg).1; simpa using this
          subst this
          rw [hg] at hj; simp only [Option.map_some, Option.some.injEq, Prod.mk.injEq] at hj; rw [← hj.2.1, ← hj.2.2, hce]) hz0 e1
      refine done rfl ?_ f2
      unfold Program.built
      simp only [h1, h2, h3, hie]
      simpa using f1
    | _ => rw [hu] at hx; exact run_fail hx

/-! ### Slice literals -/
theorem rep_replicate {cs : List Cell} {vs : List Value} (h : RepL w S cs vs) : ∀ n, RepL w S (List.replicate n cs).flatten (List.replicate n vs).flatten
  | 0 => trivial
  | n + 1 => by simp only [List.replicate_succ, List.flatten_cons]; exact h.append (rep_replicate h n)
theorem flatten_get (vs : List Value) (hv : 0 < vs.length) : ∀ (n j : Nat), j < n * vs.length → (List.replicate n vs).flatten[j]? = vs[j % vs.length]?
  | 0, j, h => by omega
  | n + 1, j, h => by
    simp only [List.replicate_succ, List.flatten_cons]
    by_cases hlt : j < vs.length
    · rw [List.getElem?_append_left hlt, Nat.mod_eq_of_lt hlt]
    · rw [List.getElem?_append_right (by omega), flatten_get vs hv n _ (by rw [Nat.add_mul, Nat.one_mul] at h; omega)]
      congr 1
      rw [← Nat.mod_eq_sub_mod (by omega)]
theorem zeros_eq (z : Array Value) (n : Nat) (hz : 0 < z.size) : ((Array.range (n * z.size)).map (z[· % z.size]!)) = ((List.replicate n z.toList).flatten).toArray := by
  apply Array.ext'
  apply List.ext_getElem?
  intro j
  simp only [Array.toList_map, Array.toList_range]
  by_cases hj : j < n * z.size
  · rw [List.getElem?_map, List.getElem?_range hj, flatten_get _ (by simpa using hz) _ _ (by simpa using hj)]
    have : j % z.size < z.size := Nat.mod_lt _ hz
    simp [this]
  · rw [List.getElem?_eq_none (by simp; omega), List.getElem?_eq_none (by simp; omega)]

theorem did_buildSlice (hC : C.Ok P) (hI : Inv Fr C.nt S e a w) {t : TypeId} {len : Nat} {ps : Array (Nat × Operand)} (ho : o.op = .buildSlice t len ps) (hx : (effA C e.t.get o.dst o.op).run e.h.get = some (r, F))
    (hw : writesOk e.h F.reverse r = true) : Did P Fr C.nt o e a w r := by
  rw [ho] at hx
  simp only [effA] at hx
  split at hx
  · rename_i te _ _ _ _ _ _ _ hti
    obtain ⟨_, dd, _, hd, hu, _⟩ := under hC hti
    have hd' := UD.of_slice hu.symm
    subst hd'
    cases hte : C.ty te with
    | none => rw [hte] at hx; exact run_fail hx
    | some i =>
      rw [hte] at hx
      simp only at hx
      cases hk : i.kind with
      | none => rw [hk] at hx; exact run_fail hx
      | some k =>
        rw [hk] at hx
        simp only at hx
        cases hb : (Nat.beq k.sz i.size && Nat.ble (len * i.size) 16777216) with
        | false => rw [hb] at hx; exact run_fail hx
        | true =>
          rw [hb] at hx
          simp only [Bool.and_eq_true] at hb
          have hsz := beq_iff.1 hb.1
          have hfit := Nat.le_of_ble_eq_true hb.2
          have hpos := k.sz_pos
          simp only [cond_true] at hx
          obtain ⟨z, z1, z2, z3, z4⟩ := run_zero (P := P) (w := w) (tiOk (hC.ty te i hte))
          obtain ⟨cs, F1, F2, e1, e2, hF⟩ := RM.run_bind hx
          obtain ⟨⟨nw, ups⟩, F3, F4, e3, e4, hF2⟩ := RM.run_bind e2
          have hrep0 : RepL w S (List.replicate len i.zero).flatten (List.replicate len z.cells.toList).flatten := rep_replicate (by rw [z2]; exact ofValues_rep _ z3) len
          obtain ⟨vs', f1, f2, f3⟩ := fill_ok (place := fun j => some (j * i.size, i.size)) hI (fun j t' p sz hj => by
            simp only [places, List.getElem?_map] at hj
            cases hg : (List.range len)[j]? with
            | none => rw [hg] at hj; cases hj
            | some g =>
              have : g = j := by rw [List.getElem?_range] at hg; exact (Option.some.inj hg).symm; exact by have := (List.getElem?_eq_some_iff.1 hg).1; simpa using this
              subst this
              rw [hg] at hj; simp only [Option.map_some, Option.some.injEq, Prod.mk.injEq] at hj; rw [← hj.2.1, ← hj.2.2]) hrep0 e1
          obtain ⟨S1, l1, I1, fz1, r1⟩ := valL_rep (h0 := e.h) (h := e.h) hI (Fz.refl _) f2 e3
          cases hpn : projN k len nw with
          | none => simp only [hpn] at e4; exact run_fail e4
          | some xs =>
            simp only [hpn] at e4
            obtain ⟨rfl, _⟩ := run_ret e4
            obtain ⟨p1, p2, p3⟩ := projN_rep r1 hpn
            have hps : (ps.map fun (i, x) => (i, a.eval x)).toList = ps.toList.map fun p => (p.1, a.eval p.2) := by simp
            -- the model
            have hrun : (execOp a.eval o).run P w = .ok (.value (.slice (some ⟨w.heap.size, 0, none⟩) len len)) (w.alloc (.cells vs'.toArray te)) := by
              have hbs : (Instr.buildSlice t len (ps.map fun (i, x) => (i, a.eval x))).run P w = .ok (.slice (some ⟨w.heap.size, 0, none⟩) len len) (w.alloc (.cells vs'.toArray te)) := by
                have hzs : z.cells.size = i.size := z4
                have hze : ((Array.range (len * i.size)).map (z.cells[· % z.cells.size]!)) = ((List.replicate len z.cells.toList).flatten).toArray := by rw [← hzs]; exact zeros_eq _ _ (by omega)
                simp only [Instr.buildSlice, Sem.run_bind, run_underlying hd, Result.andThen_ok, run_size (tiOk (hC.ty te i hte))]
                rw [if_neg (by omega)]
                by_cases h0 : len * i.size = 0
                · have hl0 : len = 0 := by
                    rcases Nat.mul_eq_zero.1 h0 with h | h
                    · exact h
                    · omega
                  subst hl0
                  simp only [Nat.zero_mul, if_true, Sem.run_pure, Result.andThen_ok, hps]
                  have hf1 : Instr.fill (fun j => some (j * i.size, i.size)) ((Array.range 0).map fun x => (#[] : Array Value)[x % (#[] : Array Value).size]!) (ps.toList.map fun p => (p.1, a.eval p.2)) = some vs'.toArray := by
                    have h00 : ((Array.range 0).map fun x => (#[] : Array Value)[x % (#[] : Array Value).size]!) = #[] := by apply Array.ext'; simp
                    rw [h00]; simpa using f1
                  rw [Sem.run_bind, Sem.run_pure, Result.andThen_ok]
                  rw [hf1]
                  simp [newRow]
                · rw [if_neg h0]
                  simp only [Sem.run_bind, z1, Result.andThen_ok, Sem.run_pure, hps, hze, f1]
                  simp [newRow]
              unfold execOp; rw [ho]; simp only [Sem.run_bind, hbs]; rfl
            have hnm : (setAll ups e.h).get (nm (o.dst.getD 0) 0) = none := by
              simp only [writesOk, Bool.and_eq_true] at hw
              have h9 := has_none hw.2
              rcases fz1 (nm (o.dst.getD 0) 0) with h | ⟨t2, k2, xs2, h, _⟩
              · rw [h]; exact h9
              · rw [h9] at h; cases h
            have hle' : S1.le (S1.bind (nm (o.dst.getD 0) 0) (.slice (some ⟨w.heap.size, 0, none⟩) len len)) := St.le_bind (.inl (I1.news _ hnm))
            have hval : (S1.bind (nm (o.dst.getD 0) 0) (.slice (some ⟨w.heap.size, 0, none⟩) len len)).val (nm (o.dst.getD 0) 0) = some (.slice (some ⟨w.heap.size, 0, none⟩) len len) := by simp [St.bind]
            have hkeep : Keeps S1.imm w (w.alloc (.cells vs'.toArray te)) := fun b hb => heap_alloc_old w _ b (I1.imm b hb).1
            have hsl : vs'.length = len * k.sz := by rw [p2]
            have hml : len ≤ maxLen := by
              have : len * 1 ≤ len * i.size := Nat.mul_le_mul_left _ (by omega)
              unfold maxLen; omega
            refine did_value hrun (S' := S1.bind (nm (o.dst.getD 0) 0) (.slice (some ⟨w.heap.size, 0, none⟩) len len)) (fun x hx => ?_) ?_
            · cases hx; exact ⟨⟨hval, rfl⟩, rfl⟩
            · refine I1.new hnm rfl ⟨_, vs', hval, ?_, fun i x hi => (p3 i x hi).keep hkeep (fun _ h => h) (fun _ _ => rfl), f2.ones⟩
              have := World.ownsRow_lit (base := 0) (e := te) (size := k.sz) w vs'.toArray len (Nat.zero_le _) hml (by simpa using hsl)
              rw [p1]; simpa using this
  · exact run_fail hx

theorem flatten_take {α : Type} (l : List α) : ∀ (n m : Nat), n ≤ m → ((List.replicate m l).flatten).take (n * l.length) = (List.replicate n l).flatten
  | 0, m, _ => by simp
  | n + 1, 0, h => by omega
  | n + 1, m + 1, h => by
    simp only [List.replicate_succ, List.flatten_cons]
    rw [Nat.add_mul, Nat.one_mul, Nat.add_comm, List.take_append]
    simp only [Nat.add_sub_cancel_left]
    rw [flatten_take l n m (by omega), List.take_of_length_le (by omega)]

theorem did_makeSlice (hC : C.Ok P) (hI : Inv Fr C.nt S e a w) {t : TypeId} {x y : Operand} (ho : o.op = .makeSlice t x y) (hx : (effA C e.t.get o.dst o.op).run e.h.get = some (r, F))
    (hw : writesOk e.h F.reverse r = true) : Did P Fr C.nt o e a w r := by
  rw [ho] at hx
  simp only [effA] at hx
  obtain ⟨p, q, hp, hq, hx⟩ := bi_inv hx
  have hpr := evalA_rep hI hp
  have hqr := evalA_rep hI hq
  unfold makeA at hx
  split at hx
  · rename_i te _ _ _ _ _ _ _ kl l kc c hti
    obtain ⟨_, dd, _, hd, hu, _⟩ := under hC hti
    have hd' := UD.of_slice hu.symm
    subst hd'
    cases hte : C.ty te with
    | none => rw [hte] at hx; exact run_fail hx
    | some i =>
      rw [hte] at hx
      simp only at hx
      cases hk : i.kind with
      | none => rw [hk] at hx; exact run_fail hx
      | some k =>
        rw [hk] at hx
        simp only at hx
        cases hb : (Nat.beq k.sz i.size && Nat.blt 0 i.bytes) with
        | false => rw [hb] at hx; exact run_fail hx
        | true =>
          rw [hb] at hx
          simp only [Bool.and_eq_true] at hb
          have hsz := beq_iff.1 hb.1
          have hby : 0 < i.bytes := Nat.le_of_ble_eq_true hb.2
          have hpos := k.sz_pos
          simp only [cond_true, RM.run] at hx
          cases hz : proj1 k i.zero with
          | none => rw [hz] at hx; cases hx
          | some z0 =>
            rw [hz] at hx
            obtain ⟨a1, hx⟩ := RM.run_asks hx
            obtain ⟨a2, hx⟩ := RM.run_asks hx
            obtain ⟨a3, hx⟩ := RM.run_asks hx
            obtain ⟨rfl, rfl⟩ := run_ret hx
            have a1 := of_decide_eq_true a1
            have a2 := of_decide_eq_true a2
            have a3 := of_decide_eq_true a3
            obtain ⟨info, d', z, h1, h2, h3, h4, h5, h6, h7, h8, h9, h10, _⟩ := (tiOk (hC.ty te i hte)).get
            have hmul : c.toNat * info.bytes ≤ 140737488355328 := by
              have := Nat.mul_le_mul_right i.bytes a3
              have h0 := Nat.div_mul_le_self maxBytes i.bytes
              rw [← h6]; unfold maxBytes at *; omega
            have hml : c.toNat ≤ maxLen := by
              have h0 := Nat.div_le_self maxBytes i.bytes
              have : maxBytes ≤ maxLen := by unfold maxBytes maxLen; omega
              omega
            have hev : a.eval x = .int kl l := hpr.1
            have hev' : a.eval y = .int kc c := hqr.1
            have hc0 : c = (c.toNat : Int) := by omega
            have hrun := run_make (P := P) w t te info z hd h1 h3 kl kc l c a1 a2 (by rw [hc0, ← Int.natCast_mul, Nat.mul_comm]; omega) (by unfold maxLen at hml; omega)
            have hzr : RepL w S i.zero z.cells.toList := by rw [h8]; exact ofValues_rep _ h9
            obtain ⟨p1, p2⟩ := hzr.proj1 hz
            have hnm := has_none (by simpa [writesOk] using hw)
            let v : Value := .slice (some ⟨w.heap.size, 0, none⟩) l.toNat c.toNat
            have hval : (S.bind (nm (o.dst.getD 0) 0) v).val (nm (o.dst.getD 0) 0) = some v := by simp [St.bind]
            have hkeep : Keeps S.imm w (w.alloc (.cells (madeCells z.cells (c.toNat * info.size)) te)) := fun b hb => heap_alloc_old w _ b (hI.imm b hb).1
            have hze : madeCells z.cells (c.toNat * info.size) = ((List.replicate c.toNat z.cells.toList).flatten).toArray := by
              rw [← h10]; exact zeros_eq _ _ (by omega)
            have hzl : z.cells.toList.length = k.sz := by simp; omega
            refine did_value (v := v) (by unfold execOp; rw [ho]; simp only [hev, hev', Sem.run_bind, hrun]; rfl) (S' := S.bind (nm (o.dst.getD 0) 0) v) (fun x hx => ?_) ?_
            · cases hx; exact ⟨⟨hval, rfl⟩, rfl⟩
            · refine hI.new hnm rfl ⟨v, (List.replicate l.toNat z.cells.toList).flatten, hval, ?_, fun j y hj => ?_, fun u hu => ?_⟩
              · refine ⟨by simp [hzl], .inr ⟨w.heap.size, c.toNat, _, by simp [v], Nat.zero_le _, heap_alloc_new w _, by simp; omega, hml, ?_, ?_⟩⟩
                · rw [size_madeCells]; congr 1; omega
                · rw [hze, List.length_replicate, ← hzl]
                  exact flatten_take _ _ _ (by omega)
              · have hlt : j < l.toNat := by have := (List.getElem?_eq_some_iff.1 hj).1; simpa using this
                have hy : y = z0 := by
                  have := List.mem_of_getElem? hj
                  exact List.eq_of_mem_replicate this
                subst hy
                refine p1.keep hkeep (fun _ h => h) fun c' hc' => ?_
                rw [flatten_get _ (by omega) _ _ (by
                  rw [hzl]
                  have : (j + 1) * k.sz ≤ l.toNat * k.sz := Nat.mul_le_mul_right _ hlt
                  rw [Nat.add_mul, Nat.one_mul] at this; omega), hzl]
                congr 1
                rw [Nat.mul_comm, Nat.mul_add_mod, Nat.mod_eq_of_lt hc']
              · obtain ⟨l', hl', hu'⟩ := List.mem_flatten.1 hu
                rw [List.eq_of_mem_replicate hl'] at hu'
                exact h9 u hu'
  · exact run_fail hx
end
end Go.Eng

namespace Go.Eng

structure FS.le (s s' : FS) : Prop where
  m : ∀ j n, s.nameOf j = some n → s'.nameOf j = some n
  z : ∀ j, j ∈ s.z → j ∈ s'.z
  l : ∀ p, p ∈ s.l → p ∈ s'.l
  d : s'.d = s.d
theorem FS.le.refl (s : FS) : s.le s := ⟨fun _ _ h => h, fun _ h => h, fun _ h => h, rfl⟩
theorem FS.le.trans {a b c : FS} (h : a.le b) (k : b.le c) : a.le c := ⟨fun j n x => k.m j n (h.m j n x), fun j x => k.z j (h.z j x), fun p x => k.l p (h.l p x), k.d.trans h.d⟩

/-- What is tied is tied to one, and what is lent is not tied. -/
structure FS.Ok (h : Nat → Option Obj) (S : St) (s : FS) : Prop where
  val : ∀ j n, s.nameOf j = some n → ∃ v, S.val n = some v
  one : ∀ i j n, i ∉ s.d → j ∉ s.d → s.nameOf i = some n → s.nameOf j = some n → i = j
  lent : ∀ j n ob, j ∉ s.d → s.nameOf j = some n → (n, ob) ∈ s.l → False
  lst : ∀ n ob, (n, ob) ∈ s.l → ∃ t k xs, h n = some (.lst t k xs) ∧ ob = .frz k xs
  z : ∀ j, j ∈ s.z → s.nameOf j = none

/-- S' numbers what S names. -/
structure FS.Sees (s : FS) (S S' : St) : Prop where
  m : ∀ j n, s.nameOf j = some n → S'.val j = S.val n
  z : ∀ j, j ∈ s.z → S'.val j = some (.slice none 0 0)
  l : ∀ n ob v b, (n, ob) ∈ s.l → S.val n = some v → blk v = some b → S'.imm b
  imm : ∀ b, S.imm b → S'.imm b
theorem FS.Sees.of_le {s s' : FS} {S S' : St} (h : s.le s') (k : s'.Sees S S') : s.Sees S S' :=
  ⟨fun j n x => k.m j n (h.m j n x), fun j x => k.z j (h.z j x), fun n ob v b x => k.l n ob v b (h.l _ x), k.imm⟩

section
variable {h : Nat → Option Obj} {S : St} {s s' : FS} {F : List Nat}
theorem named_false {n : Nat} (hn : s.named n = false) : ∀ j, j ∉ s.d → s.nameOf j ≠ some n := by
  unfold FS.named at hn
  unfold FS.nameOf
  have : ∀ (l : List (Nat × Nat)), (l.any fun p => Nat.beq p.2 n && !mem p.1 s.d) = false → ∀ j, j ∉ s.d → AL.get l j ≠ some n := fun l => by
    induction l with
    | nil => intro _ j _ hj; cases hj
    | cons p l ih =>
      intro ha j hd hj
      simp only [List.any_cons, Bool.or_eq_false_iff] at ha
      simp only [AL.get] at hj
      cases hb : Nat.beq j p.1 with
      | true =>
        rw [hb] at hj
        simp only [cond_true, Option.some.injEq] at hj
        have hm : mem p.1 s.d = false := by
          cases hm : mem p.1 s.d with
          | false => rfl
          | true => exact absurd (mem_iff.1 hm) (by rw [← beq_iff.1 hb]; exact hd)
        rw [hj, Nat.beq_refl, hm] at ha; cases ha.1
      | false => rw [hb] at hj; exact ih ha.2 j hd hj
  exact this s.m hn
theorem lent_false {n : Nat} (hn : s.lent n = false) : ∀ ob, (n, ob) ∉ s.l := fun ob hm => by
  unfold FS.lent at hn
  rw [List.any_eq_false] at hn
  exact hn _ hm (Nat.beq_refl n)
theorem tie_ok (hs : s.Ok h S) {j n : Nat} (hv : ∃ v, S.val n = some v) (hx : (s.tie j n).run h = some (s', F)) : s.le s' ∧ s'.Ok h S ∧ s'.nameOf j = some n := by
  unfold FS.tie at hx
  cases hj : s.nameOf j with
  | some n' =>
    rw [hj] at hx
    simp only at hx
    cases hb : Nat.beq n n' with
    | false => rw [hb] at hx; exact run_fail hx
    | true =>
      rw [hb] at hx
      obtain ⟨rfl, _⟩ := run_ret hx
      have := beq_iff.1 hb
      subst this
      exact ⟨FS.le.refl _, hs, hj⟩
  | none =>
    rw [hj] at hx
    simp only at hx
    cases hb : ((!mem j s.d && s.named n) || s.lent n || mem j s.z) with
    | true => rw [hb] at hx; exact run_fail hx
    | false =>
      rw [hb] at hx
      obtain ⟨rfl, _⟩ := run_ret hx
      simp only [Bool.or_eq_false_iff] at hb
      have hnm : j ∉ s.d → s.named n = false := fun hd => by
        have hm : mem j s.d = false := by
          cases hm : mem j s.d with
          | false => rfl
          | true => exact absurd (mem_iff.1 hm) hd
        have := hb.1.1
        rw [hm] at this
        simpa using this
      have hget : ∀ i, FS.nameOf { s with m := (j, n) :: s.m } i = if i = j then some n else s.nameOf i := fun i => by
        simp only [FS.nameOf, AL.get]
        by_cases h1 : i = j
        · subst h1; simp [Nat.beq_refl]
        · have : Nat.beq i j = false := by cases hh : Nat.beq i j with
            | true => exact absurd (beq_iff.1 hh) h1
            | false => rfl
          simp [this, h1]
      refine ⟨⟨fun i m hi => ?_, fun _ h => h, fun _ h => h, rfl⟩, ⟨fun i m hi => ?_, fun i k m di dk hi hk => ?_, fun i m ob di hi hm => ?_, hs.lst, fun i hi => ?_⟩, by rw [hget, if_pos rfl]⟩
      · rw [hget, if_neg (fun hc => by subst hc; rw [hj] at hi; cases hi)]; exact hi
      · rw [hget] at hi
        split at hi
        · cases hi; exact hv
        · exact hs.val i m hi
      · rw [hget] at hi hk
        split at hi
        · rename_i h1; cases hi
          split at hk
          · rename_i h2; rw [h1, h2]
          · exact absurd hk (named_false (hnm (h1 ▸ di)) k dk)
        · split at hk
          · rename_i h2; cases hk; exact absurd hi (named_false (hnm (h2 ▸ dk)) i di)
          · exact hs.one i k m di dk hi hk
      · rw [hget] at hi
        split at hi
        · cases hi; exact lent_false hb.1.2 ob hm
        · exact hs.lent i m ob di hi hm
      · rw [hget]
        split
        · rename_i h1; subst h1
          have := mem_iff.2 hi
          rw [hb.2] at this; cases this
        · exact hs.z i hi
theorem tieNil_ok (hs : s.Ok h S) {j : Nat} (hx : (s.tieNil j).run h = some (s', F)) : s.le s' ∧ s'.Ok h S ∧ j ∈ s'.z := by
  unfold FS.tieNil at hx
  cases hj : s.nameOf j with
  | some n' => rw [hj] at hx; exact run_fail hx
  | none =>
    rw [hj] at hx
    simp only at hx
    cases hb : mem j s.z with
    | true =>
      rw [hb] at hx
      obtain ⟨rfl, _⟩ := run_ret hx
      exact ⟨FS.le.refl _, hs, mem_iff.1 hb⟩
    | false =>
      rw [hb] at hx
      obtain ⟨rfl, _⟩ := run_ret hx
      refine ⟨⟨fun _ _ h => h, fun _ h => List.mem_cons_of_mem _ h, fun _ h => h, rfl⟩, ⟨hs.val, hs.one, hs.lent, hs.lst, fun i hi => ?_⟩, List.mem_cons_self⟩
      rcases List.mem_cons.1 hi with rfl | hi
      · exact hj
      · exact hs.z i hi
theorem lend_ok (hs : s.Ok h S) {n : Nat} {t : TypeId} {k : Kind} {xs : List k.den} (hn : h n = some (.lst t k xs)) (hx : (s.lend n (.frz k xs)).run h = some (s', F)) : s.le s' ∧ s'.Ok h S ∧ (n, .frz k xs) ∈ s'.l := by
  unfold FS.lend at hx
  cases hb : s.named n with
  | true => rw [hb] at hx; exact run_fail hx
  | false =>
    rw [hb] at hx
    obtain ⟨rfl, _⟩ := run_ret hx
    refine ⟨⟨fun _ _ h => h, fun _ h => h, fun _ h => List.mem_cons_of_mem _ h, rfl⟩, ⟨hs.val, hs.one, fun j m ob dj hj hm => ?_, fun m ob hm => ?_, hs.z⟩, List.mem_cons_self⟩
    · rcases List.mem_cons.1 hm with h1 | h1
      · cases h1; exact named_false hb j dj hj
      · exact hs.lent j m ob dj hj h1
    · rcases List.mem_cons.1 hm with h1 | h1
      · cases h1; exact ⟨t, k, xs, hn, rfl⟩
      · exact hs.lst m ob h1
theorem ties_ok {h : Nat → Option Obj} {S : St} : ∀ {js ns : List Nat} {s : FS} {s' : FS} {F : List Nat}, s.Ok h S → (∀ (i n : Nat), ns[i]? = some n → ∃ v, S.val n = some v) → (s.ties js ns).run h = some (s', F) → s.le s' ∧ s'.Ok h S ∧ js.length = ns.length ∧ ∀ (i : Nat) j n, js[i]? = some j → ns[i]? = some n → s'.nameOf j = some n
  | [], [], s, s', F, hs, _, hx => by
    obtain ⟨rfl, _⟩ := run_ret hx
    exact ⟨FS.le.refl _, hs, rfl, fun i j n hj => by simp at hj⟩
  | j :: js, n :: ns, s, s', F, hs, hv, hx => by
    obtain ⟨s1, F1, F2, h1, h2, _⟩ := RM.run_bind hx
    obtain ⟨l1, o1, t1⟩ := tie_ok hs (hv 0 n rfl) h1
    obtain ⟨l2, o2, len, t2⟩ := ties_ok o1 (fun i m hi => hv (i + 1) m (by simpa using hi)) h2
    refine ⟨l1.trans l2, o2, by simp [len], fun i j' n' hj hn => ?_⟩
    cases i with
    | zero => simp at hj hn; subst hj hn; exact l2.m _ _ t1
    | succ i => exact t2 i j' n' (by simpa using hj) (by simpa using hn)
  | [], _ :: _, _, _, _, _, _, hx => run_fail hx
  | _ :: _, [], _, _, _, _, _, hx => run_fail hx
end

section
variable {Fr : Fd} {nt : Nat} {S : St} {e : Env} {a : Act} {w : World} {s s' : FS} {F : List Nat}
theorem fitC_ok (hI : Inv Fr nt S e a w) (hs : s.Ok e.h.get S) {sc : SC} {c : Cell} {v : Value} {x : sc.den} (hr : RepC w S c v) (hx : (fitC sc c s).run e.h.get = some ((x, s'), F)) :
    s.le s' ∧ s'.Ok e.h.get S ∧ ∀ S', s'.Sees S S' → RepC w S' (encC sc x) v := by
  match sc, c, x, hx with
  | .int k, .int k' n, x, hx =>
    simp only [fitC] at hx
    cases hk : sameI k k' with
    | false => rw [hk] at hx; exact run_fail hx
    | true =>
      rw [hk] at hx
      obtain ⟨h1, _⟩ := run_ret hx
      cases h1
      have := sameI_eq hk
      subst this
      exact ⟨FS.le.refl _, hs, fun S' _ => hr⟩
  | .bool, .bool b, x, hx => obtain ⟨h1, _⟩ := run_ret hx; cases h1; exact ⟨FS.le.refl _, hs, fun S' _ => hr⟩
  | .str, .str b, x, hx => obtain ⟨h1, _⟩ := run_ret hx; cases h1; exact ⟨FS.le.refl _, hs, fun S' _ => hr⟩
  | .flt, .flt b, x, hx => obtain ⟨h1, _⟩ := run_ret hx; cases h1; exact ⟨FS.le.refl _, hs, fun S' _ => hr⟩
  | .sl k, .sl k' xs, x, hx =>
    simp only [fitC] at hx
    split at hx
    · rename_i hk
      subst hk
      obtain ⟨h1, _⟩ := run_ret hx; cases h1
      exact ⟨FS.le.refl _, hs, fun S' h' => SlV.keep (fun _ _ => rfl) h'.imm hr⟩
    · exact run_fail hx
  | .sl k, .nil, x, hx =>
    obtain ⟨h1, _⟩ := run_ret hx; cases h1
    have hv : v = .slice none 0 0 := hr
    exact ⟨FS.le.refl _, hs, fun S' h' => ⟨none, 0, 0, congrArg some hv, rfl, Nat.le_refl _, fun _ => rfl, .inl rfl⟩⟩
  | .sl k, .ref n, x, hx =>
    obtain ⟨ob, F', hn, hy, _⟩ := RM.run_look hx
    cases ob with
    | lst t k' xs =>
      simp only at hy
      split at hy
      · rename_i hk
        subst hk
        obtain ⟨s1, F1, F2, h1, h2, _⟩ := RM.run_bind hy
        obtain ⟨h3, _⟩ := run_ret h2; cases h3
        obtain ⟨l1, o1, m1⟩ := lend_ok hs hn h1
        refine ⟨l1, o1, fun S' h' => ?_⟩
        obtain ⟨v', hv', hsl⟩ := (hI.objs n _ hn).frz_of_lst k'.sz_pos
        rw [hr.1] at hv'; cases hv'
        exact SlV.keep (fun _ _ => rfl) (fun b hb => hb.elim (h'.imm b) (h'.l n _ v b m1 hr.1)) hsl
      · exact run_fail hy
    | frz k' xs =>
      simp only at hy
      split at hy
      · rename_i hk
        subst hk
        obtain ⟨h3, _⟩ := run_ret hy; cases h3
        obtain ⟨v', hv', hsl⟩ := hI.objs n _ hn
        rw [hr.1] at hv'; cases hv'
        exact ⟨FS.le.refl _, hs, fun S' h' => SlV.keep (fun _ _ => rfl) h'.imm hsl⟩
      · exact run_fail hy
    | _ => exact run_fail hy
  | .nil, .nil, x, hx => obtain ⟨h1, _⟩ := run_ret hx; cases h1; exact ⟨FS.le.refl _, hs, fun S' _ => hr⟩
  | .ref j, .ref n, x, hx =>
    obtain ⟨s1, F1, F2, h1, h2, _⟩ := RM.run_bind hx
    obtain ⟨h3, _⟩ := run_ret h2; cases h3
    obtain ⟨l1, o1, m1⟩ := tie_ok hs ⟨v, hr.1⟩ h1
    exact ⟨l1, o1, fun S' h' => ⟨(h'.m j n m1).trans hr.1, hr.2⟩⟩
  | .ref j, .nil, x, hx =>
    obtain ⟨s1, F1, F2, h1, h2, _⟩ := RM.run_bind hx
    obtain ⟨h3, _⟩ := run_ret h2; cases h3
    obtain ⟨l1, o1, m1⟩ := tieNil_ok hs h1
    have hv : v = .slice none 0 0 := hr
    exact ⟨l1, o1, fun S' h' => ⟨by rw [hv]; exact h'.z j m1, by rw [hv]; rfl⟩⟩
  | .ptr j o, .ptr n o', x, hx =>
    simp only [fitC] at hx
    cases hb : Nat.beq o o' with
    | false => rw [hb] at hx; exact run_fail hx
    | true =>
      rw [hb] at hx
      have := beq_iff.1 hb
      subst this
      obtain ⟨s1, F1, F2, h1, h2, _⟩ := RM.run_bind hx
      obtain ⟨h3, _⟩ := run_ret h2; cases h3
      obtain ⟨b, hb1, hb2⟩ := hr
      obtain ⟨l1, o1, m1⟩ := tie_ok hs ⟨_, hb1⟩ h1
      exact ⟨l1, o1, fun S' h' => ⟨b, (h'.m j n m1).trans hb1, hb2⟩⟩
  | .gptr g o, .gptr g' o', x, hx =>
    simp only [fitC] at hx
    cases hb : (Nat.beq g g' && Nat.beq o o') with
    | false => rw [hb] at hx; exact run_fail hx
    | true =>
      rw [hb] at hx
      simp only [Bool.and_eq_true] at hb
      have h1 := beq_iff.1 hb.1
      have h2 := beq_iff.1 hb.2
      subst h1 h2
      obtain ⟨h3, _⟩ := run_ret hx; cases h3
      exact ⟨FS.le.refl _, hs, fun S' _ => hr⟩
  | .fn f js, .fn f' ns, x, hx =>
    simp only [fitC] at hx
    cases hb : Nat.beq f f' with
    | false => rw [hb] at hx; exact run_fail hx
    | true =>
      rw [hb] at hx
      have := beq_iff.1 hb
      subst this
      obtain ⟨s1, F1, F2, h1, h2, _⟩ := RM.run_bind hx
      obtain ⟨h3, _⟩ := run_ret h2; cases h3
      obtain ⟨vs, e1, e2, e3⟩ := hr
      obtain ⟨l1, o1, hlen, m1⟩ := ties_ok hs (fun i n hi => let ⟨b, hb, _⟩ := e3 i n hi; ⟨_, hb⟩) h1
      refine ⟨l1, o1, fun S' h' => ⟨vs, e1, e2.trans hlen.symm, fun i j hj => ?_⟩⟩
      have hlt : i < ns.length := by have := (List.getElem?_eq_some_iff.1 hj).1; omega
      obtain ⟨b, hb1, hb2⟩ := e3 i ns[i] (List.getElem?_eq_getElem hlt)
      exact ⟨b, (h'.m j _ (m1 i j _ hj (List.getElem?_eq_getElem hlt))).trans hb1, hb2⟩
  | .nilI, c, x, hx =>
    cases c with
    | opq u =>
      cases u with
      | nilIface =>
        obtain ⟨h3, _⟩ := run_ret hx; cases h3
        exact ⟨FS.le.refl _, hs, fun S' _ => hr⟩
      | _ => exact run_fail hx
    | _ => exact run_fail hx
  | .nilP, c, x, hx =>
    cases c with
    | opq u =>
      cases u with
      | pointer p =>
        cases p with
        | none =>
          obtain ⟨h3, _⟩ := run_ret hx; cases h3
          exact ⟨FS.le.refl _, hs, fun S' _ => hr⟩
        | some _ => exact run_fail hx
      | _ => exact run_fail hx
    | _ => exact run_fail hx
  | .errI, c, x, hx =>
    cases c with
    | opq u =>
      cases u with
      | iface t p =>
        cases p with
        | pointer a =>
          cases a with
          | none =>
            cases t with
            | zero =>
              obtain ⟨h3, _⟩ := run_ret hx; cases h3
              exact ⟨FS.le.refl _, hs, fun S' _ => hr⟩
            | succ _ => exact run_fail hx
          | some _ => cases t <;> exact run_fail hx
        | _ => cases t <;> exact run_fail hx
      | _ => exact run_fail hx
    | _ => exact run_fail hx
  | .int _, .bool _, _, hx | .int _, .str _, _, hx | .int _, .flt _, _, hx | .int _, .sl .., _, hx | .int _, .nil, _, hx | .int _, .ref _, _, hx | .int _, .ptr .., _, hx | .int _, .eptr .., _, hx | .int _, .vptr .., _, hx | .int _, .gptr .., _, hx | .int _, .fn .., _, hx | .int _, .opq _, _, hx => exact run_fail hx
  | .bool, .int .., _, hx | .bool, .str _, _, hx | .bool, .flt _, _, hx | .bool, .sl .., _, hx | .bool, .nil, _, hx | .bool, .ref _, _, hx | .bool, .ptr .., _, hx | .bool, .eptr .., _, hx | .bool, .vptr .., _, hx | .bool, .gptr .., _, hx | .bool, .fn .., _, hx | .bool, .opq _, _, hx => exact run_fail hx
  | .str, .int .., _, hx | .str, .bool _, _, hx | .str, .flt _, _, hx | .str, .sl .., _, hx | .str, .nil, _, hx | .str, .ref _, _, hx | .str, .ptr .., _, hx | .str, .eptr .., _, hx | .str, .vptr .., _, hx | .str, .gptr .., _, hx | .str, .fn .., _, hx | .str, .opq _, _, hx => exact run_fail hx
  | .flt, .int .., _, hx | .flt, .str _, _, hx | .flt, .bool _, _, hx | .flt, .sl .., _, hx | .flt, .nil, _, hx | .flt, .ref _, _, hx | .flt, .ptr .., _, hx | .flt, .eptr .., _, hx | .flt, .vptr .., _, hx | .flt, .gptr .., _, hx | .flt, .fn .., _, hx | .flt, .opq _, _, hx => exact run_fail hx
  | .sl _, .int .., _, hx | .sl _, .str _, _, hx | .sl _, .bool _, _, hx | .sl _, .flt _, _, hx | .sl _, .ptr .., _, hx | .sl _, .eptr .., _, hx | .sl _, .vptr .., _, hx | .sl _, .gptr .., _, hx | .sl _, .fn .., _, hx | .sl _, .opq _, _, hx => exact run_fail hx
  | .nil, .int .., _, hx | .nil, .str _, _, hx | .nil, .bool _, _, hx | .nil, .flt _, _, hx | .nil, .sl .., _, hx | .nil, .ref _, _, hx | .nil, .ptr .., _, hx | .nil, .eptr .., _, hx | .nil, .vptr .., _, hx | .nil, .gptr .., _, hx | .nil, .fn .., _, hx | .nil, .opq _, _, hx => exact run_fail hx
  | .ref _, .int .., _, hx | .ref _, .str _, _, hx | .ref _, .bool _, _, hx | .ref _, .flt _, _, hx | .ref _, .sl .., _, hx | .ref _, .ptr .., _, hx | .ref _, .eptr .., _, hx | .ref _, .vptr .., _, hx | .ref _, .gptr .., _, hx | .ref _, .fn .., _, hx | .ref _, .opq _, _, hx => exact run_fail hx
  | .ptr .., .int .., _, hx | .ptr .., .str _, _, hx | .ptr .., .bool _, _, hx | .ptr .., .flt _, _, hx | .ptr .., .sl .., _, hx | .ptr .., .nil, _, hx | .ptr .., .ref _, _, hx | .ptr .., .eptr .., _, hx | .ptr .., .vptr .., _, hx | .ptr .., .gptr .., _, hx | .ptr .., .fn .., _, hx | .ptr .., .opq _, _, hx => exact run_fail hx
  | .gptr .., .int .., _, hx | .gptr .., .str _, _, hx | .gptr .., .bool _, _, hx | .gptr .., .flt _, _, hx | .gptr .., .sl .., _, hx | .gptr .., .nil, _, hx | .gptr .., .ref _, _, hx | .gptr .., .ptr .., _, hx | .gptr .., .eptr .., _, hx | .gptr .., .vptr .., _, hx | .gptr .., .fn .., _, hx | .gptr .., .opq _, _, hx => exact run_fail hx
  | .fn .., .int .., _, hx | .fn .., .str _, _, hx | .fn .., .bool _, _, hx | .fn .., .flt _, _, hx | .fn .., .sl .., _, hx | .fn .., .nil, _, hx | .fn .., .ref _, _, hx | .fn .., .ptr .., _, hx | .fn .., .eptr .., _, hx | .fn .., .vptr .., _, hx | .fn .., .gptr .., _, hx | .fn .., .opq _, _, hx => exact run_fail hx
theorem fitL_ok (hI : Inv Fr nt S e a w) : ∀ {l : List SC} {cs : List Cell} {vs : List Value} {x : denL l} {s s' : FS} {F : List Nat}, s.Ok e.h.get S → RepL w S cs vs → (fitL l cs s).run e.h.get = some ((x, s'), F) →
    s.le s' ∧ s'.Ok e.h.get S ∧ ∀ S', s'.Sees S S' → RepL w S' (encL l x) vs
  | [], [], [], x, s, s', F, hs, hr, hx => by
    obtain ⟨h1, _⟩ := run_ret hx; cases h1
    exact ⟨FS.le.refl _, hs, fun _ _ => trivial⟩
  | b :: l, c :: cs, v :: vs, x, s, s', F, hs, hr, hx => by
    obtain ⟨⟨y, s1⟩, F1, F2, h1, h2, _⟩ := RM.run_bind hx
    obtain ⟨⟨z, s2⟩, F3, F4, h3, h4, _⟩ := RM.run_bind h2
    obtain ⟨h5, _⟩ := run_ret h4; cases h5
    obtain ⟨l1, o1, r1⟩ := fitC_ok hI hs hr.1 h1
    obtain ⟨l2, o2, r2⟩ := fitL_ok hI o1 hr.2 h3
    exact ⟨l1.trans l2, o2, fun S' h' => ⟨r1 S' (h'.of_le l2), r2 S' h'⟩⟩
  | [], _ :: _, _, _, _, _, _, _, _, hx => run_fail hx
  | _ :: _, [], _, _, _, _, _, _, _, hx => run_fail hx
theorem fitB_ok (hI : Inv Fr nt S e a w) : ∀ {l : List (Bool × List SC)} {cs : List (Bool × List Cell)} {vs : List Value} {x : denB l} {s s' : FS} {F : List Nat}, s.Ok e.h.get S → RepT w S cs vs → (fitB l cs s).run e.h.get = some ((x, s'), F) →
    s.le s' ∧ s'.Ok e.h.get S ∧ ∀ S', s'.Sees S S' → RepT w S' (encB l x) vs
  | [], [], [], x, s, s', F, hs, hr, hx => by
    obtain ⟨h1, _⟩ := run_ret hx; cases h1
    exact ⟨FS.le.refl _, hs, fun _ _ => trivial⟩
  | (b, l0) :: l, (c, cs0) :: cs, v :: vs, x, s, s', F, hs, hr, hx => by
    simp only [fitB] at hx
    cases hb : (b == c) with
    | false => rw [hb] at hx; exact run_fail hx
    | true =>
      rw [hb] at hx
      have : b = c := by simpa using hb
      subst this
      obtain ⟨⟨y, s1⟩, F1, F2, h1, h2, _⟩ := RM.run_bind hx
      obtain ⟨⟨z, s2⟩, F3, F4, h3, h4, _⟩ := RM.run_bind h2
      obtain ⟨h5, _⟩ := run_ret h4; cases h5
      have head : s.le s1 ∧ s1.Ok e.h.get S ∧ ∀ S', s1.Sees S S' → RepB w S' (b, encL l0 y) v := by
        cases b with
        | true =>
          obtain ⟨us, e1, e2⟩ := hr.1
          obtain ⟨l1, o1, r1⟩ := fitL_ok hI hs e2 h1
          exact ⟨l1, o1, fun S' h' => ⟨us, e1, r1 S' h'⟩⟩
        | false =>
          match cs0, hr.1, h1 with
          | [c0], hr1, h1 =>
            obtain ⟨l1, o1, r1⟩ := fitL_ok hI hs (cs := [c0]) (vs := [v]) (show RepL w S [c0] [v] from ⟨hr1.1, trivial⟩) h1
            refine ⟨l1, o1, fun S' h' => ?_⟩
            have := r1 S' h'
            generalize encL l0 y = ds at this
            match ds, this with
            | [d], hd => exact ⟨hd.1, hr1.2⟩
            | [], hd => exact hd.elim
            | _ :: _ :: _, hd => exact hd.2.elim
          | [], hr1, _ => exact hr1.elim
          | _ :: _ :: _, hr1, _ => exact hr1.elim
      obtain ⟨l1, o1, r1⟩ := head
      obtain ⟨l2, o2, r2⟩ := fitB_ok hI o1 hr.2 h3
      exact ⟨l1.trans l2, o2, fun S' h' => ⟨r1 S' (h'.of_le l2), r2 S' h'⟩⟩
  | [], _ :: _, _, _, _, _, _, _, _, hx => run_fail hx
  | _ :: _, [], _, _, _, _, _, _, _, hx => run_fail hx
theorem fitA_ok (hI : Inv Fr nt S e a w) (hs : s.Ok e.h.get S) {sa : SA} {v : AVal} {u : Value} {x : sa.den} (hr : RepA w S v u) (hx : (fitA sa v s).run e.h.get = some ((x, s'), F)) :
    s.le s' ∧ s'.Ok e.h.get S ∧ ∀ S', s'.Sees S S' → RepA w S' (encA sa x) u := by
  match sa, v, hr, x, hx with
  | .c sc, .c c, hr, x, hx =>
    obtain ⟨l1, o1, r1⟩ := fitC_ok hI hs hr.1 hx
    exact ⟨l1, o1, fun S' h' => ⟨r1 S' h', hr.2⟩⟩
  | .agg l, .agg cs, hr, x, hx =>
    obtain ⟨vs, e1, e2⟩ := hr
    obtain ⟨l1, o1, r1⟩ := fitL_ok hI hs e2 hx
    exact ⟨l1, o1, fun S' h' => ⟨vs, e1, r1 S' h'⟩⟩
  | .tup l, .tup cs, hr, x, hx =>
    obtain ⟨vs, e1, e2⟩ := hr
    obtain ⟨l1, o1, r1⟩ := fitB_ok hI hs e2 hx
    exact ⟨l1, o1, fun S' h' => ⟨vs, e1, r1 S' h'⟩⟩
  | .c _, .agg _, _, _, hx | .c _, .tup _, _, _, hx | .agg _, .c _, _, _, hx | .agg _, .tup _, _, _, hx | .tup _, .c _, _, _, hx | .tup _, .agg _, _, _, hx => exact run_fail hx
/-- What stands at places, is what the shape says. -/
theorem fitT_ok (hI : Inv Fr nt S e a w) {get : Nat → Option AVal} {val : Nat → Option Value} (hg : ∀ i v, get i = some v → ∃ u, val i = some u ∧ RepA w S v u) :
    ∀ {l : List (Nat × SA)} {x : denT l} {s s' : FS} {F : List Nat}, s.Ok e.h.get S → (fitT get l s).run e.h.get = some ((x, s'), F) →
    s.le s' ∧ s'.Ok e.h.get S ∧ ∀ S', s'.Sees S S' → ∀ (i p : Nat) (v : AVal), (encT l x)[i]? = some (p, v) → ∃ u, val p = some u ∧ RepA w S' v u
  | [], x, s, s', F, hs, hx => by
    obtain ⟨h1, _⟩ := run_ret hx; cases h1
    exact ⟨FS.le.refl _, hs, fun _ _ i p v hi => by simp [encT] at hi⟩
  | (p, sa) :: l, x, s, s', F, hs, hx => by
    simp only [fitT] at hx
    cases hgp : get p with
    | none => rw [hgp] at hx; exact run_fail hx
    | some v =>
      rw [hgp] at hx
      simp only at hx
      obtain ⟨⟨y, s1⟩, F1, F2, h1, h2, _⟩ := RM.run_bind hx
      obtain ⟨⟨z, s2⟩, F3, F4, h3, h4, _⟩ := RM.run_bind h2
      obtain ⟨h5, _⟩ := run_ret h4; cases h5
      obtain ⟨u, hu, hr⟩ := hg p v hgp
      obtain ⟨l1, o1, r1⟩ := fitA_ok hI hs hr h1
      obtain ⟨l2, o2, r2⟩ := fitT_ok hI hg o1 h3
      refine ⟨l1.trans l2, o2, fun S' h' i q v' hi => ?_⟩
      cases i with
      | zero => simp only [encT, List.getElem?_cons_zero, Option.some.injEq, Prod.mk.injEq] at hi; obtain ⟨rfl, rfl⟩ := hi; exact ⟨u, hu, r1 S' (h'.of_le l2)⟩
      | succ i => exact r2 S' h' i q v' (by simpa [encT] using hi)
theorem fitO_ok (hI : Inv Fr nt S e a w) (hs : s.Ok e.h.get S) {j : Nat} {so : SO} {x : so.den} (hx : (fitO j so s).run e.h.get = some ((x, s'), F)) :
    s.le s' ∧ s'.Ok e.h.get S ∧ (∀ S', s'.Sees S S' → RepO w S' j (encO so x)) ∧ ((encO so x).mut = true → ∀ n, s'.nameOf j = some n → ∃ ob, e.h.get n = some ob ∧ ob.mut = true) ∧ (j ∈ s'.z ∨ ∃ n, s'.nameOf j = some n) := by
  match so, x, hx with
  | .dead, x, hx =>
    simp only [fitO] at hx
    cases hj : s.nameOf j with
    | none => rw [hj] at hx; exact run_fail hx
    | some n =>
      rw [hj] at hx
      obtain ⟨h1, _⟩ := run_ret hx; cases h1
      refine ⟨FS.le.refl _, hs, fun S' h' => ?_, (fun hm => by cases hm), .inr ⟨n, hj⟩⟩
      obtain ⟨v, hv⟩ := hs.val j n hj
      exact ⟨v, (h'.m j n hj).trans hv⟩
  | .lst t k, x, hx =>
    simp only [fitO] at hx
    cases hz : mem j s.z with
    | true =>
      rw [hz] at hx
      obtain ⟨h1, _⟩ := run_ret hx; cases h1
      have hjz := mem_iff.1 hz
      exact ⟨FS.le.refl _, hs, fun S' h' => ⟨_, [], h'.z j hjz, World.ownsRow_nil w 0 t k.sz, (fun i x hi => by simp at hi), (fun u hu => by cases hu)⟩, (fun _ n hn => by rw [hs.z j hjz] at hn; cases hn), .inl hjz⟩
    | false =>
      rw [hz] at hx
      cases hj : s.nameOf j with
      | none => rw [hj] at hx; exact run_fail hx
      | some n =>
        rw [hj] at hx
        simp only [cond_false] at hx
        obtain ⟨ob, F', hn, hy, _⟩ := RM.run_look hx
        cases ob with
        | lst t' k' xs =>
          simp only at hy
          cases ht : Nat.beq t t' with
          | false => rw [ht] at hy; exact run_fail hy
          | true =>
            rw [ht] at hy
            have := beq_iff.1 ht
            subst this
            simp only [cond_true] at hy
            split at hy
            · rename_i hk
              subst hk
              obtain ⟨h1, _⟩ := run_ret hy; cases h1
              refine ⟨FS.le.refl _, hs, fun S' h' => ?_, (fun _ m hm => by rw [hj] at hm; cases hm; exact ⟨_, hn, rfl⟩), .inr ⟨n, hj⟩⟩
              obtain ⟨v, flat, h1, h2, h3, h4⟩ := hI.objs n _ hn
              exact ⟨v, flat, (h'.m j n hj).trans h1, h2, fun i x hi => (h3 i x hi).keep (fun _ _ => rfl) h'.imm (fun _ _ => rfl), h4⟩
            · exact run_fail hy
        | _ => exact run_fail hy
  | .box t l, x, hx =>
    simp only [fitO] at hx
    cases hj : s.nameOf j with
    | none => rw [hj] at hx; exact run_fail hx
    | some n =>
      rw [hj] at hx
      simp only at hx
      obtain ⟨ob, F', hn, hy, _⟩ := RM.run_look hx
      cases ob with
      | box t' cs =>
        simp only at hy
        cases ht : Nat.beq t t' with
        | false => rw [ht] at hy; exact run_fail hy
        | true =>
          rw [ht] at hy
          have := beq_iff.1 ht
          subst this
          simp only [cond_true] at hy
          obtain ⟨b, vs, h1, h2, h3, h4⟩ := hI.objs n _ hn
          obtain ⟨l1, o1, r1⟩ := fitL_ok hI hs h3 hy
          exact ⟨l1, o1, fun S' h' => ⟨b, vs, (h'.m j n (l1.m j n hj)).trans h1, h2, r1 S' h', h4⟩, (fun _ m hm => by rw [l1.m j n hj] at hm; cases hm; exact ⟨_, hn, rfl⟩), .inr ⟨n, l1.m j n hj⟩⟩
      | _ => exact run_fail hy
  | .map ka kk va vk, x, hx =>
    simp only [fitO] at hx
    cases hj : s.nameOf j with
    | none => rw [hj] at hx; exact run_fail hx
    | some n =>
      rw [hj] at hx
      simp only at hx
      obtain ⟨ob, F', hn, hy, _⟩ := RM.run_look hx
      cases ob with
      | map ka' kk' va' vk' es =>
        simp only at hy
        cases ht : ((ka == ka') && (va == va')) with
        | false => rw [ht] at hy; exact run_fail hy
        | true =>
          rw [ht] at hy
          simp only [Bool.and_eq_true, beq_iff_eq] at ht
          obtain ⟨rfl, rfl⟩ := ht
          simp only [cond_true] at hy
          split at hy
          · rename_i hk
            obtain ⟨rfl, rfl⟩ := hk
            obtain ⟨h1, _⟩ := run_ret hy; cases h1
            refine ⟨FS.le.refl _, hs, fun S' h' => ?_, (fun _ m hm => by rw [hj] at hm; cases hm; exact ⟨_, hn, rfl⟩), .inr ⟨n, hj⟩⟩
            obtain ⟨b, en, clock, h1, h2, h3, h4⟩ := hI.objs n _ hn
            exact ⟨b, en, clock, (h'.m j n hj).trans h1, h2, h3, fun i p hp => let ⟨y, k1, k2, k3⟩ := h4 i p hp; ⟨y, k1, RepB.emb_imm h'.imm k2, RepB.emb_imm h'.imm k3⟩⟩
          · exact run_fail hy
      | _ => exact run_fail hy
end
end Go.Eng

namespace Go.Eng
section
variable {Fr : Fd} {nt : Nat} {S : St} {e : Env} {a : Act} {w : World}

theorem fitH_ok (hI : Inv Fr nt S e a w) : ∀ {l : List SO} {j : Nat} {x : denO l} {s s' : FS} {F : List Nat}, s.Ok e.h.get S → (fitH j l s).run e.h.get = some ((x, s'), F) →
    s.le s' ∧ s'.Ok e.h.get S ∧ ∀ i o, AL.get (encH j l x) i = some o → j ≤ i ∧ i < j + l.length ∧ (∀ S', s'.Sees S S' → RepO w S' i o) ∧ (o.mut = true → ∀ n, s'.nameOf i = some n → ∃ ob, e.h.get n = some ob ∧ ob.mut = true) ∧ (i ∈ s'.z ∨ ∃ n, s'.nameOf i = some n)
  | [], j, x, s, s', F, hs, hx => by
    obtain ⟨h1, _⟩ := run_ret hx; cases h1
    exact ⟨FS.le.refl _, hs, fun i o hi => by simp [encH, AL.get] at hi⟩
  | so :: l, j, x, s, s', F, hs, hx => by
    obtain ⟨⟨y, s1⟩, F1, F2, h1, h2, _⟩ := RM.run_bind hx
    obtain ⟨⟨z, s2⟩, F3, F4, h3, h4, _⟩ := RM.run_bind h2
    obtain ⟨h5, _⟩ := run_ret h4; cases h5
    obtain ⟨l1, o1, r1, m1, t1⟩ := fitO_ok hI hs h1
    obtain ⟨l2, o2, r2⟩ := fitH_ok hI o1 h3
    refine ⟨l1.trans l2, o2, fun i o hi => ?_⟩
    simp only [encH, AL.get] at hi
    cases hb : Nat.beq i j with
    | true =>
      rw [hb] at hi
      simp only [cond_true, Option.some.injEq] at hi
      have := beq_iff.1 hb
      subst this hi
      refine ⟨Nat.le_refl _, by simp, fun S' h' => r1 S' (h'.of_le l2), fun hm n hn => ?_, t1.elim (fun h => .inl (l2.z i h)) (fun ⟨n, hn⟩ => .inr ⟨n, l2.m i n hn⟩)⟩
      rcases t1 with h | ⟨n', hn'⟩
      · have := o2.z i (l2.z i h); rw [this] at hn; cases hn
      · have := l2.m i n' hn'; rw [this] at hn; cases hn; exact m1 hm _ hn'
    | false =>
      rw [hb] at hi
      obtain ⟨g1, g2, g3⟩ := r2 i o hi
      exact ⟨by omega, by simp; omega, g3⟩

/-- Who lives is not among the dead. -/
theorem deads_live : ∀ {l : List SO} {j : Nat} {x : denO l} {i : Nat} {o : Obj}, AL.get (encH j l x) i = some o → o.mut = true → i ∉ deadsOf j l
  | [], j, x, i, o, h, _ => by simp [deadsOf]
  | so :: l, j, x, i, o, h, hm => by
    have low : ∀ (l : List SO) (j i : Nat), i ∈ deadsOf j l → j ≤ i := fun l => by
      induction l with
      | nil => intro j i h; simp [deadsOf] at h
      | cons so l ih =>
        intro j i h
        cases so with
        | dead =>
          simp only [deadsOf, List.mem_cons] at h
          rcases h with rfl | h
          · exact Nat.le_refl _
          · have := ih _ _ h; omega
        | _ => simp only [deadsOf] at h; have := ih _ _ h; omega
    simp only [encH, AL.get] at h
    cases hb : Nat.beq i j with
    | true =>
      rw [hb] at h
      simp only [cond_true, Option.some.injEq] at h
      have := beq_iff.1 hb
      subst this h
      cases so with
      | dead => cases hm
      | _ => simp only [deadsOf]; intro hc; have := low _ _ _ hc; omega
    | false =>
      rw [hb] at h
      have hr := deads_live (l := l) h hm
      have hne : i ≠ j := fun hc => by rw [beq_iff.2 hc] at hb; cases hb
      cases so with
      | dead => simp only [deadsOf, List.mem_cons, not_or]; exact ⟨hne, hr⟩
      | _ => exact hr
theorem FS.Ok.dead {h : Nat → Option Obj} {S : St} {s : FS} (hs : s.Ok h S) (hd : s.d = []) (d : List Nat) : FS.Ok h S { s with d := d } :=
  ⟨hs.val, fun i j n _ _ => hs.one i j n (by rw [hd]; simp) (by rw [hd]; simp), fun j n ob _ => hs.lent j n ob (by rw [hd]; simp), hs.lst, hs.z⟩
theorem encH_none : ∀ {l : List SO} {j : Nat} {x : denO l} {i : Nat}, AL.get (encH j l x) i = none → ¬ (j ≤ i ∧ i < j + l.length)
  | [], j, x, i, _ => by simp
  | so :: l, j, x, i, h => by
    simp only [encH, AL.get] at h
    cases hb : Nat.beq i j with
    | true => rw [hb] at h; cases h
    | false =>
      rw [hb] at h
      have h1 := encH_none h
      have : i ≠ j := fun hc => by rw [beq_iff.2 hc] at hb; cases hb
      simp; omega
theorem encH_some {l : List SO} {j : Nat} {x : denO l} {i : Nat} (h1 : j ≤ i) (h2 : i < j + l.length) : ∃ o, AL.get (encH j l x) i = some o := by
  cases h : AL.get (encH j l x) i with
  | none => exact absurd ⟨h1, h2⟩ (encH_none h)
  | some o => exact ⟨o, rfl⟩
theorem AL.get_mem {β : Type} : ∀ {l : AL β} {n : Nat} {b : β}, l.get n = some b → ∃ i : Nat, l[i]? = some (n, b)
  | (m, c) :: l, n, b, h => by
    simp only [AL.get] at h
    cases hb : Nat.beq n m with
    | true =>
      rw [hb] at h
      simp only [cond_true, Option.some.injEq] at h
      exact ⟨0, by simp [beq_iff.1 hb, h]⟩
    | false =>
      rw [hb] at h
      obtain ⟨i, hi⟩ := AL.get_mem h
      exact ⟨i + 1, by simpa using hi⟩

/-- What the numbers of a shape stand for. -/
def FS.view (s : FS) (S : St) : St :=
  ⟨fun j => match s.nameOf j with
    | some n => S.val n
    | none => bif mem j s.z then some (.slice none 0 0) else none,
   fun b => S.imm b ∨ ∃ n ob v, (n, ob) ∈ s.l ∧ S.val n = some v ∧ blk v = some b⟩
theorem FS.Ok.sees {h : Nat → Option Obj} {s : FS} (hs : s.Ok h S) : s.Sees S (s.view S) :=
  ⟨fun j n hj => by simp [FS.view, hj], fun j hj => by simp [FS.view, hs.z j hj, mem_iff.2 hj], fun n ob v b h1 h2 h3 => .inr ⟨n, ob, v, h1, h2, h3⟩, fun b hb => .inl hb⟩
theorem within_m {s : FS} {n : Nat} (h : s.within n = true) : (∀ j m, s.nameOf j = some m → j < n) ∧ ∀ j, j ∈ s.z → j < n := by
  unfold FS.within at h
  simp only [Bool.and_eq_true, List.all_eq_true] at h
  refine ⟨fun j m hj => ?_, fun j hj => Nat.le_of_ble_eq_true (h.2 j hj)⟩
  obtain ⟨i, hi⟩ := AL.get_mem (l := s.m) hj
  exact Nat.le_of_ble_eq_true (h.1 _ (List.mem_of_getElem? hi))

/-- Facts on what has been told anew. -/
structure Anew (w : World) (S : St) (e : Env) (S' : St) (h' : AL Obj) : Prop where
  objs : ∀ n o, h'.get n = some o → RepO w S' n o
  news : ∀ n, h'.get n = none → S'.val n = none
  old : ∀ i o v b, h'.get i = some o → o.mut = true → S'.val i = some v → blk v = some b → ∃ n ob, e.h.get n = some ob ∧ ob.mut = true ∧ S.val n = some v
  wr : ∀ i o v b, h'.get i = some o → o.mut = true → S'.val i = some v → blk v = some b → ¬ S'.imm b
  dis : ∀ n m o p v u b, n ≠ m → h'.get n = some o → h'.get m = some p → o.mut = true → p.mut = true → S'.val n = some v → S'.val m = some u → blk v = some b → blk u ≠ some b
  imm : ∀ b, S'.imm b → S.imm b ∨ ∃ n t k xs v, e.h.get n = some (.lst t k xs) ∧ S.val n = some v ∧ blk v = some b
  imm0 : ∀ b, S.imm b → S'.imm b

theorem fit_anew (hI : Inv Fr nt S e a w) {get : Nat → Option AVal} {val : Nat → Option Value} (hg : ∀ i v, get i = some v → ∃ u, val i = some u ∧ RepA w S v u) {sh : Shape} {x : sh.den} {s0 s : FS} {F : List Nat}
    (hs0 : s0.Ok e.h.get S) (hd0 : s0.d = []) (hx : (fit sh get s0).run e.h.get = some ((x, s), F)) :
    FS.le { s0 with d := deadsOf 0 sh.h } s ∧ s.Ok e.h.get S ∧ (∀ (i p : Nat) (v : AVal), (encT sh.t x.1)[i]? = some (p, v) → ∃ u, val p = some u ∧ RepA w (s.view S) v u) ∧ Anew w S e (s.view S) (encH 0 sh.h x.2) ∧
      (∀ i o n, AL.get (encH 0 sh.h x.2) i = some o → o.mut = true → s.nameOf i = some n → ∃ ob, e.h.get n = some ob ∧ ob.mut = true) ∧ (∀ i, i < sh.h.length → i ∈ s.z ∨ ∃ n, s.nameOf i = some n) ∧ (∀ j m, s.nameOf j = some m → j < sh.h.length) := by
  obtain ⟨⟨y, s1⟩, F1, F2, h1, h2, _⟩ := RM.run_bind hx
  obtain ⟨⟨z, s2⟩, F3, F4, h3, h4, _⟩ := RM.run_bind h2
  simp only at h4
  cases hwi : s2.within sh.h.length with
  | false => rw [hwi] at h4; exact run_fail h4
  | true =>
    rw [hwi] at h4
    obtain ⟨h5, _⟩ := run_ret h4; cases h5
    obtain ⟨l1, o1, r1⟩ := fitT_ok hI hg (hs0.dead hd0 (deadsOf 0 sh.h)) h1
    obtain ⟨l2, o2, r2⟩ := fitH_ok hI o1 h3
    have hsee := o2.sees
    have hsd : s.d = deadsOf 0 sh.h := l2.d.trans l1.d
    have liv : ∀ i o, AL.get (encH 0 sh.h z) i = some o → o.mut = true → i ∉ s.d := fun i o h1 h2 => by rw [hsd]; exact deads_live h1 h2
    have hwm := within_m hwi
    have old : ∀ i o v b, AL.get (encH 0 sh.h z) i = some o → o.mut = true → (s.view S).val i = some v → blk v = some b → ∃ n ob, s.nameOf i = some n ∧ e.h.get n = some ob ∧ ob.mut = true ∧ S.val n = some v := fun i o v b hi hm hv hb => by
      obtain ⟨_, _, _, hmu, ht⟩ := r2 i o hi
      rcases ht with ht | ⟨n, hn⟩
      · rw [hsee.z i ht] at hv; cases hv; cases hb
      · obtain ⟨ob, h6, h7⟩ := hmu hm n hn
        exact ⟨n, ob, hn, h6, h7, (hsee.m i n hn).symm.trans hv⟩
    refine ⟨l1.trans l2, o2, fun i p v hi => r1 _ (hsee.of_le l2) i p v hi, ⟨fun n o hn => (r2 n o hn).2.2.1 _ hsee, fun n hn => ?_, fun i o v b hi hm hv hb => ?_, fun i o v b hi hm hv hb hc => ?_, fun i j o p v u b hij hi hj hm hm' hv hu hb hc => ?_, fun b hb => ?_, hsee.imm⟩, fun i o n hi hm hn => (r2 i o hi).2.2.2.1 hm n hn, fun i hi => ?_, hwm.1⟩
    · have hlt := encH_none hn
      have h6 : s.nameOf n = none := by
        cases h7 : s.nameOf n with
        | none => rfl
        | some m => exact absurd ⟨Nat.zero_le _, by have := hwm.1 n m h7; omega⟩ hlt
      have h8 : mem n s.z = false := by
        cases h9 : mem n s.z with
        | false => rfl
        | true => exact absurd ⟨Nat.zero_le _, by have := hwm.2 n (mem_iff.1 h9); omega⟩ hlt
      simp [FS.view, h6, h8]
    · obtain ⟨n, ob, _, h6, h7, h8⟩ := old i o v b hi hm hv hb
      exact ⟨n, ob, h6, h7, h8⟩
    · obtain ⟨n, ob, h5, h6, h7, h8⟩ := old i o v b hi hm hv hb
      rcases hc with hc | ⟨n', ob', v', h9, h10, h11⟩
      · exact (hI.wr n ob v b h6 h7 h8 hb).1 hc
      · obtain ⟨t, k, xs, h12, h13⟩ := o2.lst n' ob' h9
        have hne : n' ≠ n := fun hc => by subst hc; exact o2.lent i n' ob' (liv i o hi hm) h5 h9
        exact hI.dis n' n _ ob v' v b hne h12 h6 rfl h7 h10 h8 h11 hb
    · obtain ⟨n, ob, h5, h6, h7, h8⟩ := old i o v b hi hm hv hb
      obtain ⟨n', ob', h5', h6', h7', h8'⟩ := old j p u b hj hm' hu hc
      have hne : n ≠ n' := fun hc => hij (o2.one i j n (liv i o hi hm) (liv j p hj hm') h5 (by rw [hc]; exact h5'))
      exact hI.dis n n' ob ob' v u b hne h6 h6' h7 h7' h8 h8' hb hc
    · rcases hb with hb | ⟨n, ob, v, h9, h10, h11⟩
      · exact .inl hb
      · obtain ⟨t, k, xs, h12, h13⟩ := o2.lst n ob h9
        exact .inr ⟨n, t, k, xs, v, h12, h10, h11⟩
    · obtain ⟨o, ho⟩ := encH_some (l := sh.h) (j := 0) (x := z) (i := i) (Nat.zero_le _) (by omega)
      exact (r2 i o ho).2.2.2.2

theorem lst_lt (hI : Inv Fr nt S e a w) {n : Nat} {t : TypeId} {k : Kind} {xs : List k.den} {v : Value} {b : Nat} (hn : e.h.get n = some (.lst t k xs)) (hv : S.val n = some v) (hb : blk v = some b) : b < w.heap.size := by
  obtain ⟨v', flat, h1, h2, _⟩ := hI.objs n _ hn
  rw [hv] at h1; cases h1
  rcases h2.2 with ⟨rfl, _⟩ | ⟨g, cap, cur, rfl, _, hg, _⟩
  · simp [blk] at hb
  · simp only [blk, Option.some.injEq] at hb; subst hb
    exact (Array.getElem?_eq_some_iff.1 hg).1

/-- The same activation, told anew. -/
theorem Anew.inv (hI : Inv Fr nt S e a w) {S' : St} {T : AL AVal} {h' : AL Obj} (hA : Anew w S e S' h') (ht : ∀ t v, T.get t = some v → ∃ u, a.tmps[t]? = some u ∧ RepA w S' v u) (hown : ∀ j, j < Fr.np → S'.val j = S.val j) : Inv Fr nt S' ⟨T, h'⟩ a w :=
  { defers := hI.defers, size := hI.size, tmps := ht, objs := hA.objs, news := hA.news,
    wr := fun i o v b hi hm hv hb => ⟨hA.wr i o v b hi hm hv hb, let ⟨n, ob, h1, h2, h3⟩ := hA.old i o v b hi hm hv hb; (hI.wr n ob v b h1 h2 h3 hb).2⟩,
    dis := hA.dis,
    imm := fun b hb => (hA.imm b hb).elim (hI.imm b) fun ⟨n, t, k, xs, v, h1, h2, h3⟩ => ⟨lst_lt hI h1 h2 h3, .inr (hI.wr n _ v b h1 rfl h2 h3).2⟩,
    imm0 := fun b hb => hA.imm0 b (hI.imm0 b hb), own := fun j hj => (hown j hj).trans (hI.own j hj), frame := hI.frame, os := hI.os, tape := hI.tape, output := hI.output, grow := hI.grow,
    glob := fun g cs hg => let ⟨h1, vs, h2, h3, h4⟩ := hI.glob g cs hg
      ⟨hA.imm0 g h1, vs, RepL.keep (S := ⟨fun _ => none, S.imm⟩) (S' := ⟨fun _ => none, S'.imm⟩) ⟨fun _ _ h => h, hA.imm0⟩ (fun _ _ => rfl) h2, h3, h4⟩ }

/-- What a callee is given. -/
def FdOf (gl : Nat → Option (List Cell)) (w : World) (S : St) (np : Nat) : Fd :=
  { gl, w0 := w, imm0 := S.imm, pw := fun b => ∃ n v, n < np ∧ S.val n = some v ∧ blk v = some b, np, val0 := fun n => (S.val n).getD undef }
def noAct : Act := ⟨#[], []⟩
theorem Anew.call (hI : Inv Fr nt S e a w) {S' : St} {h' : AL Obj} {np : Nat} (hA : Anew w S e S' h') (hnp : ∀ j, j < np → ∃ v, S'.val j = some v) (hle : ∀ j o, h'.get j = some o → j < np) : Inv (FdOf Fr.gl w S' np) 0 S' ⟨[], h'⟩ noAct w :=
  { defers := rfl, size := rfl, tmps := (fun t v ht => by cases ht), objs := hA.objs, news := hA.news,
    wr := fun i o v b hi hm hv hb => ⟨hA.wr i o v b hi hm hv hb, .inr ⟨i, v, hle i o hi, hv, hb⟩⟩,
    dis := hA.dis,
    imm := fun b hb => ⟨(hA.imm b hb).elim (fun h => (hI.imm b h).1) fun ⟨n, t, k, xs, v, h1, h2, h3⟩ => lst_lt hI h1 h2 h3, .inl hb⟩,
    imm0 := fun b hb => hb, own := fun j hj => by obtain ⟨v, hv⟩ := hnp j hj; simp [FdOf, hv], frame := fun _ _ _ => rfl, os := rfl, tape := rfl, output := rfl, grow := Nat.le_refl _,
    glob := fun g cs hg => let ⟨h1, vs, h2, h3, h4⟩ := hI.glob g cs hg
      ⟨hA.imm0 g h1, vs, RepL.keep (S := ⟨fun _ => none, S.imm⟩) (S' := ⟨fun _ => none, S'.imm⟩) ⟨fun _ _ h => h, hA.imm0⟩ (fun _ _ => rfl) h2, h3, h4⟩ }

/-- **The contract of a function**: what it answers, as the engine says it. -/
def Sound (P : Program) (gl : Nat → Option (List Cell)) (f : FuncId) (g : Sg) : Prop :=
  ∀ (w : World) (S : St) (vals : Array Value) (x : g.ins.den) (y : g.β), Inv (FdOf gl w S g.ins.h.length) 0 S ⟨[], encH 0 g.ins.h x.2⟩ noAct w → RepAs w S ((encT g.ins.t x.1).map (·.2)) vals.toList → g.fn x = some y →
    Calls P f vals w fun en w' => ∃ v S', en = .returned v ∧ (∃ p r, encT g.outs.t (g.dn y).1 = [(p, r)] ∧ RepA w' S' r v) ∧ Inv (FdOf gl w S g.ins.h.length) 0 S' ⟨[], encH 0 g.outs.h (g.dn y).2⟩ noAct w'
end
end Go.Eng

namespace Go.Eng

/-! ### Renaming -/
section
variable {w : World} {S S' : St} {r : Nat → Nat}
theorem RepK.imm_free {imm imm' : Nat → Prop} : ∀ {k : Kind} {x : k.den} {f : Nat → Option Value}, k.slfree = true → RepK w imm k x f → RepK w imm' k x f
  | .int _, _, _, _, h => h
  | .bool, _, _, _, h => h
  | .str, _, _, _, h => h
  | .flt, _, _, _, h => h
  | .sl _, _, _, hk, _ => by cases hk
  | .pair a b, x, f, hk, h => by
    simp only [Kind.slfree, Bool.and_eq_true] at hk
    exact ⟨RepK.imm_free hk.1 h.1, RepK.imm_free hk.2 h.2⟩
theorem RepC.ren (hv : ∀ j u, S.val j = some u → S'.val (r j) = some u) {c : Cell} {v : Value} (hi : (∀ b, S.imm b → S'.imm b) ∨ c.free = true) (h : RepC w S c v) : RepC w S' (c.ren r) v := by
  cases c with
  | sl k xs => rcases hi with hi | hi; exact SlV.keep (fun _ _ => rfl) hi h; cases hi
  | ref n => exact ⟨hv _ _ h.1, h.2⟩
  | ptr n o => obtain ⟨b, h1, h2⟩ := h; exact ⟨b, hv _ _ h1, h2⟩
  | eptr n sz i o => obtain ⟨b, len, cap, h1, h2⟩ := h; exact ⟨b, len, cap, hv _ _ h1, h2⟩
  | vptr k xs i o =>
    rcases hi with hi | hi
    · obtain ⟨b, p, h1, h2, h3, h4, h5⟩ := h
      exact ⟨b, p, h1, hi b h2, h3, h4, fun j x hx => (h5 j x hx).keep (fun _ _ => rfl) hi (fun _ _ => rfl)⟩
    · cases hi
  | fn f caps =>
    obtain ⟨vs, h1, h2, h3⟩ := h
    refine ⟨vs, h1, by simp [h2], fun i n hn => ?_⟩
    rw [List.getElem?_map] at hn
    cases hc : caps[i]? with
    | none => rw [hc] at hn; cases hn
    | some m =>
      rw [hc] at hn; cases hn
      obtain ⟨b, hb1, hb2⟩ := h3 i m hc
      exact ⟨b, hv _ _ hb1, hb2⟩
  | _ => exact h
theorem RepL.ren (hv : ∀ j u, S.val j = some u → S'.val (r j) = some u) : ∀ {cs : List Cell} {vs : List Value}, (∀ c ∈ cs, (∀ b, S.imm b → S'.imm b) ∨ c.free = true) → RepL w S cs vs → RepL w S' (cs.map (·.ren r)) vs
  | [], [], _, _ => trivial
  | c :: cs, _ :: _, hi, h => ⟨h.1.ren hv (hi c (by simp)), RepL.ren hv (fun d hd => hi d (by simp [hd])) h.2⟩
theorem RepB.ren (hv : ∀ j u, S.val j = some u → S'.val (r j) = some u) {p : Bool × List Cell} {v : Value} (hi : ∀ c ∈ p.2, (∀ b, S.imm b → S'.imm b) ∨ c.free = true) (h : RepB w S p v) : RepB w S' (p.1, p.2.map (·.ren r)) v := by
  match p, h with
  | (true, cs), ⟨vs, h1, h2⟩ => exact ⟨vs, h1, h2.ren hv hi⟩
  | (false, [c]), h => exact ⟨h.1.ren hv (hi c (by simp)), h.2⟩
  | (false, []), h => exact h.elim
  | (false, _ :: _ :: _), h => exact h.elim
theorem RepT.ren (hv : ∀ j u, S.val j = some u → S'.val (r j) = some u) : ∀ {l : List (Bool × List Cell)} {vs : List Value}, (∀ p ∈ l, ∀ c ∈ p.2, (∀ b, S.imm b → S'.imm b) ∨ c.free = true) → RepT w S l vs → RepT w S' (l.map fun p => (p.1, p.2.map (·.ren r))) vs
  | [], [], _, _ => trivial
  | p :: l, _ :: _, hi, h => ⟨h.1.ren hv (hi p (by simp)), RepT.ren hv (fun q hq => hi q (by simp [hq])) h.2⟩
/-- All cells of a value. -/
def AVal.all (p : Cell → Prop) : AVal → Prop
  | .c x => p x
  | .agg cs => ∀ c ∈ cs, p c
  | .tup l => ∀ q ∈ l, ∀ c ∈ q.2, p c
theorem RepA.ren (hv : ∀ j u, S.val j = some u → S'.val (r j) = some u) {x : AVal} {v : Value} (hi : x.all fun c => (∀ b, S.imm b → S'.imm b) ∨ c.free = true) (h : RepA w S x v) : RepA w S' (x.ren r) v := by
  cases x with
  | c x => exact ⟨h.1.ren hv hi, h.2⟩
  | agg cs => obtain ⟨vs, h1, h2⟩ := h; exact ⟨vs, h1, h2.ren hv hi⟩
  | tup l => obtain ⟨vs, h1, h2⟩ := h; exact ⟨vs, h1, h2.ren hv hi⟩
/-- What of an object hangs on blocks that nobody writes. -/
def Obj.free : Obj → Bool
  | .lst _ k _ => k.slfree
  | .frz .. => false
  | .box _ cs => cs.all Cell.free
  | .dead => true
  | .map _ kk _ vk _ => kk.slfree && vk.slfree
theorem RepO.ren (hv : ∀ j u, S.val j = some u → S'.val (r j) = some u) {j : Nat} {o : Obj} (hi : (∀ b, S.imm b → S'.imm b) ∨ o.free = true) (h : RepO w S j o) : RepO w S' (r j) (o.ren r) := by
  cases o with
  | lst e k xs =>
    obtain ⟨v, flat, h1, h2, h3, h4⟩ := h
    refine ⟨v, flat, hv _ _ h1, h2, fun i x hx => ?_, h4⟩
    rcases hi with hi | hi
    · exact (h3 i x hx).keep (fun _ _ => rfl) hi (fun _ _ => rfl)
    · exact (h3 i x hx).imm_free hi
  | frz k xs =>
    obtain ⟨v, h1, h2⟩ := h
    rcases hi with hi | hi
    · exact ⟨v, hv _ _ h1, SlV.keep (fun _ _ => rfl) hi h2⟩
    · cases hi
  | box t cs =>
    obtain ⟨b, vs, h1, h2, h3, h4⟩ := h
    refine ⟨b, vs, hv _ _ h1, h2, h3.ren hv fun c hc => ?_, h4⟩
    rcases hi with hi | hi
    · exact .inl hi
    · exact .inr (List.all_eq_true.1 hi c hc)
  | dead => obtain ⟨v, h⟩ := h; exact ⟨v, hv _ _ h⟩
  | map ka kk va vk es =>
    obtain ⟨b, en, clock, h1, h2, h3, h4⟩ := h
    refine ⟨b, en, clock, hv _ _ h1, h2, h3, fun i p hp => ?_⟩
    obtain ⟨y, k1, k2, k3⟩ := h4 i p hp
    rcases hi with hi | hi
    · exact ⟨y, k1, k2.emb_imm hi, k3.emb_imm hi⟩
    · simp only [Obj.free, Bool.and_eq_true] at hi
      exact ⟨y, k1, k2.emb_free hi.1, k3.emb_free hi.2⟩
end

/-! ### Shapes without slices -/
theorem encC_free {s : SC} {x : s.den} (h : Shape.slfreeC s = true) : (encC s x).free = true := by cases s <;> first | rfl | cases h
theorem encL_free : ∀ {l : List SC} {x : denL l}, l.all Shape.slfreeC = true → ∀ c ∈ encL l x, c.free = true
  | [], _, _, c, hc => by cases hc
  | s :: l, x, h, c, hc => by
    simp only [List.all_cons, Bool.and_eq_true] at h
    rcases List.mem_cons.1 hc with rfl | hc
    · exact encC_free h.1
    · exact encL_free h.2 c hc
theorem encB_free : ∀ {l : List (Bool × List SC)} {x : denB l}, (l.all fun q => q.2.all Shape.slfreeC) = true → ∀ p ∈ encB l x, ∀ c ∈ p.2, c.free = true
  | [], _, _, p, hp => by cases hp
  | s :: l, x, h, p, hp => by
    simp only [List.all_cons, Bool.and_eq_true] at h
    rcases List.mem_cons.1 hp with rfl | hp
    · exact encL_free h.1
    · exact encB_free h.2 p hp
theorem encA_free {s : SA} {x : s.den} (h : Shape.slfreeA s = true) : (encA s x).all fun c => c.free = true := by
  cases s with
  | c s => exact encC_free h
  | agg l => exact encL_free h
  | tup l => exact encB_free h
theorem encT_free : ∀ {l : List (Nat × SA)} {x : denT l} {p : Nat} {v : AVal}, (l.all fun p => Shape.slfreeA p.2) = true → encT l x = [(p, v)] → v.all fun c => c.free = true
  | q :: l, x, p, v, h, he => by
    simp only [encT, List.cons.injEq, Prod.mk.injEq] at he
    simp only [List.all_cons, Bool.and_eq_true] at h
    rw [← he.1.2]
    exact encA_free h.1
  | [], _, _, _, _, he => by simp [encT] at he
theorem encO_free {s : SO} {x : s.den} (h : Shape.slfreeO s = true) : (encO s x).free = true := by
  cases s with
  | lst e k => exact h
  | box t l => exact List.all_eq_true.2 (encL_free h)
  | dead => rfl
  | map ka kk va vk => exact h
theorem encH_free : ∀ {l : List SO} {j : Nat} {x : denO l}, l.all Shape.slfreeO = true → ∀ i o, AL.get (encH j l x) i = some o → o.free = true
  | [], _, _, _, i, o, h => by cases h
  | s :: l, j, x, hf, i, o, h => by
    simp only [List.all_cons, Bool.and_eq_true] at hf
    simp only [encH, AL.get] at h
    cases hb : Nat.beq i j with
    | true => rw [hb] at h; simp only [cond_true, Option.some.injEq] at h; subst h; exact encO_free hf.1
    | false => rw [hb] at h; exact encH_free hf.2 i o h

/-! ### Setting many -/
theorem setAll_notin {ups : List (Nat × Obj)} {h : AL Obj} {n : Nat} (hn : ∀ p ∈ ups, p.1 ≠ n) : (setAll ups h).get n = h.get n := by
  refine setAll_other ups h n ?_
  rw [List.any_eq_false]
  intro p hp hb
  exact hn p hp (beq_iff.1 hb)
theorem setAll_in : ∀ {ups : List (Nat × Obj)} {h h' : AL Obj} {n : Nat}, (∃ p ∈ ups, p.1 = n) → (setAll ups h).get n = (setAll ups h').get n
  | [], _, _, _, hn => by obtain ⟨p, hp, _⟩ := hn; cases hp
  | (m, o) :: ups, h, h', n, hn => by
    simp only [setAll]
    by_cases hex : ∃ p ∈ ups, p.1 = n
    · exact setAll_in hex
    · have hno : ∀ p ∈ ups, p.1 ≠ n := fun p hp hc => hex ⟨p, hp, hc⟩
      rw [setAll_notin hno, setAll_notin hno, AL.get_set, AL.get_set]
      obtain ⟨p, hp, hpn⟩ := hn
      rcases List.mem_cons.1 hp with rfl | hp
      · simp at hpn; subst hpn; simp
      · exact absurd hpn (hno p hp)

section
variable {Fr : Fd} {nt : Nat} {S : St} {t : AL AVal} {h : AL Obj} {a : Act} {w : World}
/-- Lists that were lent are frozen, one after the other. -/
theorem freezeAll (immTop : Nat → Prop) : ∀ (l : List (Nat × Obj)) {S : St} {h : AL Obj}, Inv Fr nt S ⟨t, h⟩ a w →
    (∀ n ob, (n, ob) ∈ l → ∃ k xs, ob = .frz k xs ∧ ((∃ e, h.get n = some (.lst e k xs)) ∨ h.get n = some (.frz k xs))) →
    (∀ b, S.imm b → immTop b) → (∀ n ob v b, (n, ob) ∈ l → S.val n = some v → blk v = some b → immTop b) →
    ∃ S', Inv Fr nt S' ⟨t, setAll l h⟩ a w ∧ S'.val = S.val ∧ (∀ b, S.imm b → S'.imm b) ∧ ∀ b, S'.imm b → immTop b
  | [], S, h, hI, _, hi, _ => ⟨S, hI, rfl, fun _ h => h, hi⟩
  | (n, ob) :: l, S, h, hI, hl, hi, ht => by
    obtain ⟨k, xs, rfl, hn⟩ := hl n ob (by simp)
    have step : ∃ S1, Inv Fr nt S1 ⟨t, h.set n (.frz k xs)⟩ a w ∧ S1.val = S.val ∧ (∀ b, S.imm b → S1.imm b) ∧ ∀ b, S1.imm b → immTop b := by
      rcases hn with ⟨e, hn⟩ | hn
      · obtain ⟨v, hv, h1⟩ := hI.freeze hn k.sz_pos
        exact ⟨_, h1, rfl, fun _ h => .inl h, fun b hb => hb.elim (hi b) (ht n (.frz k xs) v b (by simp) hv)⟩
      · exact ⟨S, hI.congr (fun m => by rw [AL.get_set]; split; rename_i hm; subst hm; exact hn.symm; rfl), rfl, fun _ h => h, hi⟩
    obtain ⟨S1, I1, v1, i1, t1⟩ := step
    have hl' : ∀ n' ob', (n', ob') ∈ l → ∃ k' xs', ob' = .frz k' xs' ∧ ((∃ e, (h.set n (.frz k xs)).get n' = some (.lst e k' xs')) ∨ (h.set n (.frz k xs)).get n' = some (.frz k' xs')) := fun n' ob' hm => by
      obtain ⟨k', xs', rfl, hn'⟩ := hl n' ob' (by simp [hm])
      refine ⟨k', xs', rfl, ?_⟩
      rw [AL.get_set]
      split
      · rename_i hnn
        subst hnn
        right
        rcases hn with ⟨e1, hn⟩ | hn <;> rcases hn' with ⟨e2, hn'⟩ | hn' <;> (rw [hn] at hn'; cases hn'; try rfl)
      · exact hn'
    obtain ⟨S2, I2, v2, i2, t2⟩ := freezeAll immTop l (h := h.set n (.frz k xs)) I1 hl' t1 (fun n' ob' v b hm hv hb => ht n' ob' v b (by simp [hm]) (by rw [← v1]; exact hv) hb)
    exact ⟨S2, I2, v2.trans v1, fun b hb => i2 b (i1 b hb), t2⟩

/-- Objects that are given away stand for nothing. -/
theorem killAll : ∀ (l : List (Nat × Obj)) {h : AL Obj}, Inv Fr nt S ⟨t, h⟩ a w → (∀ p ∈ l, p.2 = .dead ∧ ∃ o, h.get p.1 = some o) → Inv Fr nt S ⟨t, setAll l h⟩ a w
  | [], _, hI, _ => hI
  | (n, o) :: l, h, hI, hl => by
    obtain ⟨h1, o', h2⟩ := hl (n, o) (by simp)
    simp only at h1; subst h1
    refine killAll l (hI.kill h2) fun p hp => ⟨(hl p (by simp [hp])).1, ?_⟩
    obtain ⟨_, o2, h3⟩ := hl p (by simp [hp])
    rw [AL.get_set]
    split
    · exact ⟨_, rfl⟩
    · exact ⟨o2, h3⟩

/-- More blocks that nobody writes. -/
theorem Inv.moreImm (hI : Inv Fr nt S ⟨t, h⟩ a w) (P : Nat → Prop) (h1 : ∀ b, P b → b < w.heap.size ∧ (Fr.imm0 b ∨ Fr.w0.heap.size ≤ b ∨ Fr.pw b)) (h2 : ∀ n o v b, h.get n = some o → o.mut = true → S.val n = some v → blk v = some b → ¬ P b) :
    Inv Fr nt ⟨S.val, fun b => S.imm b ∨ P b⟩ ⟨t, h⟩ a w :=
  have hle : S.le ⟨S.val, fun b => S.imm b ∨ P b⟩ := ⟨fun _ _ h => h, fun _ h => Or.inl h⟩
  hI.more hle (fun n o hn => (hI.objs n o hn).keep hle (fun _ _ => rfl) (fun _ _ _ _ _ => rfl)) hI.news
    (fun n o v b hn hm hv hb => ⟨fun hc => hc.elim (hI.wr n o v b hn hm hv hb).1 (h2 n o v b hn hm hv hb), (hI.wr n o v b hn hm hv hb).2⟩) hI.dis (fun b hb => hb.elim (hI.imm b) (h1 b))

/-- New names are given what they stand for. -/
theorem bindAll : ∀ (l : List (Nat × Value)) {S : St} {h : AL Obj}, Inv Fr nt S ⟨t, h⟩ a w → (∀ p ∈ l, S.val p.1 = none ∨ S.val p.1 = some p.2) → (∀ p ∈ l, ∀ q ∈ l, p.1 = q.1 → p.2 = q.2) →
    ∃ S', Inv Fr nt S' ⟨t, setAll (l.map fun p => (p.1, .dead)) h⟩ a w ∧ S'.imm = S.imm ∧ (∀ n v, S.val n = some v → S'.val n = some v) ∧ (∀ p ∈ l, S'.val p.1 = some p.2) ∧ (∀ n, (∀ p ∈ l, p.1 ≠ n) → S'.val n = S.val n)
  | [], S, h, hI, _, _ => ⟨S, hI, rfl, fun _ _ h => h, (fun p hp => by cases hp), fun _ _ => rfl⟩
  | (n, v) :: l, S, h, hI, hn, hf => by
    have hnv := hn (n, v) (by simp)
    have h1 := hI.set (n := n) (o := .dead) (v := v) hnv ⟨v, by simp [St.bind]⟩ (fun b hm => by cases hm)
    have hval : ∀ m, (S.bind n v).val m = if m = n then some v else S.val m := fun _ => rfl
    obtain ⟨S2, I2, i2, g2, p2, o2⟩ := bindAll l (S := S.bind n v) h1 (fun p hp => by
      rw [hval]
      split
      · rename_i hpn; right; exact congrArg some (hf (n, v) (by simp) p (by simp [hp]) hpn.symm)
      · exact hn p (by simp [hp])) (fun p hp q hq => hf p (by simp [hp]) q (by simp [hq]))
    refine ⟨S2, I2, i2, fun m u hm => g2 m u ((St.le_bind hnv).val m u hm), fun p hp => ?_, fun m hm => ?_⟩
    · rcases List.mem_cons.1 hp with rfl | hp
      · exact g2 n v (by rw [hval, if_pos rfl])
      · exact p2 p hp
    · rw [o2 m (fun p hp => hm p (by simp [hp])), hval, if_neg (fun hc => hm (n, v) (by simp) hc.symm)]
end
end Go.Eng

namespace Go.Eng
section
variable {Fr : Fd} {nt : Nat} {S : St} {e : Env} {a : Act} {w : World}

theorem encH_mem : ∀ {l : List SO} {j : Nat} {x : denO l} {p : Nat × Obj}, p ∈ encH j l x → j ≤ p.1 ∧ p.1 < j + l.length ∧ AL.get (encH j l x) p.1 = some p.2
  | [], _, _, _, h => by cases h
  | s :: l, j, x, p, h => by
    rcases List.mem_cons.1 h with rfl | h
    · exact ⟨Nat.le_refl _, by simp, by simp [encH, AL.get, Nat.beq_refl]⟩
    · obtain ⟨h1, h2, h3⟩ := encH_mem h
      refine ⟨by omega, by simp; omega, ?_⟩
      have hb : Nat.beq p.1 j = false := by cases hh : Nat.beq p.1 j with
        | true => have := beq_iff.1 hh; omega
        | false => rfl
      simp only [encH, AL.get, hb, cond_false]; exact h3
theorem encH_length : ∀ (l : List SO) (j : Nat) (x : denO l), (encH j l x).length = l.length
  | [], _, _ => rfl
  | _ :: l, j, x => by simp [encH, encH_length l]
theorem encH_key : ∀ {l : List SO} {j i : Nat} {x : denO l} {p : Nat × Obj}, (encH j l x)[i]? = some p → p.1 = j + i
  | [], _, _, _, _, h => by simp [encH] at h
  | s :: l, j, 0, x, p, h => by simp [encH] at h; subst h; rfl
  | s :: l, j, i + 1, x, p, h => by
    have := encH_key (i := i) (j := j + 1) (by simpa [encH] using h)
    omega

/-- Objects laid one after the other, each under the name of its number. -/
theorem layAll {S2 S3 : St} {name : Nat → Nat} {H : AL Obj} {t : AL AVal} (old : Nat → Prop)
    (hval : ∀ j o v, H.get j = some o → S2.val j = some v → S3.val (name j) = some v) (hinj : ∀ i j o p, H.get i = some o → H.get j = some p → name i = name j → i = j)
    (hrep : ∀ j o, H.get j = some o → RepO w S3 (name j) (o.ren name))
    (hfree : ∀ j o v b, H.get j = some o → o.mut = true → S2.val j = some v → blk v = some b → ¬ S3.imm b ∧ (Fr.w0.heap.size ≤ b ∨ Fr.pw b) ∧ ¬ old b)
    (hdis : ∀ n m o p v u b, n ≠ m → H.get n = some o → H.get m = some p → o.mut = true → p.mut = true → S2.val n = some v → S2.val m = some u → blk v = some b → blk u ≠ some b)
    (hsome : ∀ j o, H.get j = some o → ∃ v, S2.val j = some v) :
    ∀ (l : List (Nat × Obj)) {h : AL Obj}, (∀ p ∈ l, H.get p.1 = some p.2) → Inv Fr nt S3 ⟨t, h⟩ a w →
      (∀ n o v b, h.get n = some o → o.mut = true → S3.val n = some v → blk v = some b → old b ∨ ∃ j p, H.get j = some p ∧ n = name j ∧ p.mut = true) →
      Inv Fr nt S3 ⟨t, setAll (l.map fun p => (name p.1, p.2.ren name)) h⟩ a w
  | [], h, _, hI, _ => hI
  | (j, o) :: l, h, hl, hI, hcl => by
    have hj := hl (j, o) (by simp)
    simp only at hj
    obtain ⟨v, hv⟩ := hsome j o hj
    have hv3 := hval j o v hj hv
    have hmut : ∀ p : Obj, (p.ren name).mut = p.mut := fun p => by cases p <;> rfl
    have h1 := hI.set (n := name j) (o := o.ren name) (v := v) (.inr hv3) (by rw [St.bind_same hv3]; exact hrep j o hj) (fun b hm hb => by
      rw [hmut] at hm
      obtain ⟨f1, f2, f3⟩ := hfree j o v b hj hm hv hb
      refine ⟨f1, f2, fun m p u hmn hp hpm hu hc => ?_⟩
      rcases hcl m p u b hp hpm hu hc with h4 | ⟨j', p', h5, rfl, h6⟩
      · exact f3 h4
      · obtain ⟨v', hv'⟩ := hsome j' p' h5
        rw [hval j' p' v' h5 hv'] at hu; cases hu
        exact hdis j' j p' o u v b (fun hc => hmn (by rw [hc])) h5 hj h6 hm hv' hv hc hb)
    rw [St.bind_same hv3] at h1
    refine layAll old hval hinj hrep hfree hdis hsome l (fun p hp => hl p (by simp [hp])) h1 fun n p u b hn hm hu hb => ?_
    rw [AL.get_set] at hn
    split at hn
    · rename_i hnj; subst hnj; cases hn; rw [hmut] at hm; exact .inr ⟨j, o, hj, rfl, hm⟩
    · exact hcl n p u b hn hm hu hb

theorem mut_lt (hI : Inv Fr nt S e a w) {n : Nat} {o : Obj} {v : Value} {b : Nat} (hn : e.h.get n = some o) (hm : o.mut = true) (hv : S.val n = some v) (hb : blk v = some b) : b < w.heap.size := by
  cases o with
  | lst t k xs => exact lst_lt hI hn hv hb
  | box t cs =>
    obtain ⟨b', vs, h1, h2, _⟩ := hI.objs n _ hn
    rw [hv] at h1; cases h1
    simp only [blk, Option.some.injEq] at hb; subst hb
    exact (Array.getElem?_eq_some_iff.1 h2).1
  | map ka kk va vk es =>
    obtain ⟨b', en, clock, h1, h2, _⟩ := hI.objs n _ hn
    rw [hv] at h1; cases h1
    simp only [blk, Option.some.injEq] at hb; subst hb
    exact (Array.getElem?_eq_some_iff.1 h2).1
  | _ => cases hm
theorem setAll_dead : ∀ {ups : List (Nat × Obj)} {h : AL Obj} {n : Nat}, (∀ p ∈ ups, p.2 = .dead) → (∃ p ∈ ups, p.1 = n) → (setAll ups h).get n = some .dead
  | [], _, _, _, hn => by obtain ⟨p, hp, _⟩ := hn; cases hp
  | (m, o) :: ups, h, n, hd, hn => by
    simp only [setAll]
    by_cases hex : ∃ p ∈ ups, p.1 = n
    · exact setAll_dead (fun p hp => hd p (by simp [hp])) hex
    · have hno : ∀ p ∈ ups, p.1 ≠ n := fun p hp hc => hex ⟨p, hp, hc⟩
      rw [setAll_notin hno, AL.get_set]
      obtain ⟨p, hp, hpn⟩ := hn
      rcases List.mem_cons.1 hp with rfl | hp
      · simp at hpn; subst hpn; simp; exact hd (m, o) (by simp)
      · exact absurd hpn (hno p hp)
theorem setAll_frz : ∀ {ups : List (Nat × Obj)} {h : AL Obj} {n : Nat}, (∀ p ∈ ups, p.2.mut = false) → (∃ p ∈ ups, p.1 = n) → ∃ o, (setAll ups h).get n = some o ∧ o.mut = false
  | [], _, _, _, hn => by obtain ⟨p, hp, _⟩ := hn; cases hp
  | (m, o) :: ups, h, n, hd, hn => by
    simp only [setAll]
    by_cases hex : ∃ p ∈ ups, p.1 = n
    · exact setAll_frz (fun p hp => hd p (by simp [hp])) hex
    · have hno : ∀ p ∈ ups, p.1 ≠ n := fun p hp hc => hex ⟨p, hp, hc⟩
      rw [setAll_notin hno, AL.get_set]
      obtain ⟨p, hp, hpn⟩ := hn
      rcases List.mem_cons.1 hp with rfl | hp
      · simp at hpn; subst hpn; exact ⟨o, by simp, hd (m, o) (by simp)⟩
      · exact absurd hpn (hno p hp)

/-- Behind a call. -/
theorem back {gl : Nat → Option (List Cell)} (hgl : Fr.gl = gl) (hI : Inv Fr nt S e a w) {g : Sg} {x : g.ins.den} {y : g.β} {s : FS} {d : Nat} {w' : World} {S2 : St} {p0 : Nat} {v0 : AVal} {u : Value} {r : Res} {F F' : List Nat} {hh : Nat → Option Obj}
    (hs : s.Ok e.h.get S) (hsd : s.d = []) (hA : Anew w S e (s.view S) (encH 0 g.ins.h x.2)) (hwi : ∀ j m, s.nameOf j = some m → j < g.ins.h.length)
    (hle : g.ins.h.length ≤ g.outs.h.length) (hpass : ∀ j, j < g.ins.h.length → ∃ n ob v, s.nameOf j = some n ∧ e.h.get n = some ob ∧ ob.mut = true ∧ S.val n = some v)
    (I2 : Inv (FdOf gl w (s.view S) g.ins.h.length) 0 S2 ⟨[], encH 0 g.outs.h (g.dn y).2⟩ noAct w') (ht : encT g.outs.t (g.dn y).1 = [(p0, v0)]) (hv : RepA w' S2 v0 u)
    (hr : (backRes g s d y).run hh = some (r, F)) (hw : writesOk e.h F' r = true) :
    ∃ S3, Inv Fr nt S3 ⟨e.t, setAll r.news (setAll r.ups e.h)⟩ a w' ∧ ∀ z, r.v = some z → RepA w' S3 z u := by
  generalize hm : g.ins.h.length = m at *
  generalize hlen : g.outs.h.length = len at *
  generalize hH : encH 0 g.outs.h (g.dn y).2 = H at *
  let name := nameFor s d m
  -- the answer
  have hrr : r = ⟨some (v0.ren name), (bif g.outs.slfree then [] else s.l) ++ (H.map fun p => (name p.1, p.2.ren name)).take m, (H.map fun p => (name p.1, p.2.ren name)).drop m⟩ := by
    unfold backRes at hr
    simp only [Shape.enc, ht, hH, hm] at hr
    exact (run_ret hr).1
  have hHl : H.length = len := by rw [← hH, encH_length, hlen]
  have hget : ∀ i o, H.get i = some o → i < len := fun i o hi => by
    have := AL.get_mem hi
    obtain ⟨k, hk⟩ := this
    have := encH_mem (l := g.outs.h) (j := 0) (x := (g.dn y).2) (p := (i, o)) (by rw [hH]; exact List.mem_of_getElem? hk)
    omega
  have hsome : ∀ i, i < len → ∃ o, H.get i = some o := fun i hi => by
    have := encH_some (l := g.outs.h) (j := 0) (x := (g.dn y).2) (i := i) (Nat.zero_le _) (by omega)
    rwa [hH] at this
  have hmemH : ∀ p ∈ H, p.1 < len ∧ H.get p.1 = some p.2 := fun p hp => by
    have := encH_mem (l := g.outs.h) (j := 0) (x := (g.dn y).2) (p := p) (by rw [hH]; exact hp)
    rw [hH] at this
    exact ⟨by omega, this.2.2⟩
  have hkey : ∀ (i : Nat) (p : Nat × Obj), H[i]? = some p → p.1 = i := fun i p hp => by
    have := encH_key (l := g.outs.h) (j := 0) (x := (g.dn y).2) (by rw [hH]; exact hp)
    omega
  have hnew : ∀ j, m ≤ j → name j = nm d (j - m) := fun j hj => by
    have : s.nameOf j = none := by
      cases h : s.nameOf j with
      | none => rfl
      | some n => have := hwi j n h; omega
    simp [name, nameFor, this]
  -- the new names are new
  have habs : ∀ j, m ≤ j → j < len → e.h.get (name j) = none := fun j hj hjl => by
    rw [hrr] at hw
    simp only [writesOk, Bool.and_eq_true] at hw
    have key : ∀ (l : List (Nat × Obj)) (h : AL Obj), writesOk.newOk h l = true → ∀ p ∈ l, h.get p.1 = none := fun l => by
      induction l with
      | nil => intro h _ p hp; cases hp
      | cons q l ih =>
        intro h ho p hp
        have hq := has_none (n := q.1) (ob := q.2) (ps := l) ho
        rcases List.mem_cons.1 hp with rfl | hp
        · exact hq
        · simp only [writesOk.newOk, Bool.and_eq_true] at ho
          have := ih _ ho.2 p hp
          rw [AL.get_set] at this
          split at this
          · cases this
          · exact this
    have hlt : j < H.length := by omega
    have hmem : (name j, (H[j].2).ren name) ∈ (H.map fun p => (name p.1, p.2.ren name)).drop m := by
      have hk := hkey j H[j] (List.getElem?_eq_getElem hlt)
      refine List.mem_of_getElem? (i := j - m) ?_
      rw [List.getElem?_drop, show m + (j - m) = j by omega, List.getElem?_map, List.getElem?_eq_getElem hlt]
      simp [hk]
    exact key _ _ hw.2 _ hmem
  have hvalOld : ∀ j n, s.nameOf j = some n → (s.view S).val j = S.val n := fun j n hn => hs.sees.m j n hn
  have hSn : ∀ j n, s.nameOf j = some n → ∃ v, S.val n = some v := hs.val
  have hS2old : ∀ j n v, s.nameOf j = some n → S.val n = some v → S2.val j = some v := fun j n v hn hv => by
    have h1 := I2.own j (hwi j n hn)
    have h2 : (FdOf gl w (s.view S) m).val0 j = v := by show ((s.view S).val j).getD undef = v; rw [hvalOld j n hn, hv]; rfl
    rw [h1, h2]
  have hvPass : ∀ j, j < m → ∃ ob v, e.h.get (name j) = some ob ∧ ob.mut = true ∧ S.val (name j) = some v ∧ (s.view S).val j = some v ∧ S2.val j = some v ∧ s.nameOf j = some (name j) := fun j hj => by
    obtain ⟨n, ob, v, h1, h2, h3, h4⟩ := hpass j hj
    have hn : name j = n := by simp [name, nameFor, h1]
    rw [hn]
    exact ⟨ob, v, h2, h3, h4, (hvalOld j n h1).trans h4, hS2old j n v h1 h4, h1⟩
  have hnInj : ∀ i j, i < len → j < len → name i = name j → i = j := fun i j hi hj hij => by
    by_cases h1 : i < m <;> by_cases h2 : j < m
    · obtain ⟨_, _, _, _, _, _, _, e1⟩ := hvPass i h1
      obtain ⟨_, _, _, _, _, _, _, e2⟩ := hvPass j h2
      rw [hij] at e1
      exact hs.one i j _ (by rw [hsd]; simp) (by rw [hsd]; simp) e1 e2
    · obtain ⟨ob, _, e1, _⟩ := hvPass i h1
      rw [hij, habs j (by omega) hj] at e1; cases e1
    · obtain ⟨ob, _, e1, _⟩ := hvPass j h2
      rw [← hij, habs i (by omega) hi] at e1; cases e1
    · rw [hnew i (by omega), hnew j (by omega)] at hij
      unfold nm at hij; omega
  -- the blocks that the callee may write
  let pwC : Nat → Prop := (FdOf gl w (s.view S) m).pw
  have hpw : ∀ b, pwC b → ∃ j ob v, j < m ∧ e.h.get (name j) = some ob ∧ ob.mut = true ∧ S.val (name j) = some v ∧ blk v = some b := fun b ⟨j, v, hj, hv, hb⟩ => by
    obtain ⟨ob, v', e1, e2, e3, e4, _⟩ := hvPass j hj
    rw [hv] at e4; cases e4
    exact ⟨j, ob, v, hj, e1, e2, e3, hb⟩
  have hpwOther : ∀ n o v b, e.h.get n = some o → o.mut = true → S.val n = some v → blk v = some b → (∀ j, j < m → name j ≠ n) → ¬ pwC b := fun n o v b h1 h2 h3 h4 h5 hc => by
    obtain ⟨j, ob, v', e1, e2, e3, e4, e5⟩ := hpw b hc
    exact hI.dis (name j) n ob o v' v b (h5 j e1) e2 h1 e3 h2 e4 h3 e5 h4
  -- B: what is passed is away
  have hkd : ∀ p ∈ (List.range m).map (fun j => (name j, Obj.dead)), p.2 = .dead := fun p hp => by obtain ⟨j, _, rfl⟩ := List.mem_map.1 hp; rfl
  have I1 := killAll ((List.range m).map fun j => (name j, Obj.dead)) (h := e.h) hI (fun p hp => by
    obtain ⟨j, hj, rfl⟩ := List.mem_map.1 hp
    obtain ⟨ob, v, e1, _⟩ := hvPass j (by simpa using hj)
    exact ⟨rfl, ob, e1⟩)
  generalize hh1 : setAll ((List.range m).map fun j => (name j, Obj.dead)) e.h = h1 at I1
  have g1 : ∀ n, (∀ j, j < m → name j ≠ n) → h1.get n = e.h.get n := fun n hn => by
    rw [← hh1]; exact setAll_notin fun p hp => by obtain ⟨j, hj, rfl⟩ := List.mem_map.1 hp; exact hn j (by simpa using hj)
  have g1m : ∀ n o, h1.get n = some o → o.mut = true → e.h.get n = some o ∧ ∀ j, j < m → name j ≠ n := fun n o hn hm => by
    have hne : ∀ j, j < m → name j ≠ n := fun j hj hc => by
      have := setAll_dead (h := e.h) (n := n) hkd ⟨(name j, .dead), List.mem_map.2 ⟨j, by simpa using hj, rfl⟩, hc⟩
      rw [hh1, hn] at this; cases this; cases hm
    exact ⟨(g1 n hne).symm.trans hn, hne⟩
  -- C: the callee's world
  have IC := I1.world (w' := w') pwC (fun b hb => by
    obtain ⟨j, ob, v, hj, e1, e2, e3, e4⟩ := hpw b hb
    have hw1 := hI.wr _ ob v b e1 e2 e3 e4
    refine ⟨hw1.1, hw1.2, fun n o u hn hm hu hc => ?_⟩
    obtain ⟨e5, e6⟩ := g1m n o hn hm
    exact hpwOther n o u b e5 hm hu hc e6 hb) (fun b hb hnb => I2.frame b hb hnb) I2.grow I2.os I2.tape I2.output
  -- D: what was lent is frozen, if something of it may have come back
  have hL : ∃ SA, Inv Fr nt SA ⟨e.t, setAll (bif g.outs.slfree then [] else s.l) h1⟩ a w' ∧ SA.val = S.val ∧ (∀ b, S.imm b → SA.imm b) ∧ ∀ b, SA.imm b → (s.view S).imm b := by
    refine freezeAll (s.view S).imm _ IC (fun n ob hm => ?_) (fun b hb => hA.imm0 b hb) (fun n ob v b hm hv hb => ?_)
    · cases hsf : g.outs.slfree with
      | true => rw [hsf] at hm; cases hm
      | false =>
        rw [hsf] at hm
        obtain ⟨t, k, xs, e1, rfl⟩ := hs.lst n ob hm
        refine ⟨k, xs, rfl, .inl ⟨t, ?_⟩⟩
        rw [g1 n (fun j hj hc => ?_)]
        · exact e1
        · obtain ⟨_, _, _, _, _, _, _, e8⟩ := hvPass j hj
          rw [hc] at e8
          exact hs.lent j n _ (by rw [hsd]; simp) e8 hm
    · cases hsf : g.outs.slfree with
      | true => rw [hsf] at hm; cases hm
      | false => rw [hsf] at hm; exact .inr ⟨n, ob, v, hm, hv, hb⟩
  obtain ⟨SA, IA, vA, iA, tA⟩ := hL
  generalize hLL : (bif g.outs.slfree then [] else s.l) = L at *
  have hLfr : ∀ p ∈ L, p.2.mut = false := fun p hp => by
    cases hsf : g.outs.slfree with
    | true => rw [hsf] at hLL; subst hLL; cases hp
    | false =>
      rw [hsf] at hLL; subst hLL
      obtain ⟨t, k, xs, _, h⟩ := hs.lst p.1 p.2 hp
      rw [h]; rfl
  generalize hh2 : setAll L h1 = h2 at IA
  have g2m : ∀ n o, h2.get n = some o → o.mut = true → h1.get n = some o ∧ ∀ p ∈ L, p.1 ≠ n := fun n o hn hm => by
    have hne : ∀ p ∈ L, p.1 ≠ n := fun p hp hc => by
      obtain ⟨o', e1, e2⟩ := setAll_frz (h := h1) hLfr ⟨p, hp, hc⟩
      rw [hh2, hn] at e1; cases e1; rw [hm] at e2; cases e2
    exact ⟨by rw [← hh2, setAll_notin hne] at hn; exact hn, hne⟩
  have himm2 : ∀ b, S2.imm b → b < w'.heap.size ∧ ((s.view S).imm b ∨ w.heap.size ≤ b ∨ pwC b) := fun b hb => I2.imm b hb
  have hview : ∀ b, (s.view S).imm b → S2.imm b := fun b hb => I2.imm0 b hb
  have hFr : ∀ b, (w.heap.size ≤ b ∨ pwC b) → (Fr.w0.heap.size ≤ b ∨ Fr.pw b) := fun b hb => by
    rcases hb with hb | hb
    · exact .inl (Nat.le_trans hI.grow hb)
    · obtain ⟨j, ob, v, hj, e1, e2, e3, e4⟩ := hpw b hb
      exact (hI.wr _ ob v b e1 e2 e3 e4).2
  -- E: what the callee left for good
  have IB := IA.moreImm (fun b => g.outs.slfree = false ∧ S2.imm b) (fun b hb => by
    obtain ⟨e1, e2⟩ := himm2 b hb.2
    refine ⟨e1, ?_⟩
    rcases e2 with e2 | e2
    · rcases hA.imm b e2 with e3 | ⟨n, t, k, xs, v, e3, e4, e5⟩
      · exact (hI.imm b e3).2
      · exact .inr (hI.wr n _ v b e3 rfl e4 e5).2
    · exact .inr (hFr b e2)) (fun n o v b hn hm hv hb hc => by
    obtain ⟨e1, e2⟩ := g2m n o hn hm
    obtain ⟨e3, e4⟩ := g1m n o e1 hm
    rw [vA] at hv
    obtain ⟨_, e5⟩ := himm2 b hc.2
    rcases e5 with e5 | e5 | e5
    · rcases e5 with e5 | ⟨n', ob', v', e6, e7, e8⟩
      · exact (hI.wr n o v b e3 hm hv hb).1 e5
      · obtain ⟨t, k, xs, e9, _⟩ := hs.lst n' ob' e6
        have hne : n' ≠ n := fun hcc => by
          refine e2 (n', ob') ?_ hcc
          rw [hc.1] at hLL; rw [← hLL]; exact e6
        exact hI.dis n' n _ o v' v b hne e9 e3 rfl hm e7 hv e8 hb
    · have := mut_lt hI e3 hm hv hb; omega
    · exact hpwOther n o v b e3 hm hv hb e4 e5)
  -- F: the new names
  have hS2some : ∀ j, j < len → ∃ v, S2.val j = some v := fun j hj => by
    obtain ⟨o, ho⟩ := hsome j hj
    exact (I2.objs j o ho).val
  have hnl : ∀ p ∈ (List.range (len - m)).map (fun i => (name (m + i), (S2.val (m + i)).getD undef)), ∃ j, m ≤ j ∧ j < len ∧ p.1 = name j ∧ S2.val j = some p.2 := fun p hp => by
    obtain ⟨i, hi, rfl⟩ := List.mem_map.1 hp
    have hi' : i < len - m := by simpa using hi
    obtain ⟨v, hv⟩ := hS2some (m + i) (by omega)
    exact ⟨m + i, by omega, by omega, rfl, by simp [hv]⟩
  obtain ⟨SC, ICC, iC, gC, pC, oC⟩ := bindAll ((List.range (len - m)).map fun i => (name (m + i), (S2.val (m + i)).getD undef)) IB (fun p hp => by
    obtain ⟨j, e1, e2, e3, e4⟩ := hnl p hp
    left
    show SA.val p.1 = none
    rw [vA, e3]
    exact hI.news _ (habs j e1 e2)) (fun p hp q hq hpq => by
    obtain ⟨j, e1, e2, e3, e4⟩ := hnl p hp
    obtain ⟨j', e1', e2', e3', e4'⟩ := hnl q hq
    have := hnInj j j' e2 e2' (by rw [← e3, ← e3', hpq])
    subst this
    rw [e4] at e4'; exact Option.some.inj e4')
  have hSC : ∀ j v, S2.val j = some v → SC.val (name j) = some v := fun j v hv => by
    by_cases hj : j < len
    · by_cases hjm : j < m
      · obtain ⟨ob, v', e1, e2, e3, e4, e5, e6⟩ := hvPass j hjm
        rw [hv] at e5; cases e5
        exact gC _ _ (by show SA.val (name j) = some v; rw [vA]; exact e3)
      · have := pC (name (m + (j - m)), (S2.val (m + (j - m))).getD undef) (List.mem_map.2 ⟨j - m, by simp; omega, rfl⟩)
        rw [show m + (j - m) = j by omega] at this
        rw [this, hv]; rfl
    · have : H.get j = none := by
        cases h : H.get j with
        | none => rfl
        | some o => exact absurd (hget j o h) hj
      rw [I2.news j this] at hv; cases hv
  generalize hh3 : setAll (((List.range (len - m)).map fun i => (name (m + i), (S2.val (m + i)).getD undef)).map fun p => (p.1, Obj.dead)) h2 = h3 at ICC
  have g3 : ∀ n, (∀ j, m ≤ j → j < len → name j ≠ n) → h3.get n = h2.get n := fun n hn => by
    rw [← hh3]; refine setAll_notin fun p hp => ?_
    obtain ⟨q, hq, rfl⟩ := List.mem_map.1 hp
    obtain ⟨j, e1, e2, e3, _⟩ := hnl q hq
    show q.1 ≠ n
    rw [e3]; exact hn j e1 e2
  have g3m : ∀ n o, h3.get n = some o → o.mut = true → h2.get n = some o := fun n o hn hm => by
    rw [← g3 n (fun j e1 e2 hc => ?_)]
    · exact hn
    · have := setAll_dead (h := h2) (n := n) (ups := ((List.range (len - m)).map fun i => (name (m + i), (S2.val (m + i)).getD undef)).map fun p => (p.1, Obj.dead)) (fun p hp => by obtain ⟨q, _, rfl⟩ := List.mem_map.1 hp; rfl)
        ⟨_, List.mem_map.2 ⟨_, List.mem_map.2 ⟨j - m, by simp; omega, rfl⟩, rfl⟩, by show name (m + (j - m)) = n; rw [show m + (j - m) = j by omega]; exact hc⟩
      rw [hh3, hn] at this; cases this; cases hm
  -- G: the objects as they came back
  have himmC : ∀ b, SC.imm b ↔ (SA.imm b ∨ (g.outs.slfree = false ∧ S2.imm b)) := fun b => by rw [iC]
  have hfreeCell : ∀ (c : Cell), (g.outs.slfree = true → c.free = true) → (∀ b, S2.imm b → SC.imm b) ∨ c.free = true := fun c hc => by
    cases hsf : g.outs.slfree with
    | true => exact .inr (hc hsf)
    | false => exact .inl fun b hb => (himmC b).2 (.inr ⟨hsf, hb⟩)
  have hslf : g.outs.slfree = true → g.outs.h.all Shape.slfreeO = true ∧ (g.outs.t.all fun p => Shape.slfreeA p.2) = true := fun h => by
    unfold Shape.slfree at h
    exact Bool.and_eq_true _ _ ▸ h
  have IG := layAll (S2 := S2) (S3 := SC) (name := name) (H := H) (fun b => b < w.heap.size ∧ ¬ pwC b) (fun j o v _ hv => hSC j v hv) (fun i j o p hi hj hij => hnInj i j (hget i o hi) (hget j p hj) hij)
    (fun j o ho => (I2.objs j o ho).ren hSC (by
      cases hsf : g.outs.slfree with
      | true =>
        right
        refine encH_free (l := g.outs.h) (j := 0) (x := (g.dn y).2) (hslf hsf).1 j o ?_
        rw [hH]; exact ho
      | false => exact .inl fun b hb => (himmC b).2 (.inr ⟨hsf, hb⟩)))
    (fun j o v b ho hm hv hb => by
      have hw2 := I2.wr j o v b ho hm hv hb
      refine ⟨fun hc => ?_, hFr b hw2.2, fun hc => ?_⟩
      · rcases (himmC b).1 hc with hc | hc
        · exact hw2.1 (hview b (tA b hc))
        · exact hw2.1 hc.2
      · rcases hw2.2 with h | h
        · have : w.heap.size ≤ b := h; omega
        · exact hc.2 h)
    I2.dis (fun j o ho => (I2.objs j o ho).val) H (fun p hp => (hmemH p hp).2) ICC (fun n o v b hn hm hv hb => by
      have e1 := g3m n o hn hm
      obtain ⟨e2, _⟩ := g2m n o e1 hm
      obtain ⟨e3, e4⟩ := g1m n o e2 hm
      left
      obtain ⟨v', hv'⟩ := (hI.objs n o e3).val
      have : SC.val n = some v' := gC n v' (by show SA.val n = some v'; rw [vA]; exact hv')
      rw [hv] at this; cases this
      exact ⟨mut_lt hI e3 hm hv' hb, hpwOther n o v b e3 hm hv' hb e4⟩)
  -- H: the same objects as the engine says
  refine ⟨SC, ?_, fun z hz => ?_⟩
  · rw [hrr]
    show Inv Fr nt SC ⟨e.t, setAll ((H.map fun p => (name p.1, p.2.ren name)).drop m) (setAll (L ++ (H.map fun p => (name p.1, p.2.ren name)).take m) e.h)⟩ a w'
    have hsplit : setAll ((H.map fun p => (name p.1, p.2.ren name)).drop m) (setAll (L ++ (H.map fun p => (name p.1, p.2.ren name)).take m) e.h) = setAll (H.map fun p => (name p.1, p.2.ren name)) (setAll L e.h) := by
      rw [setAll_append, ← setAll_append, List.take_append_drop]
    rw [hsplit]
    refine IG.congr fun n => ?_
    by_cases hex : ∃ p ∈ H.map (fun p => (name p.1, p.2.ren name)), p.1 = n
    · exact setAll_in hex
    · have hno : ∀ p ∈ H.map (fun p => (name p.1, p.2.ren name)), p.1 ≠ n := fun p hp hc => hex ⟨p, hp, hc⟩
      have hnj : ∀ j, j < len → name j ≠ n := fun j hj hc => by
        obtain ⟨o, ho⟩ := hsome j hj
        obtain ⟨k, hk⟩ := AL.get_mem ho
        exact hno (name j, o.ren name) (List.mem_map.2 ⟨(j, o), List.mem_of_getElem? hk, rfl⟩) hc
      rw [setAll_notin hno]
      show (setAll L e.h).get n = (setAll (H.map fun p => (name p.1, p.2.ren name)) h3).get n
      rw [setAll_notin hno, g3 n (fun j _ hj => hnj j hj), ← hh2]
      by_cases hexL : ∃ p ∈ L, p.1 = n
      · exact setAll_in hexL
      · have hnoL : ∀ p ∈ L, p.1 ≠ n := fun p hp hc => hexL ⟨p, hp, hc⟩
        rw [setAll_notin hnoL, setAll_notin hnoL, g1 n (fun j hj => hnj j (by omega))]
  · rw [hrr] at hz
    cases hz
    refine hv.ren hSC ?_
    have hall : g.outs.slfree = true → v0.all fun c => c.free = true := fun hsf => encT_free (hslf hsf).2 ht
    cases v0 with
    | c c => exact hfreeCell c hall
    | agg cs => exact fun c hc => hfreeCell c fun h => hall h c hc
    | tup l => exact fun q hq c hc => hfreeCell c fun h => hall h q hq c hc
end
end Go.Eng
