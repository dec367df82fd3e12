/-
  The engine, eighth part: the operations, one by one (slices, lengths, append, literals).
-/
import Derived.Test.YtmcmkdiefpepnaaDoorEngG
set_option linter.unusedVariables false
set_option linter.unusedSimpArgs false
namespace Go.Eng
section
variable {P : Program} {C : Ctx} {Fr : Fd} {S : St} {o : Oper} {e : Env} {a : Act} {w : World} {r : Res} {F : List Nat}

/-- A bound that may be left out. -/
def RepOpt (w : World) (S : St) : Option AVal → Option Value → Prop
  | none, none => True
  | some x, some v => RepA w S x v
  | _, _ => False
theorem cut_ok {lo hi : Option AVal} {lo' hi' : Option Value} {n : Nat} {f : Nat → Nat → RM Res} {h : Nat → Option Obj} {y : Res × List Nat} (hl : RepOpt w S lo lo') (hh : RepOpt w S hi hi')
    (hx : (cutA lo hi n f).run h = some y) : ∃ l m, (f l m).run h = some y ∧ l ≤ m ∧ m ≤ n ∧ ∀ b cap, n ≤ cap → (Instr.sliceBounds b n cap lo' hi' none).run P w = .ok (l, m, cap) w := by
  unfold cutA at hx
  have num : ∀ {x : AVal} {v : Value} {d k : Int}, RepA w S x v → boundA (some x) d = some k → ∃ q, v = .int q k := fun {x v d k} hr hb => by
    cases x with
    | c z => cases z <;> first | (simp only [boundA, Option.some.injEq] at hb; subst hb; exact ⟨_, hr.1⟩) | cases hb
    | _ => cases hb
  cases hlo : boundA lo 0 with
  | none => rw [hlo] at hx; exact run_fail hx
  | some l =>
    cases hhi : boundA hi (n : Int) with
    | none => rw [hlo, hhi] at hx; exact run_fail hx
    | some m =>
      rw [hlo, hhi] at hx
      obtain ⟨h1, hx⟩ := RM.run_asks hx
      obtain ⟨h2, hx⟩ := RM.run_asks hx
      refine ⟨l.toNat, m.toNat, hx, ?_⟩
      cases hi with
      | none =>
        cases hi' with
        | some _ => exact hh.elim
        | none =>
          simp only [boundA, Option.some.injEq] at hhi; subst hhi
          cases lo with
          | none =>
            cases lo' with
            | some _ => exact hl.elim
            | none =>
              simp only [boundA, Option.some.injEq] at hlo; subst hlo
              exact ⟨by simp, by simp, fun b cap hn => by simp [Instr.sliceBounds]⟩
          | some x =>
            cases lo' with
            | none => exact hl.elim
            | some v =>
              obtain ⟨q, rfl⟩ := num hl hlo
              simp only [Bool.and_eq_true, decide_eq_true_eq] at h2
              exact ⟨by omega, by omega, fun b cap hn => by simp [Instr.sliceBounds, run_sliceBound, h2.1, h2.2]⟩
      | some x =>
        cases hi' with
        | none => exact hh.elim
        | some v =>
          obtain ⟨q, rfl⟩ := num hh hhi
          simp only [Bool.and_eq_true, decide_eq_true_eq] at h1
          have em : (m.toNat : Int) = m := Int.toNat_of_nonneg h1.1
          cases lo with
          | none =>
            cases lo' with
            | some _ => exact hl.elim
            | none =>
              simp only [boundA, Option.some.injEq] at hlo; subst hlo
              exact ⟨by simp, by omega, fun b cap hn => by cases b <;> simp [Instr.sliceBounds, run_sliceBound, h1.1, show m ≤ (cap : Int) by omega]⟩
          | some z =>
            cases lo' with
            | none => exact hl.elim
            | some u =>
              obtain ⟨q', rfl⟩ := num hl hlo
              simp only [Bool.and_eq_true, decide_eq_true_eq] at h2
              exact ⟨by omega, by omega, fun b cap hn => by cases b <;> simp [Instr.sliceBounds, run_sliceBound, h1.1, show m ≤ (cap : Int) by omega, h2.1, em, h2.2]⟩

/-- A stretch of an immutable list. -/
theorem SlV.cut {imm : Nat → Prop} {k : Kind} {xs : List k.den} {ad : Option Addr} {len cap l m : Nat} (h : SlV w imm k xs (.slice ad len cap)) (hl : l ≤ m) (hm : m ≤ len) :
    SlV w imm k ((xs.take m).drop l) (.slice (if cap = l then ad else ad.map (·.add (l * k.sz))) (m - l) (cap - l)) := by
  obtain ⟨ad', len', cap', he, hlen, hcap, hn, hr⟩ := h
  simp only [Option.some.injEq, Value.slice.injEq] at he
  obtain ⟨rfl, rfl, rfl⟩ := he
  refine ⟨_, _, _, rfl, by simp; omega, by omega, fun hnone => ?_, ?_⟩
  · split at hnone
    · rename_i hc; omega
    · cases ad with
      | none => have := hn rfl; omega
      | some ad => cases hnone
  · by_cases hc : cap = l
    · left; apply List.eq_nil_of_length_eq_zero; simp; omega
    · rcases hr with hr | ⟨b, p, rfl, hb, hel⟩
      · left; rw [hr]; simp
      · right
        refine ⟨b, p + l * k.sz, by rw [if_neg hc]; simp [Addr.add_mid], hb, fun i x hi => ?_⟩
        rw [List.getElem?_drop, List.getElem?_take] at hi
        split at hi
        · have := hel _ x hi
          rw [Nat.add_mul] at this
          refine this.keep (fun _ _ => rfl) (fun _ h => h) fun j _ => ?_
          congr 2; omega
        · cases hi

theorem did_slice (hC : C.Ok P) (hI : Inv Fr C.nt S e a w) {t : TypeId} {x : Operand} {lo hi mx : Option Operand} (ho : o.op = .slice t x lo hi mx) (hx : (effA C e.t.get o.dst o.op).run e.h.get = some (r, F)) : Did P Fr C.nt o e a w r := by
  rw [ho] at hx
  simp only [effA] at hx
  cases mx with
  | some _ => exact run_fail hx
  | none =>
    simp only at hx
    obtain ⟨v, hv, hx⟩ := un_inv hx
    have hr := evalA_rep hI hv
    have main : ∃ lo' hi' : Option AVal, RepOpt w S lo' (lo.map a.eval) ∧ RepOpt w S hi' (hi.map a.eval) ∧ (sliceA C t v lo' hi').run e.h.get = some (r, F) := by
      cases lo with
      | none =>
        cases hi with
        | none => exact ⟨none, none, trivial, trivial, hx⟩
        | some h => obtain ⟨u, hu, hx⟩ := un_inv hx; exact ⟨none, some u, trivial, evalA_rep hI hu, hx⟩
      | some l =>
        cases hi with
        | none => obtain ⟨u, hu, hx⟩ := un_inv hx; exact ⟨some u, none, evalA_rep hI hu, trivial, hx⟩
        | some h => obtain ⟨u, u', hu, hu', hx⟩ := bi_inv hx; exact ⟨some u, some u', evalA_rep hI hu, evalA_rep hI hu', hx⟩
    clear hx
    obtain ⟨lo', hi', hlo, hhi, hx⟩ := main
    -- what the model does with an immutable list
    have key : ∀ {te : TypeId} {k : Kind} {xs : List k.den} {imm : Nat → Prop} {l m : Nat}, P.underlying t = some (.slice te) → elemOk C te k = true → SlV w imm k xs (a.eval x) → l ≤ m → m ≤ xs.length →
        (∀ b cap, xs.length ≤ cap → (Instr.sliceBounds b xs.length cap (lo.map a.eval) (hi.map a.eval) none).run P w = .ok (l, m, cap) w) →
        ∃ u, (execOp a.eval o).run P w = .ok (.value u) w ∧ SlV w imm k ((xs.take m).drop l) u := by
      intro te k xs imm l m hd hel hs hlm hmn hb
      obtain ⟨ad, len, cap, he, hlen, hcap, hn, hrest⟩ := hs
      simp only [Option.some.injEq] at he
      subst hlen
      refine ⟨_, ?_, SlV.cut (l := l) (m := m) (ad := ad) (len := xs.length) (cap := cap) ⟨ad, _, cap, rfl, rfl, hcap, hn, hrest⟩ hlm hmn⟩
      simp [execOp, ho, he, Instr.sliceAt, Instr.slice, run_underlying hd, hb true cap hcap, elemOk_size hC hel]
    unfold sliceA at hx
    split at hx
    · rename_i s hti
      obtain ⟨_, d, _, hd, hu, _⟩ := under hC hti
      have hd' := UD.of_str hu.symm
      subst hd'
      have hev : a.eval x = .string s := hr.1
      obtain ⟨l, m, hx, hlm, hmn, hb⟩ := cut_ok (P := P) hlo hhi hx
      obtain ⟨rfl, rfl⟩ := run_ret hx
      refine did_pure hI (v := .string (s.extract l m)) ?_ ⟨rfl, rfl⟩
      simp [execOp, ho, hev, Instr.sliceAt, Instr.slice, run_underlying hd, hb false s.size (Nat.le_refl _)]
    · rename_i te _ _ _ _ _ _ _ k xs hti
      obtain ⟨_, d, _, hd, hu, _⟩ := under hC hti
      have hd' := UD.of_slice hu.symm
      subst hd'
      cases hel : elemOk C te k with
      | false => rw [hel] at hx; exact run_fail hx
      | true =>
        rw [hel] at hx
        simp only [cond_true] at hx
        obtain ⟨l, m, hx, hlm, hmn, hb⟩ := cut_ok (P := P) hlo hhi hx
        obtain ⟨rfl, rfl⟩ := run_ret hx
        obtain ⟨u, h1, h2⟩ := key hd hel hr.1 hlm hmn hb
        exact did_pure hI h1 ⟨h2, h2.one⟩
    · rename_i te _ _ _ _ _ _ _ n hti
      obtain ⟨_, d, _, hd, hu, _⟩ := under hC hti
      have hd' := UD.of_slice hu.symm
      subst hd'
      obtain ⟨ob, F', hn, hy, rfl⟩ := RM.run_look hx
      cases ob with
      | frz k xs =>
        simp only at hy
        cases hel : elemOk C te k with
        | false => rw [hel] at hy; exact run_fail hy
        | true =>
          rw [hel] at hy
          simp only [cond_true] at hy
          obtain ⟨l, m, hy, hlm, hmn, hb⟩ := cut_ok (P := P) hlo hhi hy
          obtain ⟨rfl, rfl⟩ := run_ret hy
          obtain ⟨v', hvv, hs⟩ := hI.objs n _ hn
          rw [hr.1.1] at hvv; cases hvv
          obtain ⟨u, h1, h2⟩ := key hd hel hs hlm hmn hb
          exact did_pure hI h1 ⟨h2, h2.one⟩
      | lst te' k xs =>
        simp only at hy
        cases hel : elemOk C te k with
        | false => rw [hel] at hy; exact run_fail hy
        | true =>
          rw [hel] at hy
          simp only [cond_true] at hy
          obtain ⟨l, m, hy, hlm, hmn, hb⟩ := cut_ok (P := P) hlo hhi hy
          obtain ⟨rfl, rfl⟩ := run_ret hy
          obtain ⟨v', hvv, hI'⟩ := hI.freeze hn k.sz_pos
          rw [hr.1.1] at hvv; cases hvv
          obtain ⟨v', hvv, hs⟩ := hI'.objs n (.frz k xs) (by simp [AL.get_set])
          have hvv' : (S.froze (a.eval x)).val n = some (a.eval x) := hr.1.1
          rw [hvv'] at hvv; cases hvv
          obtain ⟨u, h1, h2⟩ := key hd hel hs hlm hmn hb
          exact did_value h1 (fun z hz => by cases hz; exact ⟨h2, h2.one⟩) hI'
      | _ => exact run_fail hy
    · exact run_fail hx

theorem len_ok (hC : C.Ok P) (hI : Inv Fr C.nt S e a w) {t : TypeId} {x y : AVal} {v : Value} {ts : List TypeId} {ty : TypeId} (hr : RepA w S x v) (hx : (lenA C t x).run e.h.get = some (y, F)) :
    ∃ u, (Builtin.len_ (t :: ts).toArray ty #[v]).run P w = .ok u w ∧ RepA w S y u := by
  unfold lenA at hx
  split at hx
  · rename_i s hti
    obtain ⟨_, d, _, hd, hu, _⟩ := under hC hti
    have hd' := UD.of_str hu.symm
    subst hd'
    obtain ⟨rfl, rfl⟩ := run_ret hx
    have hev : v = .string s := hr.1
    exact ⟨.int .i64 s.size, by simp [Builtin.len_, hev, run_underlying hd, goInt], rfl, rfl⟩
  · rename_i te _ _ _ _ _ _ _ k xs hti
    obtain ⟨_, d, _, hd, hu, _⟩ := under hC hti
    have hd' := UD.of_slice hu.symm
    subst hd'
    obtain ⟨rfl, rfl⟩ := run_ret hx
    obtain ⟨ad, len, cap, he, hlen, _⟩ := hr.1
    simp only [Option.some.injEq] at he
    exact ⟨.int .i64 xs.length, by simp [Builtin.len_, he, run_underlying hd, goInt, hlen], rfl, rfl⟩
  · rename_i te _ _ _ _ _ _ _ hti
    obtain ⟨_, d, _, hd, hu, _⟩ := under hC hti
    have hd' := UD.of_slice hu.symm
    subst hd'
    obtain ⟨rfl, rfl⟩ := run_ret hx
    have hev : v = .slice none 0 0 := hr.1
    exact ⟨.int .i64 0, by simp [Builtin.len_, hev, run_underlying hd, goInt], rfl, rfl⟩
  · rename_i te _ _ _ _ _ _ _ n hti
    obtain ⟨_, d, _, hd, hu, _⟩ := under hC hti
    have hd' := UD.of_slice hu.symm
    subst hd'
    obtain ⟨ob, F', hn, hy, rfl⟩ := RM.run_look hx
    cases ob with
    | lst te' k xs =>
      obtain ⟨rfl, rfl⟩ := run_ret hy
      obtain ⟨v', flat, hvv, h2, _⟩ := hI.objs n _ hn
      rw [hr.1.1] at hvv; cases hvv
      rcases h2.2 with ⟨h, h0⟩ | ⟨g, cap', cur, h, _⟩
      · exact ⟨.int .i64 xs.length, by simp [Builtin.len_, h, run_underlying hd, goInt, h0], rfl, rfl⟩
      · exact ⟨.int .i64 xs.length, by simp [Builtin.len_, h, run_underlying hd, goInt], rfl, rfl⟩
    | frz k xs =>
      obtain ⟨rfl, rfl⟩ := run_ret hy
      obtain ⟨v', hvv, ad, len, cap, he, hlen, _⟩ := hI.objs n _ hn
      rw [hr.1.1] at hvv; cases hvv
      simp only [Option.some.injEq] at he
      exact ⟨.int .i64 xs.length, by simp [Builtin.len_, he, run_underlying hd, goInt, hlen], rfl, rfl⟩
    | _ => exact run_fail hy
  · exact run_fail hx

/-! ### Append -/
/-- The elements of a slice that is read, as cells that lie somewhere. -/
theorem elems_ok (hI : Inv Fr C.nt S e a w) {k : Kind} {x : AVal} {v : Value} {ys : List k.den} (hr : RepA w S x v) (hx : (elemsA k x).run e.h.get = some (ys, F)) :
    ∃ news : List Value, (∀ u ∈ news, u.oneCell' = true) ∧ news.length = ys.length * k.sz ∧ (∀ i y, ys[i]? = some y → RepK w S.imm k y fun j => news[i * k.sz + j]?) ∧
      ((v = .slice none 0 0 ∧ ys = []) ∨ ∃ ad cap, v = .slice (some ad) ys.length cap ∧ ∀ (j : Nat) u, news[j]? = some u → w.cell? (ad.add j) = some u) := by
  -- of an immutable one
  have imm : ∀ {xs : List k.den}, SlV w S.imm k xs v → ∃ news : List Value, (∀ u ∈ news, u.oneCell' = true) ∧ news.length = xs.length * k.sz ∧ (∀ i y, xs[i]? = some y → RepK w S.imm k y fun j => news[i * k.sz + j]?) ∧
      ((v = .slice none 0 0 ∧ xs = []) ∨ ∃ ad cap, v = .slice (some ad) xs.length cap ∧ ∀ (j : Nat) u, news[j]? = some u → w.cell? (ad.add j) = some u) := by
    intro xs hs
    obtain ⟨ad, len, cap, he, hlen, hcap, hn, hrest⟩ := hs
    simp only [Option.some.injEq] at he
    subst he
    cases ad with
    | none =>
      have hc := hn rfl
      have hl : xs = [] := List.eq_nil_of_length_eq_zero (by omega)
      subst hl hc
      exact ⟨[], (fun u hu => by cases hu), by simp, (fun i y hi => by simp at hi), .inl ⟨by simp at hlen; rw [hlen], rfl⟩⟩
    | some ad =>
      rcases hrest with rfl | ⟨b, p, hab, hb, hel⟩
      · exact ⟨[], (fun u hu => by cases hu), by simp, (fun i y hi => by simp at hi), .inr ⟨ad, cap, by rw [hlen], (fun j u hj => by simp at hj)⟩⟩
      · cases hab
        -- element by element
        have build : ∀ (l : List k.den) (q : Nat), (∀ i x, l[i]? = some x → RepK w S.imm k x fun j => w.cell? ⟨b, p + (q + i) * k.sz + j, none⟩) →
            ∃ news : List Value, (∀ u ∈ news, u.oneCell' = true) ∧ news.length = l.length * k.sz ∧ ∀ j, j < l.length * k.sz → w.cell? ⟨b, p + q * k.sz + j, none⟩ = news[j]? := by
          intro l
          induction l with
          | nil => intro q _; exact ⟨[], (fun u hu => by cases hu), by simp, (fun j hj => by simp at hj)⟩
          | cons y l ih =>
            intro q hq
            obtain ⟨vs, h1, h2, h3, h4⟩ := (hq 0 y rfl).cells
            obtain ⟨ns, n1, n2, n3⟩ := ih (q + 1) (fun i x hi => by have := hq (i + 1) x (by simpa using hi); rwa [show q + (i + 1) = q + 1 + i by omega] at this)
            refine ⟨vs ++ ns, fun u hu => (List.mem_append.1 hu).elim (h4 u) (n1 u), by simp [h1, n2, Nat.add_mul, Nat.add_comm], fun j hj => ?_⟩
            by_cases hlt : j < k.sz
            · rw [List.getElem?_append_left (by omega), ← h2 j hlt]; simp
            · have := n3 (j - k.sz) (by simp [Nat.add_mul] at hj; omega)
              rw [List.getElem?_append_right (by omega), h1, ← this]
              congr 2; rw [Nat.add_mul]; omega
        obtain ⟨ns, n1, n2, n3⟩ := build xs 0 (fun i x hi => by simpa using hel i x hi)
        refine ⟨ns, n1, n2, fun i y hi => (hel i y hi).keep (fun _ _ => rfl) (fun _ h => h) (fun j hj => ?_), .inr ⟨_, cap, by rw [hlen], fun j u hj => ?_⟩⟩
        · have hlt : i < xs.length := (List.getElem?_eq_some_iff.1 hi).1
          have hm : (i + 1) * k.sz ≤ xs.length * k.sz := Nat.mul_le_mul_right _ hlt
          rw [Nat.add_mul, Nat.one_mul] at hm
          rw [← n3 _ (by omega)]
          congr 2; omega
        · have hlt : j < ns.length := (List.getElem?_eq_some_iff.1 hj).1
          rw [Addr.add_mid, ← hj, ← n3 j (by omega)]
          congr 2; omega
  unfold elemsA at hx
  split at hx
  · split at hx
    · rename_i k' xs hk
      subst hk
      obtain ⟨rfl, rfl⟩ := run_ret hx
      exact imm hr.1
    · exact run_fail hx
  · obtain ⟨rfl, rfl⟩ := run_ret hx
    exact ⟨[], (fun u hu => by cases hu), by simp, (fun i y hi => by simp at hi), .inl ⟨hr.1, rfl⟩⟩
  · rename_i n
    obtain ⟨ob, F', hn, hy, rfl⟩ := RM.run_look hx
    cases ob with
    | lst te k' xs =>
      simp only at hy
      split at hy
      · rename_i hk
        subst hk
        obtain ⟨rfl, rfl⟩ := run_ret hy
        obtain ⟨v', flat, hvv, h2, h3, h4⟩ := hI.objs n _ hn
        rw [hr.1.1] at hvv; cases hvv
        refine ⟨flat, h4, h2.1, h3, ?_⟩
        rcases h2.2 with ⟨h, h0⟩ | ⟨g, cap', cur, h, _⟩
        · exact .inl ⟨h, List.eq_nil_of_length_eq_zero h0⟩
        · exact .inr ⟨_, cap', h, h2.cells (by rw [h]; rfl)⟩
      · exact run_fail hy
    | frz k' xs =>
      simp only at hy
      split at hy
      · rename_i hk
        subst hk
        obtain ⟨rfl, rfl⟩ := run_ret hy
        obtain ⟨v', hvv, hs⟩ := hI.objs n _ hn
        rw [hr.1.1] at hvv; cases hvv
        exact imm hs
      · exact run_fail hy
    | _ => exact run_fail hy
  · exact run_fail hx
end
end Go.Eng
