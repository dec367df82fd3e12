/-
  The engine, eleventh part: what fits a shape is what the shape says.
-/
import Derived.Test.YtmcmkdiefpepnaaDoorEngJ
set_option linter.unusedVariables false
set_option linter.unusedSimpArgs false
namespace Go.Eng

structure FS.le (s s' : FS) : Prop where
  m : ∀ j n, s.nameOf j = some n → s'.nameOf j = some n
  z : ∀ j, j ∈ s.z → j ∈ s'.z
  l : ∀ p, p ∈ s.l → p ∈ s'.l
theorem FS.le.refl (s : FS) : s.le s := ⟨fun _ _ h => h, fun _ h => h, fun _ h => h⟩
theorem FS.le.trans {a b c : FS} (h : a.le b) (k : b.le c) : a.le c := ⟨fun j n x => k.m j n (h.m j n x), fun j x => k.z j (h.z j x), fun p x => k.l p (h.l p x)⟩

/-- What is tied is tied to one, and what is lent is not tied. -/
structure FS.Ok (h : Nat → Option Obj) (S : St) (s : FS) : Prop where
  val : ∀ j n, s.nameOf j = some n → ∃ v, S.val n = some v
  one : ∀ i j n, s.nameOf i = some n → s.nameOf j = some n → i = j
  lent : ∀ j n ob, s.nameOf j = some n → (n, ob) ∈ s.l → False
  lst : ∀ n ob, (n, ob) ∈ s.l → ∃ t k xs, h n = some (.lst t k xs) ∧ ob = .frz k xs
  z : ∀ j, j ∈ s.z → s.nameOf j = none

/-- S' numbers what S names. -/
structure FS.Sees (s : FS) (S S' : St) : Prop where
  m : ∀ j n, s.nameOf j = some n → S'.val j = S.val n
  z : ∀ j, j ∈ s.z → S'.val j = some (.slice none 0 0)
  l : ∀ n ob v b, (n, ob) ∈ s.l → S.val n = some v → blk v = some b → S'.imm b
  imm : ∀ b, S.imm b → S'.imm b
theorem FS.Sees.of_le {s s' : FS} {S S' : St} (h : s.le s') (k : s'.Sees S S') : s.Sees S S' :=
  ⟨fun j n x => k.m j n (h.m j n x), fun j x => k.z j (h.z j x), fun n ob v b x => k.l n ob v b (h.l _ x), k.imm⟩

section
variable {h : Nat → Option Obj} {S : St} {s s' : FS} {F : List Nat}
theorem named_false {n : Nat} (hn : s.named n = false) : ∀ j, s.nameOf j ≠ some n := by
  unfold FS.named at hn
  unfold FS.nameOf
  have : ∀ (l : List (Nat × Nat)), (l.any fun p => Nat.beq p.2 n) = false → ∀ j, AL.get l j ≠ some n := fun l => by
    induction l with
    | nil => intro _ j hj; cases hj
    | cons p l ih =>
      intro ha j hj
      simp only [List.any_cons, Bool.or_eq_false_iff] at ha
      simp only [AL.get] at hj
      cases hb : Nat.beq j p.1 with
      | true => rw [hb] at hj; simp only [cond_true, Option.some.injEq] at hj; rw [hj, Nat.beq_refl] at ha; cases ha.1
      | false => rw [hb] at hj; exact ih ha.2 j hj
  exact this s.m hn
theorem lent_false {n : Nat} (hn : s.lent n = false) : ∀ ob, (n, ob) ∉ s.l := fun ob hm => by
  unfold FS.lent at hn
  rw [List.any_eq_false] at hn
  exact hn _ hm (Nat.beq_refl n)
theorem tie_ok (hs : s.Ok h S) {j n : Nat} (hv : ∃ v, S.val n = some v) (hx : (s.tie j n).run h = some (s', F)) : s.le s' ∧ s'.Ok h S ∧ s'.nameOf j = some n := by
  unfold FS.tie at hx
  cases hj : s.nameOf j with
  | some n' =>
    rw [hj] at hx
    simp only at hx
    cases hb : Nat.beq n n' with
    | false => rw [hb] at hx; exact run_fail hx
    | true =>
      rw [hb] at hx
      obtain ⟨rfl, _⟩ := run_ret hx
      have := beq_iff.1 hb
      subst this
      exact ⟨FS.le.refl _, hs, hj⟩
  | none =>
    rw [hj] at hx
    simp only at hx
    cases hb : (s.named n || s.lent n || mem j s.z) with
    | true => rw [hb] at hx; exact run_fail hx
    | false =>
      rw [hb] at hx
      obtain ⟨rfl, _⟩ := run_ret hx
      simp only [Bool.or_eq_false_iff] at hb
      have hget : ∀ i, FS.nameOf { s with m := (j, n) :: s.m } i = if i = j then some n else s.nameOf i := fun i => by
        simp only [FS.nameOf, AL.get]
        by_cases h1 : i = j
        · subst h1; simp [Nat.beq_refl]
        · have : Nat.beq i j = false := by cases hh : Nat.beq i j with
            | true => exact absurd (beq_iff.1 hh) h1
            | false => rfl
          simp [this, h1]
      refine ⟨⟨fun i m hi => ?_, fun _ h => h, fun _ h => h⟩, ⟨fun i m hi => ?_, fun i k m hi hk => ?_, fun i m ob hi hm => ?_, hs.lst, fun i hi => ?_⟩, by rw [hget, if_pos rfl]⟩
      · rw [hget, if_neg (fun hc => by subst hc; rw [hj] at hi; cases hi)]; exact hi
      · rw [hget] at hi
        split at hi
        · cases hi; exact hv
        · exact hs.val i m hi
      · rw [hget] at hi hk
        split at hi
        · rename_i h1; cases hi
          split at hk
          · rename_i h2; rw [h1, h2]
          · exact absurd hk (named_false hb.1.1 k)
        · split at hk
          · cases hk; exact absurd hi (named_false hb.1.1 i)
          · exact hs.one i k m hi hk
      · rw [hget] at hi
        split at hi
        · cases hi; exact lent_false hb.1.2 ob hm
        · exact hs.lent i m ob hi hm
      · rw [hget]
        split
        · rename_i h1; subst h1
          have := mem_iff.2 hi
          rw [hb.2] at this; cases this
        · exact hs.z i hi
theorem tieNil_ok (hs : s.Ok h S) {j : Nat} (hx : (s.tieNil j).run h = some (s', F)) : s.le s' ∧ s'.Ok h S ∧ j ∈ s'.z := by
  unfold FS.tieNil at hx
  cases hj : s.nameOf j with
  | some n' => rw [hj] at hx; exact run_fail hx
  | none =>
    rw [hj] at hx
    simp only at hx
    cases hb : mem j s.z with
    | true =>
      rw [hb] at hx
      obtain ⟨rfl, _⟩ := run_ret hx
      exact ⟨FS.le.refl _, hs, mem_iff.1 hb⟩
    | false =>
      rw [hb] at hx
      obtain ⟨rfl, _⟩ := run_ret hx
      refine ⟨⟨fun _ _ h => h, fun _ h => List.mem_cons_of_mem _ h, fun _ h => h⟩, ⟨hs.val, hs.one, hs.lent, hs.lst, fun i hi => ?_⟩, List.mem_cons_self⟩
      rcases List.mem_cons.1 hi with rfl | hi
      · exact hj
      · exact hs.z i hi
theorem lend_ok (hs : s.Ok h S) {n : Nat} {t : TypeId} {k : Kind} {xs : List k.den} (hn : h n = some (.lst t k xs)) (hx : (s.lend n (.frz k xs)).run h = some (s', F)) : s.le s' ∧ s'.Ok h S ∧ (n, .frz k xs) ∈ s'.l := by
  unfold FS.lend at hx
  cases hb : s.named n with
  | true => rw [hb] at hx; exact run_fail hx
  | false =>
    rw [hb] at hx
    obtain ⟨rfl, _⟩ := run_ret hx
    refine ⟨⟨fun _ _ h => h, fun _ h => h, fun _ h => List.mem_cons_of_mem _ h⟩, ⟨hs.val, hs.one, fun j m ob hj hm => ?_, fun m ob hm => ?_, hs.z⟩, List.mem_cons_self⟩
    · rcases List.mem_cons.1 hm with h1 | h1
      · cases h1; exact named_false hb j hj
      · exact hs.lent j m ob hj h1
    · rcases List.mem_cons.1 hm with h1 | h1
      · cases h1; exact ⟨t, k, xs, hn, rfl⟩
      · exact hs.lst m ob h1
theorem ties_ok {h : Nat → Option Obj} {S : St} : ∀ {js ns : List Nat} {s : FS} {s' : FS} {F : List Nat}, s.Ok h S → (∀ (i n : Nat), ns[i]? = some n → ∃ v, S.val n = some v) → (s.ties js ns).run h = some (s', F) → s.le s' ∧ s'.Ok h S ∧ js.length = ns.length ∧ ∀ (i : Nat) j n, js[i]? = some j → ns[i]? = some n → s'.nameOf j = some n
  | [], [], s, s', F, hs, _, hx => by
    obtain ⟨rfl, _⟩ := run_ret hx
    exact ⟨FS.le.refl _, hs, rfl, fun i j n hj => by simp at hj⟩
  | j :: js, n :: ns, s, s', F, hs, hv, hx => by
    obtain ⟨s1, F1, F2, h1, h2, _⟩ := RM.run_bind hx
    obtain ⟨l1, o1, t1⟩ := tie_ok hs (hv 0 n rfl) h1
    obtain ⟨l2, o2, len, t2⟩ := ties_ok o1 (fun i m hi => hv (i + 1) m (by simpa using hi)) h2
    refine ⟨l1.trans l2, o2, by simp [len], fun i j' n' hj hn => ?_⟩
    cases i with
    | zero => simp at hj hn; subst hj hn; exact l2.m _ _ t1
    | succ i => exact t2 i j' n' (by simpa using hj) (by simpa using hn)
  | [], _ :: _, _, _, _, _, _, hx => run_fail hx
  | _ :: _, [], _, _, _, _, _, hx => run_fail hx
end

section
variable {Fr : Fd} {nt : Nat} {S : St} {e : Env} {a : Act} {w : World} {s s' : FS} {F : List Nat}
theorem fitC_ok (hI : Inv Fr nt S e a w) (hs : s.Ok e.h.get S) {sc : SC} {c : Cell} {v : Value} {x : sc.den} (hr : RepC w S c v) (hx : (fitC sc c s).run e.h.get = some ((x, s'), F)) :
    s.le s' ∧ s'.Ok e.h.get S ∧ ∀ S', s'.Sees S S' → RepC w S' (encC sc x) v := by
  match sc, c, x, hx with
  | .int k, .int k' n, x, hx =>
    simp only [fitC] at hx
    cases hk : sameI k k' with
    | false => rw [hk] at hx; exact run_fail hx
    | true =>
      rw [hk] at hx
      obtain ⟨h1, _⟩ := run_ret hx
      cases h1
      have := sameI_eq hk
      subst this
      exact ⟨FS.le.refl _, hs, fun S' _ => hr⟩
  | .bool, .bool b, x, hx => obtain ⟨h1, _⟩ := run_ret hx; cases h1; exact ⟨FS.le.refl _, hs, fun S' _ => hr⟩
  | .str, .str b, x, hx => obtain ⟨h1, _⟩ := run_ret hx; cases h1; exact ⟨FS.le.refl _, hs, fun S' _ => hr⟩
  | .flt, .flt b, x, hx => obtain ⟨h1, _⟩ := run_ret hx; cases h1; exact ⟨FS.le.refl _, hs, fun S' _ => hr⟩
  | .sl k, .sl k' xs, x, hx =>
    simp only [fitC] at hx
    split at hx
    · rename_i hk
      subst hk
      obtain ⟨h1, _⟩ := run_ret hx; cases h1
      exact ⟨FS.le.refl _, hs, fun S' h' => SlV.keep (fun _ _ => rfl) h'.imm hr⟩
    · exact run_fail hx
  | .sl k, .nil, x, hx =>
    obtain ⟨h1, _⟩ := run_ret hx; cases h1
    have hv : v = .slice none 0 0 := hr
    exact ⟨FS.le.refl _, hs, fun S' h' => ⟨none, 0, 0, congrArg some hv, rfl, Nat.le_refl _, fun _ => rfl, .inl rfl⟩⟩
  | .sl k, .ref n, x, hx =>
    obtain ⟨ob, F', hn, hy, _⟩ := RM.run_look hx
    cases ob with
    | lst t k' xs =>
      simp only at hy
      split at hy
      · rename_i hk
        subst hk
        obtain ⟨s1, F1, F2, h1, h2, _⟩ := RM.run_bind hy
        obtain ⟨h3, _⟩ := run_ret h2; cases h3
        obtain ⟨l1, o1, m1⟩ := lend_ok hs hn h1
        refine ⟨l1, o1, fun S' h' => ?_⟩
        obtain ⟨v', hv', hsl⟩ := (hI.objs n _ hn).frz_of_lst k'.sz_pos
        rw [hr.1] at hv'; cases hv'
        exact SlV.keep (fun _ _ => rfl) (fun b hb => hb.elim (h'.imm b) (h'.l n _ v b m1 hr.1)) hsl
      · exact run_fail hy
    | frz k' xs =>
      simp only at hy
      split at hy
      · rename_i hk
        subst hk
        obtain ⟨h3, _⟩ := run_ret hy; cases h3
        obtain ⟨v', hv', hsl⟩ := hI.objs n _ hn
        rw [hr.1] at hv'; cases hv'
        exact ⟨FS.le.refl _, hs, fun S' h' => SlV.keep (fun _ _ => rfl) h'.imm hsl⟩
      · exact run_fail hy
    | _ => exact run_fail hy
  | .nil, .nil, x, hx => obtain ⟨h1, _⟩ := run_ret hx; cases h1; exact ⟨FS.le.refl _, hs, fun S' _ => hr⟩
  | .ref j, .ref n, x, hx =>
    obtain ⟨s1, F1, F2, h1, h2, _⟩ := RM.run_bind hx
    obtain ⟨h3, _⟩ := run_ret h2; cases h3
    obtain ⟨l1, o1, m1⟩ := tie_ok hs ⟨v, hr.1⟩ h1
    exact ⟨l1, o1, fun S' h' => ⟨(h'.m j n m1).trans hr.1, hr.2⟩⟩
  | .ref j, .nil, x, hx =>
    obtain ⟨s1, F1, F2, h1, h2, _⟩ := RM.run_bind hx
    obtain ⟨h3, _⟩ := run_ret h2; cases h3
    obtain ⟨l1, o1, m1⟩ := tieNil_ok hs h1
    have hv : v = .slice none 0 0 := hr
    exact ⟨l1, o1, fun S' h' => ⟨by rw [hv]; exact h'.z j m1, by rw [hv]; rfl⟩⟩
  | .ptr j o, .ptr n o', x, hx =>
    simp only [fitC] at hx
    cases hb : Nat.beq o o' with
    | false => rw [hb] at hx; exact run_fail hx
    | true =>
      rw [hb] at hx
      have := beq_iff.1 hb
      subst this
      obtain ⟨s1, F1, F2, h1, h2, _⟩ := RM.run_bind hx
      obtain ⟨h3, _⟩ := run_ret h2; cases h3
      obtain ⟨b, hb1, hb2⟩ := hr
      obtain ⟨l1, o1, m1⟩ := tie_ok hs ⟨_, hb1⟩ h1
      exact ⟨l1, o1, fun S' h' => ⟨b, (h'.m j n m1).trans hb1, hb2⟩⟩
  | .gptr g o, .gptr g' o', x, hx =>
    simp only [fitC] at hx
    cases hb : (Nat.beq g g' && Nat.beq o o') with
    | false => rw [hb] at hx; exact run_fail hx
    | true =>
      rw [hb] at hx
      simp only [Bool.and_eq_true] at hb
      have h1 := beq_iff.1 hb.1
      have h2 := beq_iff.1 hb.2
      subst h1 h2
      obtain ⟨h3, _⟩ := run_ret hx; cases h3
      exact ⟨FS.le.refl _, hs, fun S' _ => hr⟩
  | .fn f js, .fn f' ns, x, hx =>
    simp only [fitC] at hx
    cases hb : Nat.beq f f' with
    | false => rw [hb] at hx; exact run_fail hx
    | true =>
      rw [hb] at hx
      have := beq_iff.1 hb
      subst this
      obtain ⟨s1, F1, F2, h1, h2, _⟩ := RM.run_bind hx
      obtain ⟨h3, _⟩ := run_ret h2; cases h3
      obtain ⟨vs, e1, e2, e3⟩ := hr
      obtain ⟨l1, o1, hlen, m1⟩ := ties_ok hs (fun i n hi => let ⟨b, hb, _⟩ := e3 i n hi; ⟨_, hb⟩) h1
      refine ⟨l1, o1, fun S' h' => ⟨vs, e1, e2.trans hlen.symm, fun i j hj => ?_⟩⟩
      have hlt : i < ns.length := by have := (List.getElem?_eq_some_iff.1 hj).1; omega
      obtain ⟨b, hb1, hb2⟩ := e3 i ns[i] (List.getElem?_eq_getElem hlt)
      exact ⟨b, (h'.m j _ (m1 i j _ hj (List.getElem?_eq_getElem hlt))).trans hb1, hb2⟩
  | .nilI, c, x, hx =>
    cases c with
    | opq u =>
      cases u with
      | nilIface =>
        obtain ⟨h3, _⟩ := run_ret hx; cases h3
        exact ⟨FS.le.refl _, hs, fun S' _ => hr⟩
      | _ => exact run_fail hx
    | _ => exact run_fail hx
  | .int _, .bool _, _, hx | .int _, .str _, _, hx | .int _, .flt _, _, hx | .int _, .sl .., _, hx | .int _, .nil, _, hx | .int _, .ref _, _, hx | .int _, .ptr .., _, hx | .int _, .eptr .., _, hx | .int _, .vptr .., _, hx | .int _, .gptr .., _, hx | .int _, .fn .., _, hx | .int _, .opq _, _, hx => exact run_fail hx
  | .bool, .int .., _, hx | .bool, .str _, _, hx | .bool, .flt _, _, hx | .bool, .sl .., _, hx | .bool, .nil, _, hx | .bool, .ref _, _, hx | .bool, .ptr .., _, hx | .bool, .eptr .., _, hx | .bool, .vptr .., _, hx | .bool, .gptr .., _, hx | .bool, .fn .., _, hx | .bool, .opq _, _, hx => exact run_fail hx
  | .str, .int .., _, hx | .str, .bool _, _, hx | .str, .flt _, _, hx | .str, .sl .., _, hx | .str, .nil, _, hx | .str, .ref _, _, hx | .str, .ptr .., _, hx | .str, .eptr .., _, hx | .str, .vptr .., _, hx | .str, .gptr .., _, hx | .str, .fn .., _, hx | .str, .opq _, _, hx => exact run_fail hx
  | .flt, .int .., _, hx | .flt, .str _, _, hx | .flt, .bool _, _, hx | .flt, .sl .., _, hx | .flt, .nil, _, hx | .flt, .ref _, _, hx | .flt, .ptr .., _, hx | .flt, .eptr .., _, hx | .flt, .vptr .., _, hx | .flt, .gptr .., _, hx | .flt, .fn .., _, hx | .flt, .opq _, _, hx => exact run_fail hx
  | .sl _, .int .., _, hx | .sl _, .str _, _, hx | .sl _, .bool _, _, hx | .sl _, .flt _, _, hx | .sl _, .ptr .., _, hx | .sl _, .eptr .., _, hx | .sl _, .vptr .., _, hx | .sl _, .gptr .., _, hx | .sl _, .fn .., _, hx | .sl _, .opq _, _, hx => exact run_fail hx
  | .nil, .int .., _, hx | .nil, .str _, _, hx | .nil, .bool _, _, hx | .nil, .flt _, _, hx | .nil, .sl .., _, hx | .nil, .ref _, _, hx | .nil, .ptr .., _, hx | .nil, .eptr .., _, hx | .nil, .vptr .., _, hx | .nil, .gptr .., _, hx | .nil, .fn .., _, hx | .nil, .opq _, _, hx => exact run_fail hx
  | .ref _, .int .., _, hx | .ref _, .str _, _, hx | .ref _, .bool _, _, hx | .ref _, .flt _, _, hx | .ref _, .sl .., _, hx | .ref _, .ptr .., _, hx | .ref _, .eptr .., _, hx | .ref _, .vptr .., _, hx | .ref _, .gptr .., _, hx | .ref _, .fn .., _, hx | .ref _, .opq _, _, hx => exact run_fail hx
  | .ptr .., .int .., _, hx | .ptr .., .str _, _, hx | .ptr .., .bool _, _, hx | .ptr .., .flt _, _, hx | .ptr .., .sl .., _, hx | .ptr .., .nil, _, hx | .ptr .., .ref _, _, hx | .ptr .., .eptr .., _, hx | .ptr .., .vptr .., _, hx | .ptr .., .gptr .., _, hx | .ptr .., .fn .., _, hx | .ptr .., .opq _, _, hx => exact run_fail hx
  | .gptr .., .int .., _, hx | .gptr .., .str _, _, hx | .gptr .., .bool _, _, hx | .gptr .., .flt _, _, hx | .gptr .., .sl .., _, hx | .gptr .., .nil, _, hx | .gptr .., .ref _, _, hx | .gptr .., .ptr .., _, hx | .gptr .., .eptr .., _, hx | .gptr .., .vptr .., _, hx | .gptr .., .fn .., _, hx | .gptr .., .opq _, _, hx => exact run_fail hx
  | .fn .., .int .., _, hx | .fn .., .str _, _, hx | .fn .., .bool _, _, hx | .fn .., .flt _, _, hx | .fn .., .sl .., _, hx | .fn .., .nil, _, hx | .fn .., .ref _, _, hx | .fn .., .ptr .., _, hx | .fn .., .eptr .., _, hx | .fn .., .vptr .., _, hx | .fn .., .gptr .., _, hx | .fn .., .opq _, _, hx => exact run_fail hx
theorem fitL_ok (hI : Inv Fr nt S e a w) : ∀ {l : List SC} {cs : List Cell} {vs : List Value} {x : denL l} {s s' : FS} {F : List Nat}, s.Ok e.h.get S → RepL w S cs vs → (fitL l cs s).run e.h.get = some ((x, s'), F) →
    s.le s' ∧ s'.Ok e.h.get S ∧ ∀ S', s'.Sees S S' → RepL w S' (encL l x) vs
  | [], [], [], x, s, s', F, hs, hr, hx => by
    obtain ⟨h1, _⟩ := run_ret hx; cases h1
    exact ⟨FS.le.refl _, hs, fun _ _ => trivial⟩
  | b :: l, c :: cs, v :: vs, x, s, s', F, hs, hr, hx => by
    obtain ⟨⟨y, s1⟩, F1, F2, h1, h2, _⟩ := RM.run_bind hx
    obtain ⟨⟨z, s2⟩, F3, F4, h3, h4, _⟩ := RM.run_bind h2
    obtain ⟨h5, _⟩ := run_ret h4; cases h5
    obtain ⟨l1, o1, r1⟩ := fitC_ok hI hs hr.1 h1
    obtain ⟨l2, o2, r2⟩ := fitL_ok hI o1 hr.2 h3
    exact ⟨l1.trans l2, o2, fun S' h' => ⟨r1 S' (h'.of_le l2), r2 S' h'⟩⟩
  | [], _ :: _, _, _, _, _, _, _, _, hx => run_fail hx
  | _ :: _, [], _, _, _, _, _, _, _, hx => run_fail hx
theorem fitB_ok (hI : Inv Fr nt S e a w) : ∀ {l : List (Bool × List SC)} {cs : List (Bool × List Cell)} {vs : List Value} {x : denB l} {s s' : FS} {F : List Nat}, s.Ok e.h.get S → RepT w S cs vs → (fitB l cs s).run e.h.get = some ((x, s'), F) →
    s.le s' ∧ s'.Ok e.h.get S ∧ ∀ S', s'.Sees S S' → RepT w S' (encB l x) vs
  | [], [], [], x, s, s', F, hs, hr, hx => by
    obtain ⟨h1, _⟩ := run_ret hx; cases h1
    exact ⟨FS.le.refl _, hs, fun _ _ => trivial⟩
  | (b, l0) :: l, (c, cs0) :: cs, v :: vs, x, s, s', F, hs, hr, hx => by
    simp only [fitB] at hx
    cases hb : (b == c) with
    | false => rw [hb] at hx; exact run_fail hx
    | true =>
      rw [hb] at hx
      have : b = c := by simpa using hb
      subst this
      obtain ⟨⟨y, s1⟩, F1, F2, h1, h2, _⟩ := RM.run_bind hx
      obtain ⟨⟨z, s2⟩, F3, F4, h3, h4, _⟩ := RM.run_bind h2
      obtain ⟨h5, _⟩ := run_ret h4; cases h5
      have head : s.le s1 ∧ s1.Ok e.h.get S ∧ ∀ S', s1.Sees S S' → RepB w S' (b, encL l0 y) v := by
        cases b with
        | true =>
          obtain ⟨us, e1, e2⟩ := hr.1
          obtain ⟨l1, o1, r1⟩ := fitL_ok hI hs e2 h1
          exact ⟨l1, o1, fun S' h' => ⟨us, e1, r1 S' h'⟩⟩
        | false =>
          match cs0, hr.1, h1 with
          | [c0], hr1, h1 =>
            obtain ⟨l1, o1, r1⟩ := fitL_ok hI hs (cs := [c0]) (vs := [v]) (show RepL w S [c0] [v] from ⟨hr1.1, trivial⟩) h1
            refine ⟨l1, o1, fun S' h' => ?_⟩
            have := r1 S' h'
            generalize encL l0 y = ds at this
            match ds, this with
            | [d], hd => exact ⟨hd.1, hr1.2⟩
            | [], hd => exact hd.elim
            | _ :: _ :: _, hd => exact hd.2.elim
          | [], hr1, _ => exact hr1.elim
          | _ :: _ :: _, hr1, _ => exact hr1.elim
      obtain ⟨l1, o1, r1⟩ := head
      obtain ⟨l2, o2, r2⟩ := fitB_ok hI o1 hr.2 h3
      exact ⟨l1.trans l2, o2, fun S' h' => ⟨r1 S' (h'.of_le l2), r2 S' h'⟩⟩
  | [], _ :: _, _, _, _, _, _, _, _, hx => run_fail hx
  | _ :: _, [], _, _, _, _, _, _, _, hx => run_fail hx
theorem fitA_ok (hI : Inv Fr nt S e a w) (hs : s.Ok e.h.get S) {sa : SA} {v : AVal} {u : Value} {x : sa.den} (hr : RepA w S v u) (hx : (fitA sa v s).run e.h.get = some ((x, s'), F)) :
    s.le s' ∧ s'.Ok e.h.get S ∧ ∀ S', s'.Sees S S' → RepA w S' (encA sa x) u := by
  match sa, v, hr, x, hx with
  | .c sc, .c c, hr, x, hx =>
    obtain ⟨l1, o1, r1⟩ := fitC_ok hI hs hr.1 hx
    exact ⟨l1, o1, fun S' h' => ⟨r1 S' h', hr.2⟩⟩
  | .agg l, .agg cs, hr, x, hx =>
    obtain ⟨vs, e1, e2⟩ := hr
    obtain ⟨l1, o1, r1⟩ := fitL_ok hI hs e2 hx
    exact ⟨l1, o1, fun S' h' => ⟨vs, e1, r1 S' h'⟩⟩
  | .tup l, .tup cs, hr, x, hx =>
    obtain ⟨vs, e1, e2⟩ := hr
    obtain ⟨l1, o1, r1⟩ := fitB_ok hI hs e2 hx
    exact ⟨l1, o1, fun S' h' => ⟨vs, e1, r1 S' h'⟩⟩
  | .c _, .agg _, _, _, hx | .c _, .tup _, _, _, hx | .agg _, .c _, _, _, hx | .agg _, .tup _, _, _, hx | .tup _, .c _, _, _, hx | .tup _, .agg _, _, _, hx => exact run_fail hx
/-- What stands at places, is what the shape says. -/
theorem fitT_ok (hI : Inv Fr nt S e a w) {get : Nat → Option AVal} {val : Nat → Option Value} (hg : ∀ i v, get i = some v → ∃ u, val i = some u ∧ RepA w S v u) :
    ∀ {l : List (Nat × SA)} {x : denT l} {s s' : FS} {F : List Nat}, s.Ok e.h.get S → (fitT get l s).run e.h.get = some ((x, s'), F) →
    s.le s' ∧ s'.Ok e.h.get S ∧ ∀ S', s'.Sees S S' → ∀ (i p : Nat) (v : AVal), (encT l x)[i]? = some (p, v) → ∃ u, val p = some u ∧ RepA w S' v u
  | [], x, s, s', F, hs, hx => by
    obtain ⟨h1, _⟩ := run_ret hx; cases h1
    exact ⟨FS.le.refl _, hs, fun _ _ i p v hi => by simp [encT] at hi⟩
  | (p, sa) :: l, x, s, s', F, hs, hx => by
    simp only [fitT] at hx
    cases hgp : get p with
    | none => rw [hgp] at hx; exact run_fail hx
    | some v =>
      rw [hgp] at hx
      simp only at hx
      obtain ⟨⟨y, s1⟩, F1, F2, h1, h2, _⟩ := RM.run_bind hx
      obtain ⟨⟨z, s2⟩, F3, F4, h3, h4, _⟩ := RM.run_bind h2
      obtain ⟨h5, _⟩ := run_ret h4; cases h5
      obtain ⟨u, hu, hr⟩ := hg p v hgp
      obtain ⟨l1, o1, r1⟩ := fitA_ok hI hs hr h1
      obtain ⟨l2, o2, r2⟩ := fitT_ok hI hg o1 h3
      refine ⟨l1.trans l2, o2, fun S' h' i q v' hi => ?_⟩
      cases i with
      | zero => simp only [encT, List.getElem?_cons_zero, Option.some.injEq, Prod.mk.injEq] at hi; obtain ⟨rfl, rfl⟩ := hi; exact ⟨u, hu, r1 S' (h'.of_le l2)⟩
      | succ i => exact r2 S' h' i q v' (by simpa [encT] using hi)
theorem fitO_ok (hI : Inv Fr nt S e a w) (hs : s.Ok e.h.get S) {j : Nat} {so : SO} {x : so.den} (hx : (fitO j so s).run e.h.get = some ((x, s'), F)) :
    s.le s' ∧ s'.Ok e.h.get S ∧ (∀ S', s'.Sees S S' → RepO w S' j (encO so x)) ∧ ((encO so x).mut = true → ∀ n, s'.nameOf j = some n → ∃ ob, e.h.get n = some ob ∧ ob.mut = true) ∧ (j ∈ s'.z ∨ ∃ n, s'.nameOf j = some n) := by
  match so, x, hx with
  | .dead, x, hx =>
    simp only [fitO] at hx
    cases hj : s.nameOf j with
    | none => rw [hj] at hx; exact run_fail hx
    | some n =>
      rw [hj] at hx
      obtain ⟨h1, _⟩ := run_ret hx; cases h1
      refine ⟨FS.le.refl _, hs, fun S' h' => ?_, (fun hm => by cases hm), .inr ⟨n, hj⟩⟩
      obtain ⟨v, hv⟩ := hs.val j n hj
      exact ⟨v, (h'.m j n hj).trans hv⟩
  | .lst t k, x, hx =>
    simp only [fitO] at hx
    cases hz : mem j s.z with
    | true =>
      rw [hz] at hx
      obtain ⟨h1, _⟩ := run_ret hx; cases h1
      have hjz := mem_iff.1 hz
      exact ⟨FS.le.refl _, hs, fun S' h' => ⟨_, [], h'.z j hjz, World.ownsRow_nil w 0 t k.sz, (fun i x hi => by simp at hi), (fun u hu => by cases hu)⟩, (fun _ n hn => by rw [hs.z j hjz] at hn; cases hn), .inl hjz⟩
    | false =>
      rw [hz] at hx
      cases hj : s.nameOf j with
      | none => rw [hj] at hx; exact run_fail hx
      | some n =>
        rw [hj] at hx
        simp only [cond_false] at hx
        obtain ⟨ob, F', hn, hy, _⟩ := RM.run_look hx
        cases ob with
        | lst t' k' xs =>
          simp only at hy
          cases ht : Nat.beq t t' with
          | false => rw [ht] at hy; exact run_fail hy
          | true =>
            rw [ht] at hy
            have := beq_iff.1 ht
            subst this
            simp only [cond_true] at hy
            split at hy
            · rename_i hk
              subst hk
              obtain ⟨h1, _⟩ := run_ret hy; cases h1
              refine ⟨FS.le.refl _, hs, fun S' h' => ?_, (fun _ m hm => by rw [hj] at hm; cases hm; exact ⟨_, hn, rfl⟩), .inr ⟨n, hj⟩⟩
              obtain ⟨v, flat, h1, h2, h3, h4⟩ := hI.objs n _ hn
              exact ⟨v, flat, (h'.m j n hj).trans h1, h2, fun i x hi => (h3 i x hi).keep (fun _ _ => rfl) h'.imm (fun _ _ => rfl), h4⟩
            · exact run_fail hy
        | _ => exact run_fail hy
  | .box t l, x, hx =>
    simp only [fitO] at hx
    cases hj : s.nameOf j with
    | none => rw [hj] at hx; exact run_fail hx
    | some n =>
      rw [hj] at hx
      simp only at hx
      obtain ⟨ob, F', hn, hy, _⟩ := RM.run_look hx
      cases ob with
      | box t' cs =>
        simp only at hy
        cases ht : Nat.beq t t' with
        | false => rw [ht] at hy; exact run_fail hy
        | true =>
          rw [ht] at hy
          have := beq_iff.1 ht
          subst this
          simp only [cond_true] at hy
          obtain ⟨b, vs, h1, h2, h3, h4⟩ := hI.objs n _ hn
          obtain ⟨l1, o1, r1⟩ := fitL_ok hI hs h3 hy
          exact ⟨l1, o1, fun S' h' => ⟨b, vs, (h'.m j n (l1.m j n hj)).trans h1, h2, r1 S' h', h4⟩, (fun _ m hm => by rw [l1.m j n hj] at hm; cases hm; exact ⟨_, hn, rfl⟩), .inr ⟨n, l1.m j n hj⟩⟩
      | _ => exact run_fail hy
end
end Go.Eng
