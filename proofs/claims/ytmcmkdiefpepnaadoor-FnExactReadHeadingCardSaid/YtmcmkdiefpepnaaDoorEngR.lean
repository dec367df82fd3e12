/-
  The engine, eighteenth part: a region in every order that its edges leave.
-/
import Derived.Test.YtmcmkdiefpepnaaDoorEngQ
set_option linter.unusedSimpArgs false
set_option linter.unusedVariables false
namespace Go.Eng
section
variable {P : Program} {C : Ctx} {Fr : Fd} {ops : Array Oper} {lg : Nat → Log}

theorem run_eqv : ∀ {is : List Nat} {e f e' : Env}, RunI C ops lg is e e' → Eqv e f → RunI C ops lg is f e'
  | [], e, f, e', h, hf => ⟨fun n => (hf.1 n).trans (h.1 n), fun n => (hf.2 n).trans (h.2 n)⟩
  | i :: is, e, f, e', ⟨o, e1, h1, h2, h3⟩, hf => by
    obtain ⟨f1, k1, k2⟩ := stepG_eqv h2 hf
    exact ⟨o, f1, h1, k1, run_eqv h3 k2⟩

/-- Two operations, by their numbers, that do not touch. -/
def Free (ops : Array Oper) (lg : Nat → Log) (i j : Nat) : Prop := ∃ p o, ops[i]? = some p ∧ ops[j]? = some o ∧ p.apart ops o = true ∧ apartL (lg i) (lg j) = true

theorem run_front {i : Nat} {bs : List Nat} : ∀ {as : List Nat} {e e' : Env}, RunI C ops lg (as ++ i :: bs) e e' → (∀ k ∈ as, Free ops lg k i) → RunI C ops lg (i :: (as ++ bs)) e e'
  | [], e, e', h, _ => h
  | k :: as, e, e', ⟨ok, e1, h1, h2, h3⟩, hf => by
    obtain ⟨oi, e2, k1, k2, k3⟩ := run_front h3 fun m hm => hf m (by simp [hm])
    obtain ⟨p, o, f1, f2, f3, f4⟩ := hf k (by simp)
    rw [h1] at f1; rw [k1] at f2
    simp only [Option.some.injEq] at f1 f2
    subst f1; subst f2
    obtain ⟨g1, g2, s1, s2, s3⟩ := stepG_swap h2 k2 f3 f4
    exact ⟨_, g1, k1, s1, _, g2, h1, s2, run_eqv k3 s3⟩

/-- What the order leaves free, does not touch. -/
def OrdOk (ops : Array Oper) (lg : Nat → Log) : Prop :=
  (∀ j o (e : Edge), ops[j]? = some o → e ∈ o.after.toList → Region.binds .any e = true → e.on < j) ∧
  ∀ i j, i < j → j < ops.size → waits ops ops.size i j = true ∨ Free ops lg i j

theorem waits_listed {is : List Nat} (hdc : ∀ j o (e : Edge), ops[j]? = some o → j ∉ is → e ∈ o.after.toList → Region.binds .any e = true → e.on ∉ is) {i : Nat} :
    ∀ (n : Nat) (j : Nat) (o : Oper), ops[j]? = some o → (∀ e ∈ o.after.toList, Region.binds .any e = true → e.on ∉ is) → waits ops n i j = true → i ∉ is
  | 0, _, _, _, _, h => by cases h
  | n + 1, j, o, ho, hp, h => by
    simp only [waits, ho, List.any_eq_true, Bool.and_eq_true, Bool.or_eq_true] at h
    obtain ⟨e, he, hb, hor⟩ := h
    rcases hor with hor | hor
    · rw [← beq_iff.1 hor]; exact hp e he hb
    · cases hon : ops[e.on]? with
      | none =>
        cases n with
        | zero => cases hor
        | succ n => simp only [waits, hon] at hor; cases hor
      | some o' => exact waits_listed hdc n e.on o' hon (fun e' he' hb' => hdc e.on o' e' hon (hp e he hb) he' hb') hor

theorem mem_ready {listed : Array Bool} {i : Nat} : i ∈ Region.ready .any ops listed ↔ listed.getD i true = false ∧ ∃ o, ops[i]? = some o ∧ ∀ e ∈ o.after.toList, Region.binds .any e = true → listed.getD e.on false = true := by
  unfold Region.ready
  simp only [List.mem_filter, List.mem_range, Bool.and_eq_true, Bool.not_eq_true']
  constructor
  · rintro ⟨h1, h2, h3⟩
    refine ⟨h2, ?_⟩
    cases ho : ops[i]? with
    | none => simp [ho] at h3
    | some o =>
      refine ⟨o, rfl, fun e he hb => ?_⟩
      simp only [ho, Option.map_some, Option.getD_some] at h3
      rw [Array.all_eq_true'] at h3
      have := h3 e (by simpa using he)
      simpa [hb] using this
  · rintro ⟨h2, o, ho, h3⟩
    have hlt : i < ops.size := by
      rcases Nat.lt_or_ge i ops.size with h | h
      · exact h
      · rw [Array.getElem?_eq_none h] at ho; cases ho
    refine ⟨hlt, h2, ?_⟩
    simp only [ho, Option.map_some, Option.getD_some]
    rw [Array.all_eq_true']
    intro e he
    cases hb : Region.binds .any e with
    | false => simp
    | true => simp [h3 e (by simpa using he) hb]

theorem wpAny_run (hC : C.Ok P) (hsg : ∀ f g, C.sg f = some g → callable P f = true ∧ Sound P C.gl f g) (hgl : Fr.gl = C.gl) (hO : OrdOk ops lg) {Q : Exit → Act → World → Prop} {e' : Env} (hQ : ∀ a w S, Inv Fr C.nt S e' a w → Q .normal a w) :
    ∀ (fuel : Nat) {is : List Nat} {listed : Array Bool} {e : Env} {a : Act} {w : World} {S : St}, is.length = fuel → listed.size = ops.size → (∀ i, i ∈ is ↔ i < ops.size ∧ listed.getD i true = false) → is.Pairwise (· < ·) →
      (∀ j o (e : Edge), ops[j]? = some o → j ∉ is → e ∈ o.after.toList → Region.binds .any e = true → e.on ∉ is) →
      Inv Fr C.nt S e a w → RunI C ops lg is e e' → wpAny P .any ops Q fuel listed a w
  | 0, is, listed, e, a, w, S, hlen, hsz, hmem, hsort, hdc, hI, hr => by
    have : is = [] := List.length_eq_zero_iff.1 hlen
    subst this
    refine ⟨?_, hQ a w S (hI.same hr.1 hr.2)⟩
    rw [List.eq_nil_iff_forall_not_mem]
    intro i hi
    obtain ⟨h1, o, h2, _⟩ := mem_ready.1 hi
    have hlt : i < ops.size := by
      rcases Nat.lt_or_ge i ops.size with h | h
      · exact h
      · rw [Array.getElem?_eq_none h] at h2; cases h2
    cases (hmem i).2 ⟨hlt, h1⟩
  | fuel + 1, is, listed, e, a, w, S, hlen, hsz, hmem, hsort, hdc, hI, hr => by
    have inB : ∀ i, i < ops.size → (i ∉ is ↔ listed.getD i false = true) := fun i hi => by
      have h1 : listed.getD i true = listed.getD i false := by
        simp only [Array.getD, hsz, hi, dif_pos]
      rw [hmem i, h1]
      cases listed.getD i false <;> simp [hi]
    refine ⟨fun hnil => ?_, fun i hi => ?_⟩
    · -- the first of them may come
      exfalso
      match is, hlen with
      | i :: is', _ =>
        obtain ⟨hi, hl⟩ := (hmem i).1 (by simp)
        have : i ∈ Region.ready .any ops listed := mem_ready.2 ⟨hl, ops[i], by simp [hi], fun e he hb => by
          have hon := hO.1 i ops[i] e (by simp [hi]) he hb
          refine (inB e.on (by omega)).1 fun hin => ?_
          rcases List.mem_cons.1 hin with rfl | hin
          · omega
          · have := (List.pairwise_cons.1 hsort).1 _ hin
            omega⟩
        rw [hnil] at this
        cases this
    · obtain ⟨hl, o, ho, hpre⟩ := mem_ready.1 hi
      have hlt : i < ops.size := by
        rcases Nat.lt_or_ge i ops.size with h | h
        · exact h
        · rw [Array.getElem?_eq_none h] at ho; cases ho
      have hin : i ∈ is := (hmem i).2 ⟨hlt, hl⟩
      obtain ⟨as, bs, rfl⟩ := List.append_of_mem hin
      have hpre' : ∀ e ∈ o.after.toList, Region.binds .any e = true → e.on ∉ as ++ i :: bs := fun e he hb => by
        have hon := hO.1 i o e ho he hb
        exact (inB e.on (by omega)).2 (hpre e he hb)
      have hlt' : ∀ k ∈ as, k < i := fun k hk => (List.pairwise_append.1 hsort).2.2 k hk i (by simp)
      have hgt : ∀ k ∈ bs, i < k := fun k hk => (List.pairwise_cons.1 (List.pairwise_append.1 hsort).2.1).1 k hk
      have hfree : ∀ k ∈ as, Free ops lg k i := fun k hk => by
        rcases hO.2 k i (hlt' k hk) hlt with hw | hf
        · exact absurd (by simp [hk]) (waits_listed hdc _ i o ho hpre' hw)
        · exact hf
      obtain ⟨o', e1, k1, k2, k3⟩ := run_front hr hfree
      refine wpOp_of_stepG hC hsg hgl hI k1 k2 fun a' w' S' hI' => ?_
      refine wpAny_run hC hsg hgl hO hQ fuel (is := as ++ bs) (by simp at hlen ⊢; omega) (by simpa using hsz) ?_ ?_ ?_ hI' k3
      · intro k
        have hne : ∀ k, k ∈ as ++ bs → k ≠ i := fun k hk hc => by
          subst hc
          rcases List.mem_append.1 hk with h | h
          · exact absurd (hlt' _ h) (by omega)
          · exact absurd (hgt _ h) (by omega)
        have hsplit : k ∈ as ++ bs ↔ (k ∈ as ++ i :: bs ∧ k ≠ i) := by
          constructor
          · intro hk
            refine ⟨?_, hne k hk⟩
            rcases List.mem_append.1 hk with h | h
            · simp [h]
            · simp [h]
          · rintro ⟨hk, hki⟩
            simp only [List.mem_append, List.mem_cons] at hk ⊢
            rcases hk with h | h | h
            · exact .inl h
            · exact absurd h hki
            · exact .inr h
        rw [hsplit, hmem k]
        constructor
        · rintro ⟨⟨h1, h2⟩, h3⟩
          refine ⟨h1, ?_⟩
          rw [← h2]
          simp only [Array.getD, Array.size_setIfInBounds, Array.getInternal_eq_getElem]
          split
          · exact Array.getElem_setIfInBounds_ne (by assumption) (by omega)
          · rfl
        · rintro ⟨h1, h2⟩
          have hki : k ≠ i := fun hc => by
            subst hc
            simp [Array.getD, hsz, hlt] at h2
          refine ⟨⟨h1, ?_⟩, hki⟩
          rw [← h2]
          simp only [Array.getD, Array.size_setIfInBounds, Array.getInternal_eq_getElem]
          split
          · exact (Array.getElem_setIfInBounds_ne (by assumption) (by omega)).symm
          · rfl
      · rw [List.pairwise_append] at hsort ⊢
        refine ⟨hsort.1, (List.pairwise_cons.1 hsort.2.1).2, fun x hx y hy => hsort.2.2 x hx y (by simp [hy])⟩
      · intro j p e hj hnj he hb hmem'
        by_cases hji : j = i
        · subst hji
          rw [ho] at hj
          cases hj
          refine hpre' e he hb ?_
          rcases List.mem_append.1 hmem' with h | h
          · simp [h]
          · simp [h]
        · refine hdc j p e hj ?_ he hb ?_
          · intro hc
            apply hnj
            simp only [List.mem_append, List.mem_cons] at hc ⊢
            rcases hc with h | h | h
            · exact .inl h
            · exact absurd h hji
            · exact .inr h
          · rcases List.mem_append.1 hmem' with h | h
            · simp [h]
            · simp [h]

/-! ### From the engine's own looking-over -/
theorem apartAll_of {j : Nat} {o : Oper} {l : Log} : ∀ {past : List Log} {i : Nat}, apartAll ops j o l i past = true → ∀ k m, past[k]? = some m → waits ops ops.size (i + k) j = true ∨ ∃ p, ops[i + k]? = some p ∧ p.apart ops o = true ∧ apartL m l = true
  | [], _, _, k, m, hk => by simp at hk
  | x :: past, i, h, k, m, hk => by
    simp only [apartAll, Bool.and_eq_true, Bool.or_eq_true] at h
    cases k with
    | zero =>
      simp only [List.getElem?_cons_zero, Option.some.injEq] at hk
      subst hk
      rcases h.1 with hw | hw
      · exact .inl hw
      · cases hp : ops[i]? with
        | none => rw [hp] at hw; cases hw
        | some p => rw [hp] at hw; simp only [Bool.and_eq_true] at hw; exact .inr ⟨p, rfl, hw.1, hw.2⟩
    | succ k =>
      have := apartAll_of h.2 k m (by simpa using hk)
      rwa [Nat.add_right_comm, Nat.add_assoc] at this

theorem orderOk_of : ∀ {os : List Oper} {ls past : List Log} {j : Nat}, orderOk ops j os ls past = true → past.length = j → (∀ m, os[m]? = ops[j + m]?) →
    (∀ k o (e : Edge), j ≤ k → ops[k]? = some o → e ∈ o.after.toList → Region.binds .any e = true → e.on < k) ∧
    ∀ i k lj, i < k → j ≤ k → (past ++ ls)[k]? = some lj → waits ops ops.size i k = true ∨ ∃ p o li, ops[i]? = some p ∧ ops[k]? = some o ∧ (past ++ ls)[i]? = some li ∧ p.apart ops o = true ∧ apartL li lj = true
  | [], [], past, j, h, hp, hops => by
    constructor
    · intro k o e hk ho
      have := hops (k - j)
      rw [show j + (k - j) = k from by omega, ho] at this
      simp at this
    · intro i k lj hik hk hlj
      rw [List.append_nil, List.getElem?_eq_none (by omega)] at hlj
      cases hlj
  | [], _ :: _, _, _, h, _, _ => by cases h
  | _ :: _, [], _, _, h, _, _ => by cases h
  | o :: os, l :: ls, past, j, h, hp, hops => by
    simp only [orderOk, Bool.and_eq_true] at h
    obtain ⟨⟨h1, h2⟩, h3⟩ := h
    have hj : ops[j]? = some o := by have := hops 0; simpa using this.symm
    obtain ⟨r1, r2⟩ := orderOk_of h3 (by simp [hp]) fun m => by have := hops (m + 1); simp at this; rw [this]; congr 1; omega
    rw [List.append_assoc, List.singleton_append] at r2
    constructor
    · intro k o' e hk ho' he hb
      by_cases hkj : k = j
      · subst hkj
        rw [hj] at ho'
        cases ho'
        rw [List.all_eq_true] at h1
        have := h1 e he
        rw [hb] at this
        simp only [Bool.not_true, Bool.false_or] at this
        simpa [Nat.blt_eq] using this
      · exact r1 k o' e (by omega) ho' he hb
    · intro i k lj hik hk hlj
      by_cases hkj : k = j
      · subst hkj
        rw [List.getElem?_append_right (by omega), hp, Nat.sub_self] at hlj
        simp only [List.getElem?_cons_zero, Option.some.injEq] at hlj
        subst hlj
        have hli : past[i]? = some past[i] := by simp [hp, hik]
        rcases apartAll_of h2 i _ hli with hw | ⟨p, q1, q2, q3⟩
        · rw [Nat.zero_add] at hw; exact .inl hw
        · rw [Nat.zero_add] at q1
          exact .inr ⟨p, o, _, q1, hj, by rw [List.getElem?_append_left (by omega)]; exact hli, q2, q3⟩
      · exact r2 i k lj hik (by omega) hlj

/-- A region. -/
theorem wp_regK {R : Type} (hC : C.Ok P) (hm : P.follows .mixedOrders = true) (hsg : ∀ f g, C.sg f = some g → callable P f = true ∧ Sound P C.gl f g) (hgl : Fr.gl = C.gl) {id : Nat} {draw : Bool} {e : Env} {K : Env → Option R} {r : R} {S : St} {a : Act} {w : World}
    (h : regK C ops draw e K = some r) (hI : Inv Fr C.nt S e a w) {Q : Exit → Act → World → Prop} (hQ : ∀ e' a' w' S', K e' = some r → Inv Fr C.nt S' e' a' w' → Q .normal a' w') : (Code.region id ops draw).wp P Q a w := by
  unfold regK at h
  obtain ⟨L, e', e'', hlen, hK, rfl, hrun⟩ := opsK_run (ops := ops) (k := 0) (fun j => by simp) h
  simp only [List.reverse_nil, List.nil_append] at hK
  have hrun := hrun (fun n => L.getD n ⟨[], []⟩) fun j l hj => by simp [hj]
  cases draw with
  | false =>
    simp only [Bool.not_false, Bool.true_or, cond_true] at hK
    refine wp_region ?_
    rw [List.range_eq_range']
    exact wpOps_run hC hsg hgl (fun a w S hI' => hQ e'' a w S hK hI') hI (by simpa using hrun)
  | true =>
    simp only [Bool.not_true, Bool.false_or] at hK
    cases ho : (Region.noSelect ops && orderOk ops 0 ops.toList L []) with
    | false => rw [ho] at hK; cases hK
    | true =>
      rw [ho] at hK
      simp only [cond_true] at hK
      simp only [Bool.and_eq_true] at ho
      obtain ⟨o1, o2⟩ := orderOk_of ho.2 rfl fun m => by simp
      simp only [List.nil_append] at o2
      refine wp_region_any hm ?_
      refine wpAny_run hC hsg hgl (lg := fun n => L.getD n ⟨[], []⟩) ⟨fun j o e hj => o1 j o e (by omega) hj, fun i j hij hj => ?_⟩ (fun a w S hI' => hQ e'' a w S hK hI') ops.size (is := List.range ops.size) (by simp) (by simp) ?_ ?_ ?_ hI.drew ?_
      · have hjL : j < L.length := by rw [hlen]; simpa using hj
        have hLj : L[j]? = some L[j] := by simp [hjL]
        rcases o2 i j _ hij (by omega) hLj with hw | ⟨p, o, li, q1, q2, q3, q4, q5⟩
        · exact .inl hw
        · refine .inr ⟨p, o, q1, q2, q4, ?_⟩
          have h1 : L.getD i ⟨[], []⟩ = li := by simp [q3]
          have h2 : L.getD j ⟨[], []⟩ = L[j] := by simp [hLj]
          show apartL (L.getD i ⟨[], []⟩) (L.getD j ⟨[], []⟩) = true
          rw [h1, h2]
          exact q5
      · intro i
        simp only [List.mem_range]
        constructor
        · intro hi
          exact ⟨hi, by simp [Array.getD, hi]⟩
        · exact fun h => h.1
      · exact List.pairwise_lt_range
      · intro j o e hj hnj
        exfalso
        apply hnj
        rw [List.mem_range]
        rcases Nat.lt_or_ge j ops.size with h | h
        · exact h
        · rw [Array.getElem?_eq_none h] at hj; cases hj
      · rw [List.range_eq_range']
        simpa using hrun
end
end Go.Eng
