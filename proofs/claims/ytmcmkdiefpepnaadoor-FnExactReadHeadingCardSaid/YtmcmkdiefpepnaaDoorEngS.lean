/-
  The engine, nineteenth part: code.
-/
import Derived.Test.YtmcmkdiefpepnaaDoorEngR
set_option linter.unusedSimpArgs false
set_option linter.unusedVariables false
namespace Go.Eng

/-- A loop, from its head. -/
def wpIn (P : Program) (c : Code) (Q : Exit → Act → World → Prop) (a : Act) (w : World) : Prop :=
  ∀ (b : Frame) (k : List Item) (cs : List Frame), ∃ e a' w', Q e a' w' ∧ Arrives P (lone (b.at a (.code c :: .inLoop c :: k)) cs w) b k cs e a' w'
theorem wp_of_in {P : Program} {c : Code} {Q : Exit → Act → World → Prop} {a : Act} {w : World} (h : wpIn P c Q a w) : (Code.loop c).wp P Q a w :=
  fun b k cs => let ⟨e, a', w', hq, harr⟩ := h b k cs; ⟨e, a', w', hq, .of_steps (.one step_loop) harr⟩
/-- Once more round. -/
theorem wp_round {P : Program} {c : Code} {Q : Exit → Act → World → Prop} {a : Act} {w : World} (h : c.wp P (Exit.then (wpIn P c Q) Q) a w) : wpIn P c Q a w := by
  intro b k cs
  obtain ⟨e, a₁, w₁, hq, harr⟩ := h b (.inLoop c :: k) cs
  cases e with
  | normal =>
    obtain ⟨e₂, a₂, w₂, hq₂, harr₂⟩ := hq b k cs
    exact ⟨e₂, a₂, w₂, hq₂, .of_steps (Steps.trans harr (.one step_inLoop)) harr₂⟩
  | exit id => exact ⟨_, a₁, w₁, hq, .pass (x := .inLoop c) rfl (fun _ _ => .inl (by simp)) harr⟩
  | goto l => exact ⟨_, a₁, w₁, hq, .pass (x := .inLoop c) rfl (fun _ _ => .inl (by simp)) harr⟩
  | ret => exact ⟨_, a₁, w₁, hq, .pass (x := .inLoop c) rfl (fun _ _ => .inl (by simp)) harr⟩
  | panic ch => exact ⟨_, a₁, w₁, hq, .pass (x := .inLoop c) rfl (fun _ _ => .inl (by simp)) harr⟩
  | outgrown => exact ⟨_, a₁, w₁, hq, .pass (x := .inLoop c) rfl (fun _ _ => .inl (by simp)) harr⟩
/-- What is asked of a site. -/
def siteWp (P : Program) : Code → (Exit → Act → World → Prop) → Act → World → Prop
  | .loop c, Q => wpIn P c Q
  | c, Q => c.wp P Q
theorem wp_of_site {P : Program} {c : Code} {Q : Exit → Act → World → Prop} {a : Act} {w : World} (h : siteWp P c Q a w) : c.wp P Q a w := by
  cases c <;> first | exact h | exact wp_of_in h

/-! ### Where a piece of code stands -/
inductive Seg where
  | seqL (b : Code) | blk (id : Nat) | lp (c : Code)

section
variable {R : Type} (C : Ctx) (np : Nat) (J : Nat → Option (Cut R)) (K0 : AExit → Env → Option R)
def ctxK : List Seg → AExit → Env → Option R
  | [] => K0
  | .seqL b :: Γ => fun x e' => match x with
    | .normal => match headOf b with
      | some p => match J p with
        | some c => jump np c e'
        | none => den C np J b e' (ctxK Γ)
      | none => den C np J b e' (ctxK Γ)
    | x => ctxK Γ x e'
  | .blk id :: Γ => fun x e' => match x with
    | .exit i => bif Nat.beq i id then ctxK Γ .normal e' else ctxK Γ (.exit i) e'
    | x => ctxK Γ x e'
  | .lp c :: Γ => fun x e' => match x with
    | .normal => match loopHead c with
      | some p => match J p with
        | some c => jump np c e'
        | none => none
      | none => none
    | x => ctxK Γ x e'
end
def ctxQ (P : Program) (Q0 : Exit → Act → World → Prop) : List Seg → Exit → Act → World → Prop
  | [] => Q0
  | .seqL b :: Γ => Exit.then (b.wp P (ctxQ P Q0 Γ)) (ctxQ P Q0 Γ)
  | .blk id :: Γ => Exit.inBlock id (ctxQ P Q0 Γ)
  | .lp c :: Γ => Exit.then (wpIn P c (ctxQ P Q0 Γ)) (ctxQ P Q0 Γ)
def sites : List Seg → Code → List (Nat × List Seg × Code)
  | Γ, .seq a b => sites (.seqL b :: Γ) a ++ ((match headOf b with | some p => [(p, Γ, b)] | none => []) ++ sites Γ b)
  | Γ, .cond _ a b => sites Γ a ++ sites Γ b
  | Γ, .block id c => sites (.blk id :: Γ) c
  | Γ, .loop c => (match loopHead c with | some p => [(p, Γ, .loop c)] | none => []) ++ sites (.lp c :: Γ) c
  | _, _ => []
/-- From a site on: a loop's body, or the code. -/
def denSite {R : Type} (C : Ctx) (np : Nat) (J : Nat → Option (Cut R)) (K0 : AExit → Env → Option R) (Γ : List Seg) : Code → Env → Option R
  | .loop c, e => den C np J c e (ctxK C np J K0 (.lp c :: Γ))
  | c, e => den C np J c e (ctxK C np J K0 Γ)

def AExit.to : AExit → Exit
  | .normal => .normal
  | .exit i => .exit i
  | .ret => .ret

section
variable {P : Program} {C : Ctx} {Fr : Fd} {R : Type} {J : Nat → Option (Cut R)} {K0 : AExit → Env → Option R} {r : R} {Q0 : Exit → Act → World → Prop}

theorem own_nameOf : ∀ {np j n : Nat}, (FS.own np).nameOf j = some n → n = j ∧ j < np
  | 0, j, n, h => by simp [FS.own, FS.nameOf, AL.get] at h
  | np + 1, j, n, h => by
    simp only [FS.own, FS.nameOf, AL.get] at h
    cases hb : Nat.beq j np with
    | true =>
      rw [hb] at h
      simp only [cond_true, Option.some.injEq] at h
      have := beq_iff.1 hb
      omega
    | false =>
      rw [hb] at h
      have := own_nameOf (np := np) h
      omega
theorem own_has : ∀ {np j : Nat}, j < np → (FS.own np).nameOf j = some j
  | 0, j, h => by omega
  | np + 1, j, h => by
    simp only [FS.own, FS.nameOf, AL.get]
    cases hb : Nat.beq j np with
    | true => have := beq_iff.1 hb; subst this; rfl
    | false =>
      have : j ≠ np := fun hc => by rw [beq_iff.2 hc] at hb; cases hb
      exact own_has (np := np) (by omega)
theorem own_rest : ∀ np, (FS.own np).l = [] ∧ (FS.own np).z = []
  | 0 => ⟨rfl, rfl⟩
  | np + 1 => own_rest np
theorem own_ok {nt : Nat} {S : St} {e : Env} {a : Act} {w : World} (hI : Inv Fr nt S e a w) : (FS.own Fr.np).Ok e.h.get S := by
  obtain ⟨h1, h2⟩ := own_rest Fr.np
  refine ⟨fun j n hj => ?_, fun i j n hi hj => ?_, fun j n ob _ hl => ?_, fun n ob hl => ?_, fun j hj => ?_⟩
  · obtain ⟨rfl, h⟩ := own_nameOf hj; exact ⟨_, hI.own n h⟩
  · exact (own_nameOf hi).1.symm.trans (own_nameOf hj).1
  · rw [h1] at hl; cases hl
  · rw [h1] at hl; cases hl
  · rw [h2] at hj; cases hj

/-- A state told anew at a cut. -/
theorem fit_inv {nt : Nat} {S : St} {e : Env} {a : Act} {w : World} (hI : Inv Fr nt S e a w) {sh : Shape} {x : sh.den} {s : FS} {F : List Nat} (h : (fit sh e.t.get (FS.own Fr.np)).run e.h.get = some ((x, s), F)) : Inv Fr nt (s.view S) (sh.enc x) a w := by
  obtain ⟨l1, o1, r1, A1, _, _, _⟩ := fit_anew hI (val := fun i => a.tmps[i]?) (fun i v hi => hI.tmps i v hi) (own_ok hI) h
  refine A1.inv hI (fun t v ht => ?_) fun j hj => ?_
  · obtain ⟨i, hi⟩ := AL.get_mem ht
    exact r1 i t v hi
  · exact o1.sees.m j j (l1.m j j (own_has hj))
theorem jump_inv {nt : Nat} {S : St} {e : Env} {a : Act} {w : World} (hI : Inv Fr nt S e a w) {c : Cut R} (h : jump Fr.np c e = some r) : ∃ S' y, c.g y = some r ∧ Inv Fr nt S' (c.s.enc y) a w := by
  obtain ⟨⟨y, s⟩, F, h1, h2⟩ := RM.run_runK h
  exact ⟨_, y, h2, fit_inv hI h1⟩

/-- What comes behind does what it should. -/
def KOk (P : Program) (C : Ctx) (Fr : Fd) (J : Nat → Option (Cut R)) (K0 : AExit → Env → Option R) (r : R) (Q0 : Exit → Act → World → Prop) (Γ : List Seg) : Prop :=
  ∀ x e a w S, ctxK C Fr.np J K0 Γ x e = some r → Inv Fr C.nt S e a w → ctxQ P Q0 Γ x.to a w
def SiteOk (P : Program) (C : Ctx) (Fr : Fd) (J : Nat → Option (Cut R)) (r : R) (Q0 : Exit → Act → World → Prop) (s : Nat × List Seg × Code) : Prop :=
  ∀ cut, J s.1 = some cut → ∀ y a w S, cut.g y = some r → Inv Fr C.nt S (cut.s.enc y) a w → siteWp P s.2.2 (ctxQ P Q0 s.2.1) a w

theorem Exit.then_to {x : AExit} {n : Act → World → Prop} {Q : Exit → Act → World → Prop} {a : Act} {w : World} (h1 : x = .normal → n a w) (h2 : x ≠ .normal → Q x.to a w) : Exit.then n Q x.to a w := by
  cases x with
  | normal => exact h1 rfl
  | exit i => exact h2 (by simp)
  | ret => exact h2 (by simp)

theorem Inv.upd {nt : Nat} {S : St} {e : Env} {a : Act} {w : World} (hI : Inv Fr nt S e a w) {d : Nat} {b : AVal} (h : e.t.get d = some b) : Inv Fr nt S { e with t := e.t.upd d b } a w := by
  rw [AL.upd_same _ _ _ h]; exact hI

theorem den_sound (hC : C.Ok P) (hm : P.follows .mixedOrders = true) (hsg : ∀ f g, C.sg f = some g → callable P f = true ∧ Sound P C.gl f g) (hgl : Fr.gl = C.gl) :
    ∀ (c : Code) (Γ : List Seg), KOk P C Fr J K0 r Q0 Γ → (∀ s ∈ sites Γ c, SiteOk P C Fr J r Q0 s) → ∀ e a w S, den C Fr.np J c e (ctxK C Fr.np J K0 Γ) = some r → Inv Fr C.nt S e a w → c.wp P (ctxQ P Q0 Γ) a w := by
  intro c
  induction c with
  | skip => intro Γ hK _ e a w S h hI; exact wp_skip (hK .normal e a w S h hI)
  | region id ops draw =>
    intro Γ hK _ e a w S h hI
    exact wp_regK hC hm hsg hgl h hI fun e' a' w' S' h' hI' => hK .normal e' a' w' S' h' hI'
  | seq x y ihx ihy =>
    intro Γ hK hs e a w S h hI
    refine wp_seq ?_
    have hy := ihy Γ hK fun s hsy => hs s (by simp only [sites, List.mem_append]; exact .inr (.inr hsy))
    refine ihx (.seqL y :: Γ) ?_ (fun s hsx => hs s (by simp only [sites, List.mem_append]; exact .inl hsx)) e a w S h hI
    intro ex e' a' w' S' h' hI'
    refine Exit.then_to (fun hn => ?_) (fun hn => ?_)
    · subst hn
      simp only [ctxK] at h'
      cases hh : headOf y with
      | none => rw [hh] at h'; exact hy e' a' w' S' h' hI'
      | some p =>
        rw [hh] at h'
        simp only at h'
        cases hj : J p with
        | none => rw [hj] at h'; exact hy e' a' w' S' h' hI'
        | some cut =>
          rw [hj] at h'
          obtain ⟨S2, z, h1, h2⟩ := jump_inv hI' h'
          exact wp_of_site <| hs (p, Γ, y) (by simp only [sites, List.mem_append, hh]; exact .inr (.inl (by simp))) cut hj z a' w' S2 h1 h2
    · refine hK ex e' a' w' S' ?_ hI'
      cases ex with
      | normal => exact absurd rfl hn
      | exit i => exact h'
      | ret => exact h'
  | cond cd x y ihx ihy =>
    intro Γ hK hs e a w S h hI
    have hx := ihx Γ hK fun s hsx => hs s (by simp only [sites, List.mem_append]; exact .inl hsx)
    have hy := ihy Γ hK fun s hsy => hs s (by simp only [sites, List.mem_append]; exact .inr hsy)
    cases cd with
    | tmp d =>
      simp only [den] at h
      cases hd : e.t.get d with
      | none => rw [hd] at h; cases h
      | some v =>
        rw [hd] at h
        match v, hd, h with
        | .c (.bool b), hd, h =>
          obtain ⟨u, h1, h2, _⟩ := hI.tmps d _ hd
          have h2' : u = .bool b := h2
          subst h2'
          have hev : a.eval (.tmp d) = .bool b := by simp [Act.eval, h1]
          cases b with
          | true => exact wp_cond hev (hx _ a w S h (hI.upd hd))
          | false => exact wp_cond hev (hy _ a w S h (hI.upd hd))
        | .c (.int ..), _, hx | .c (.str _), _, hx | .c (.flt _), _, hx | .c (.sl ..), _, hx | .c .nil, _, hx | .c (.ref _), _, hx | .c (.ptr ..), _, hx | .c (.eptr ..), _, hx | .c (.vptr ..), _, hx | .c (.gptr ..), _, hx
        | .c (.fn ..), _, hx | .c (.opq _), _, hx | .agg _, _, hx | .tup _, _, hx => cases hx
    | const v =>
      match v, h with
      | .bool b, h =>
        have hev : a.eval (.const (.bool b)) = .bool b := rfl
        cases b with
        | true => exact wp_cond hev (hx _ a w S h hI)
        | false => exact wp_cond hev (hy _ a w S h hI)
    | global g => cases h
    | func f => cases h
  | block id c ih =>
    intro Γ hK hs e a w S h hI
    refine wp_block ?_
    refine ih (.blk id :: Γ) ?_ hs e a w S h hI
    intro ex e' a' w' S' h' hI'
    cases ex with
    | normal => exact hK .normal e' a' w' S' h' hI'
    | ret => exact hK .ret e' a' w' S' h' hI'
    | exit i =>
      simp only [ctxK] at h'
      show Exit.inBlock id (ctxQ P Q0 Γ) (.exit i) a' w'
      simp only [Exit.inBlock]
      cases hb : Nat.beq i id with
      | true =>
        rw [hb] at h'
        rw [if_pos (beq_iff.1 hb)]
        exact hK .normal e' a' w' S' h' hI'
      | false =>
        rw [hb] at h'
        rw [if_neg fun hc => by rw [beq_iff.2 hc] at hb; cases hb]
        exact hK (.exit i) e' a' w' S' h' hI'
  | loop c ih =>
    intro Γ hK hs e a w S h hI
    simp only [den] at h
    cases hh : loopHead c with
    | none => rw [hh] at h; cases h
    | some p =>
      rw [hh] at h
      simp only at h
      cases hj : J p with
      | none => rw [hj] at h; cases h
      | some cut =>
        rw [hj] at h
        obtain ⟨S2, z, h1, h2⟩ := jump_inv hI h
        exact wp_of_site <| hs (p, Γ, .loop c) (by simp only [sites, List.mem_append, hh]; exact .inl (by simp)) cut hj z a w S2 h1 h2
  | exit id => intro Γ hK _ e a w S h hI; exact wp_exit (hK (.exit id) e a w S h hI)
  | ret => intro Γ hK _ e a w S h hI; exact wp_ret (hK .ret e a w S h hI)
  | rangeFunc f ps x y => intro Γ hK _ e a w S h hI; cases h
  | scope c => intro Γ hK _ e a w S h hI; cases h
  | label l => intro Γ hK _ e a w S h hI; cases h
  | goto l => intro Γ hK _ e a w S h hI; cases h
  | refuse => intro Γ hK _ e a w S h hI; cases h

/-- From a site on. -/
theorem site_sound (hC : C.Ok P) (hm : P.follows .mixedOrders = true) (hsg : ∀ f g, C.sg f = some g → callable P f = true ∧ Sound P C.gl f g) (hgl : Fr.gl = C.gl) {c : Code} {Γ : List Seg} {p : Nat} (hp : ∀ c', c = .loop c' → loopHead c' = some p) (hK : KOk P C Fr J K0 r Q0 Γ) (hs : ∀ s ∈ sites Γ c, SiteOk P C Fr J r Q0 s) {e : Env} {a : Act} {w : World} {S : St}
    (h : denSite C Fr.np J K0 Γ c e = some r) (hI : Inv Fr C.nt S e a w) : siteWp P c (ctxQ P Q0 Γ) a w := by
  have other : (∀ c', c ≠ .loop c') → siteWp P c (ctxQ P Q0 Γ) a w := fun hn => by
    have h1 : den C Fr.np J c e (ctxK C Fr.np J K0 Γ) = some r := by
      cases c <;> first | exact h | exact absurd rfl (hn _)
    have := den_sound hC hm hsg hgl c Γ hK hs e a w S h1 hI
    cases c <;> first | exact this | exact absurd rfl (hn _)
  cases c with
  | loop c' =>
    refine wp_round ?_
    refine den_sound hC hm hsg hgl c' (.lp c' :: Γ) ?_ (fun s hsx => hs s (by simp only [sites, List.mem_append]; exact .inr hsx)) e a w S h hI
    intro ex e' a' w' S' h' hI'
    refine Exit.then_to (fun hn => ?_) (fun hn => ?_)
    · subst hn
      simp only [ctxK, hp c' rfl] at h'
      cases hj : J p with
      | none => rw [hj] at h'; cases h'
      | some cut =>
        rw [hj] at h'
        obtain ⟨S2, z, h1, h2⟩ := jump_inv hI' h'
        exact hs (p, Γ, .loop c') (by simp only [sites, List.mem_append, hp c' rfl]; exact .inl (by simp)) cut hj z a' w' S2 h1 h2
    · refine hK ex e' a' w' S' ?_ hI'
      cases ex with
      | normal => exact absurd rfl hn
      | exit i => exact h'
      | ret => exact h'
  | _ => exact other fun c' hc => by cases hc

/-- Each site's surroundings do what they should, if all the sites do. -/
theorem sites_ctx (hC : C.Ok P) (hm : P.follows .mixedOrders = true) (hsg : ∀ f g, C.sg f = some g → callable P f = true ∧ Sound P C.gl f g) (hgl : Fr.gl = C.gl) :
    ∀ (c : Code) (Γ : List Seg), KOk P C Fr J K0 r Q0 Γ → (∀ s ∈ sites Γ c, SiteOk P C Fr J r Q0 s) → ∀ s ∈ sites Γ c, KOk P C Fr J K0 r Q0 s.2.1 ∧ (∀ s' ∈ sites s.2.1 s.2.2, SiteOk P C Fr J r Q0 s') ∧ ∀ c', s.2.2 = .loop c' → loopHead c' = some s.1 := by
  intro c
  induction c with
  | seq x y ihx ihy =>
    intro Γ hK hs s hin
    have hsy : ∀ s ∈ sites Γ y, SiteOk P C Fr J r Q0 s := fun s h => hs s (by simp only [sites, List.mem_append]; exact .inr (.inr h))
    have hy := den_sound (Q0 := Q0) (K0 := K0) hC hm hsg hgl y Γ hK hsy
    simp only [sites, List.mem_append] at hin
    rcases hin with hin | hin | hin
    · refine ihx (.seqL y :: Γ) ?_ (fun s hsx => hs s (by simp only [sites, List.mem_append]; exact .inl hsx)) s hin
      intro ex e' a' w' S' h' hI'
      refine Exit.then_to (fun hn => ?_) (fun hn => ?_)
      · subst hn
        simp only [ctxK] at h'
        cases hh : headOf y with
        | none => rw [hh] at h'; exact hy e' a' w' S' h' hI'
        | some p =>
          rw [hh] at h'
          simp only at h'
          cases hj : J p with
          | none => rw [hj] at h'; exact hy e' a' w' S' h' hI'
          | some cut =>
            rw [hj] at h'
            obtain ⟨S2, z, h1, h2⟩ := jump_inv hI' h'
            exact wp_of_site <| hs (p, Γ, y) (by simp only [sites, List.mem_append, hh]; exact .inr (.inl (by simp))) cut hj z a' w' S2 h1 h2
      · refine hK ex e' a' w' S' ?_ hI'
        cases ex with
        | normal => exact absurd rfl hn
        | exit i => exact h'
        | ret => exact h'
    · cases hh : headOf y with
      | none => rw [hh] at hin; cases hin
      | some p =>
        rw [hh] at hin
        simp only [List.mem_singleton] at hin
        subst hin
        refine ⟨hK, hsy, fun c' hc => ?_⟩
        simp only at hc
        subst hc
        cases hh
    · exact ihy Γ hK hsy s hin
  | cond cd x y ihx ihy =>
    intro Γ hK hs s hin
    simp only [sites, List.mem_append] at hin hs
    rcases hin with hin | hin
    · exact ihx Γ hK (fun s h => hs s (.inl h)) s hin
    · exact ihy Γ hK (fun s h => hs s (.inr h)) s hin
  | block id c ih =>
    intro Γ hK hs s hin
    refine ih (.blk id :: Γ) ?_ hs s hin
    intro ex e' a' w' S' h' hI'
    cases ex with
    | normal => exact hK .normal e' a' w' S' h' hI'
    | ret => exact hK .ret e' a' w' S' h' hI'
    | exit i =>
      simp only [ctxK] at h'
      show Exit.inBlock id (ctxQ P Q0 Γ) (.exit i) a' w'
      simp only [Exit.inBlock]
      cases hb : Nat.beq i id with
      | true =>
        rw [hb] at h'
        rw [if_pos (beq_iff.1 hb)]
        exact hK .normal e' a' w' S' h' hI'
      | false =>
        rw [hb] at h'
        rw [if_neg fun hc => by rw [beq_iff.2 hc] at hb; cases hb]
        exact hK (.exit i) e' a' w' S' h' hI'
  | loop c ih =>
    intro Γ hK hs s hin
    simp only [sites, List.mem_append] at hin hs
    rcases hin with hin | hin
    · cases hh : loopHead c with
      | none => rw [hh] at hin; cases hin
      | some p =>
        rw [hh] at hin hs
        simp only [List.mem_singleton] at hin
        subst hin
        refine ⟨hK, fun s' hs' => ?_, fun c' hc => by cases hc; exact hh⟩
        simp only [sites, List.mem_append, hh] at hs'
        exact hs s' hs'
    · refine ih (.lp c :: Γ) ?_ (fun s h => hs s (.inr h)) s hin
      intro ex e' a' w' S' h' hI'
      refine Exit.then_to (fun hn => ?_) (fun hn => ?_)
      · subst hn
        simp only [ctxK] at h'
        cases hh : loopHead c with
        | none => rw [hh] at h'; cases h'
        | some p =>
          rw [hh] at h' hs
          simp only at h'
          cases hj : J p with
          | none => rw [hj] at h'; cases h'
          | some cut =>
            rw [hj] at h'
            obtain ⟨S2, z, h1, h2⟩ := jump_inv hI' h'
            exact hs (p, Γ, .loop c) (.inl (by simp)) cut hj z a' w' S2 h1 h2
      · refine hK ex e' a' w' S' ?_ hI'
        cases ex with
        | normal => exact absurd rfl hn
        | exit i => exact h'
        | ret => exact h'
  | _ => intro Γ hK hs s hin; simp [sites] at hin

/-- **Code with cuts**, 'Jf k' being the cuts with so much fuel. -/
theorem code_sound {Jf : Nat → Nat → Option (Cut R)} (hC : C.Ok P) (hm : P.follows .mixedOrders = true) (hsg : ∀ f g, C.sg f = some g → callable P f = true ∧ Sound P C.gl f g) (hgl : Fr.gl = C.gl) {body : Code}
    (h0 : ∀ p cut, Jf 0 p = some cut → ∀ y, cut.g y ≠ some r) (h1 : ∀ k, ∀ s ∈ sites [] body, ∀ cut, Jf (k + 1) s.1 = some cut → ∀ y, cut.g y = some r → denSite C Fr.np (Jf k) K0 s.2.1 s.2.2 (cut.s.enc y) = some r)
    (hK : ∀ x e a w S, K0 x e = some r → Inv Fr C.nt S e a w → Q0 x.to a w) (k : Nat) {e : Env} {a : Act} {w : World} {S : St} (h : den C Fr.np (Jf k) body e K0 = some r) (hI : Inv Fr C.nt S e a w) : body.wp P Q0 a w := by
  have key : ∀ k, ∀ s ∈ sites [] body, SiteOk P C Fr (Jf k) r Q0 s := by
    intro k
    induction k with
    | zero => intro s _ cut hc y a w S hg _; exact absurd hg (h0 _ cut hc y)
    | succ k ih =>
      intro s hs cut hc y a w S hg hI
      obtain ⟨c1, c2, c3⟩ := sites_ctx (J := Jf k) (K0 := K0) hC hm hsg hgl body [] hK ih s hs
      exact site_sound hC hm hsg hgl c3 c1 c2 (h1 k s hs cut hc y hg) hI
  exact den_sound (K0 := K0) hC hm hsg hgl body [] hK (key k) e a w S h hI
end
end Go.Eng
