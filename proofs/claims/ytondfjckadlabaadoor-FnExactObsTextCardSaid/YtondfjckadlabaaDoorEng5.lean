/-
  Part of a proof by the engine: texts that a program of ours printed, or plain lemmas on them. No condition but what each theorem says.
-/
import Derived.Test.YtondfjckadlabaaDoorEng4
import Derived.Laws.Sem
import Derived.Below
import Derived.Deep.Slices
import Derived.Deep.Fields
import Derived.ChangeSame
import Derived.OpenShut
import Derived.LaidMore
import Derived.FnData
import Derived.Stop.LaidErr
import Derived.Laws.Cover2
import Derived.Carry
set_option linter.unusedVariables false
set_option linter.unusedSimpArgs false
namespace Go.Eng

/-- A loop, from its head. -/
def wpIn (P : Program) (c : Code) (Q : Exit → Act → World → Prop) (a : Act) (w : World) : Prop :=
  ∀ (b : Frame) (k : List Item) (cs : List Frame), ∃ e a' w', Q e a' w' ∧ Arrives P (lone (b.at a (.code c :: .inLoop c :: k)) cs w) b k cs e a' w'
theorem wp_of_in {P : Program} {c : Code} {Q : Exit → Act → World → Prop} {a : Act} {w : World} (h : wpIn P c Q a w) : (Code.loop c).wp P Q a w :=
  fun b k cs => let ⟨e, a', w', hq, harr⟩ := h b k cs; ⟨e, a', w', hq, .of_steps (.one step_loop) harr⟩
/-- Once more round. -/
theorem wp_round {P : Program} {c : Code} {Q : Exit → Act → World → Prop} {a : Act} {w : World} (h : c.wp P (Exit.then (wpIn P c Q) Q) a w) : wpIn P c Q a w := by
  intro b k cs
  obtain ⟨e, a₁, w₁, hq, harr⟩ := h b (.inLoop c :: k) cs
  cases e with
  | normal =>
    obtain ⟨e₂, a₂, w₂, hq₂, harr₂⟩ := hq b k cs
    exact ⟨e₂, a₂, w₂, hq₂, .of_steps (Steps.trans harr (.one step_inLoop)) harr₂⟩
  | exit id => exact ⟨_, a₁, w₁, hq, .pass (x := .inLoop c) rfl (fun _ _ => .inl (by simp)) harr⟩
  | goto l => exact ⟨_, a₁, w₁, hq, .pass (x := .inLoop c) rfl (fun _ _ => .inl (by simp)) harr⟩
  | ret => exact ⟨_, a₁, w₁, hq, .pass (x := .inLoop c) rfl (fun _ _ => .inl (by simp)) harr⟩
  | panic ch => exact ⟨_, a₁, w₁, hq, .pass (x := .inLoop c) rfl (fun _ _ => .inl (by simp)) harr⟩
  | outgrown => exact ⟨_, a₁, w₁, hq, .pass (x := .inLoop c) rfl (fun _ _ => .inl (by simp)) harr⟩
/-- What is asked of a site. -/
def siteWp (P : Program) : Code → (Exit → Act → World → Prop) → Act → World → Prop
  | .loop c, Q => wpIn P c Q
  | c, Q => c.wp P Q
theorem wp_of_site {P : Program} {c : Code} {Q : Exit → Act → World → Prop} {a : Act} {w : World} (h : siteWp P c Q a w) : c.wp P Q a w := by
  cases c <;> first | exact h | exact wp_of_in h

/-! ### Where a piece of code stands -/
inductive Seg where
  | seqL (b : Code) | blk (id : Nat) | lp (c : Code)

section
variable {R : Type} (C : Ctx) (np : Nat) (J : Nat → Option (Cut R)) (K0 : AExit → Env → Option R)
def ctxK : List Seg → AExit → Env → Option R
  | [] => K0
  | .seqL b :: Γ => fun x e' => match x with
    | .normal => match headOf b with
      | some p => match J p with
        | some c => jump np c e'
        | none => den C np J b e' (ctxK Γ)
      | none => den C np J b e' (ctxK Γ)
    | x => ctxK Γ x e'
  | .blk id :: Γ => fun x e' => match x with
    | .exit i => bif Nat.beq i id then ctxK Γ .normal e' else ctxK Γ (.exit i) e'
    | x => ctxK Γ x e'
  | .lp c :: Γ => fun x e' => match x with
    | .normal => match loopHead c with
      | some p => match J p with
        | some c => jump np c e'
        | none => none
      | none => none
    | x => ctxK Γ x e'
end
def ctxQ (P : Program) (Q0 : Exit → Act → World → Prop) : List Seg → Exit → Act → World → Prop
  | [] => Q0
  | .seqL b :: Γ => Exit.then (b.wp P (ctxQ P Q0 Γ)) (ctxQ P Q0 Γ)
  | .blk id :: Γ => Exit.inBlock id (ctxQ P Q0 Γ)
  | .lp c :: Γ => Exit.then (wpIn P c (ctxQ P Q0 Γ)) (ctxQ P Q0 Γ)
def sites : List Seg → Code → List (Nat × List Seg × Code)
  | Γ, .seq a b => sites (.seqL b :: Γ) a ++ ((match headOf b with | some p => [(p, Γ, b)] | none => []) ++ sites Γ b)
  | Γ, .cond _ a b => sites Γ a ++ sites Γ b
  | Γ, .block id c => sites (.blk id :: Γ) c
  | Γ, .loop c => (match loopHead c with | some p => [(p, Γ, .loop c)] | none => []) ++ sites (.lp c :: Γ) c
  | _, _ => []
/-- From a site on: a loop's body, or the code. -/
def denSite {R : Type} (C : Ctx) (np : Nat) (J : Nat → Option (Cut R)) (K0 : AExit → Env → Option R) (Γ : List Seg) : Code → Env → Option R
  | .loop c, e => den C np J c e (ctxK C np J K0 (.lp c :: Γ))
  | c, e => den C np J c e (ctxK C np J K0 Γ)

def AExit.to : AExit → Exit
  | .normal => .normal
  | .exit i => .exit i
  | .ret => .ret

section
variable {P : Program} {C : Ctx} {Fr : Fd} {R : Type} {J : Nat → Option (Cut R)} {K0 : AExit → Env → Option R} {r : R} {Q0 : Exit → Act → World → Prop}

theorem own_nameOf : ∀ {np j n : Nat}, (FS.own np).nameOf j = some n → n = j ∧ j < np
  | 0, j, n, h => by simp [FS.own, FS.nameOf, AL.get] at h
  | np + 1, j, n, h => by
    simp only [FS.own, FS.nameOf, AL.get] at h
    cases hb : Nat.beq j np with
    | true =>
      rw [hb] at h
      simp only [cond_true, Option.some.injEq] at h
      have := beq_iff.1 hb
      omega
    | false =>
      rw [hb] at h
      have := own_nameOf (np := np) h
      omega
theorem own_has : ∀ {np j : Nat}, j < np → (FS.own np).nameOf j = some j
  | 0, j, h => by omega
  | np + 1, j, h => by
    simp only [FS.own, FS.nameOf, AL.get]
    cases hb : Nat.beq j np with
    | true => have := beq_iff.1 hb; subst this; rfl
    | false =>
      have : j ≠ np := fun hc => by rw [beq_iff.2 hc] at hb; cases hb
      exact own_has (np := np) (by omega)
theorem own_rest : ∀ np, (FS.own np).l = [] ∧ (FS.own np).z = [] ∧ (FS.own np).d = []
  | 0 => ⟨rfl, rfl, rfl⟩
  | np + 1 => own_rest np
theorem own_ok {nt : Nat} {S : St} {e : Env} {a : Act} {w : World} (hI : Inv Fr nt S e a w) : (FS.own Fr.np).Ok e.h.get S := by
  obtain ⟨h1, h2, _⟩ := own_rest Fr.np
  refine ⟨fun j n hj => ?_, fun i j n _ _ hi hj => ?_, fun j n ob _ _ hl => ?_, fun n ob hl => ?_, fun j hj => ?_⟩
  · obtain ⟨rfl, h⟩ := own_nameOf hj; exact ⟨_, hI.own n h⟩
  · exact (own_nameOf hi).1.symm.trans (own_nameOf hj).1
  · rw [h1] at hl; cases hl
  · rw [h1] at hl; cases hl
  · rw [h2] at hj; cases hj

/-- A state told anew at a cut. -/
theorem fit_inv {nt : Nat} {S : St} {e : Env} {a : Act} {w : World} (hI : Inv Fr nt S e a w) {sh : Shape} {x : sh.den} {s : FS} {F : List Nat} (h : (fit sh e.t.get (FS.own Fr.np)).run e.h.get = some ((x, s), F)) : Inv Fr nt (s.view S) (sh.enc x) a w := by
  obtain ⟨l1, o1, r1, A1, _, _, _⟩ := fit_anew hI (val := fun i => a.tmps[i]?) (fun i v hi => hI.tmps i v hi) (own_ok hI) (own_rest Fr.np).2.2 h
  refine A1.inv hI (fun t v ht => ?_) fun j hj => ?_
  · obtain ⟨i, hi⟩ := AL.get_mem ht
    exact r1 i t v hi
  · exact o1.sees.m j j (l1.m j j (own_has hj))
theorem jump_inv {nt : Nat} {S : St} {e : Env} {a : Act} {w : World} (hI : Inv Fr nt S e a w) {c : Cut R} (h : jump Fr.np c e = some r) : ∃ S' y, c.g y = some r ∧ Inv Fr nt S' (c.s.enc y) a w := by
  obtain ⟨⟨y, s⟩, F, h1, h2⟩ := RM.run_runK h
  exact ⟨_, y, h2, fit_inv hI h1⟩

/-- What comes behind does what it should. -/
def KOk (P : Program) (C : Ctx) (Fr : Fd) (J : Nat → Option (Cut R)) (K0 : AExit → Env → Option R) (r : R) (Q0 : Exit → Act → World → Prop) (Γ : List Seg) : Prop :=
  ∀ x e a w S, ctxK C Fr.np J K0 Γ x e = some r → Inv Fr C.nt S e a w → ctxQ P Q0 Γ x.to a w
def SiteOk (P : Program) (C : Ctx) (Fr : Fd) (J : Nat → Option (Cut R)) (r : R) (Q0 : Exit → Act → World → Prop) (s : Nat × List Seg × Code) : Prop :=
  ∀ cut, J s.1 = some cut → ∀ y a w S, cut.g y = some r → Inv Fr C.nt S (cut.s.enc y) a w → siteWp P s.2.2 (ctxQ P Q0 s.2.1) a w

theorem Exit.then_to {x : AExit} {n : Act → World → Prop} {Q : Exit → Act → World → Prop} {a : Act} {w : World} (h1 : x = .normal → n a w) (h2 : x ≠ .normal → Q x.to a w) : Exit.then n Q x.to a w := by
  cases x with
  | normal => exact h1 rfl
  | exit i => exact h2 (by simp)
  | ret => exact h2 (by simp)

theorem Inv.upd {nt : Nat} {S : St} {e : Env} {a : Act} {w : World} (hI : Inv Fr nt S e a w) {d : Nat} {b : AVal} (h : e.t.get d = some b) : Inv Fr nt S { e with t := e.t.upd d b } a w := by
  rw [AL.upd_same _ _ _ h]; exact hI

theorem den_sound (hC : C.Ok P) (hm : P.follows .mixedOrders = true) (hsg : ∀ f ks g, C.sg f ks = some g → SoundC P C.gl f g) (hgl : Fr.gl = C.gl) :
    ∀ (c : Code) (Γ : List Seg), KOk P C Fr J K0 r Q0 Γ → (∀ s ∈ sites Γ c, SiteOk P C Fr J r Q0 s) → ∀ e a w S, den C Fr.np J c e (ctxK C Fr.np J K0 Γ) = some r → Inv Fr C.nt S e a w → c.wp P (ctxQ P Q0 Γ) a w := by
  intro c
  induction c with
  | skip => intro Γ hK _ e a w S h hI; exact wp_skip (hK .normal e a w S h hI)
  | region id ops draw =>
    intro Γ hK _ e a w S h hI
    exact wp_regK hC hm hsg hgl h hI fun e' a' w' S' h' hI' => hK .normal e' a' w' S' h' hI'
  | seq x y ihx ihy =>
    intro Γ hK hs e a w S h hI
    refine wp_seq ?_
    have hy := ihy Γ hK fun s hsy => hs s (by simp only [sites, List.mem_append]; exact .inr (.inr hsy))
    refine ihx (.seqL y :: Γ) ?_ (fun s hsx => hs s (by simp only [sites, List.mem_append]; exact .inl hsx)) e a w S h hI
    intro ex e' a' w' S' h' hI'
    refine Exit.then_to (fun hn => ?_) (fun hn => ?_)
    · subst hn
      simp only [ctxK] at h'
      cases hh : headOf y with
      | none => rw [hh] at h'; exact hy e' a' w' S' h' hI'
      | some p =>
        rw [hh] at h'
        simp only at h'
        cases hj : J p with
        | none => rw [hj] at h'; exact hy e' a' w' S' h' hI'
        | some cut =>
          rw [hj] at h'
          obtain ⟨S2, z, h1, h2⟩ := jump_inv hI' h'
          exact wp_of_site <| hs (p, Γ, y) (by simp only [sites, List.mem_append, hh]; exact .inr (.inl (by simp))) cut hj z a' w' S2 h1 h2
    · refine hK ex e' a' w' S' ?_ hI'
      cases ex with
      | normal => exact absurd rfl hn
      | exit i => exact h'
      | ret => exact h'
  | cond cd x y ihx ihy =>
    intro Γ hK hs e a w S h hI
    have hx := ihx Γ hK fun s hsx => hs s (by simp only [sites, List.mem_append]; exact .inl hsx)
    have hy := ihy Γ hK fun s hsy => hs s (by simp only [sites, List.mem_append]; exact .inr hsy)
    cases cd with
    | tmp d =>
      simp only [den] at h
      cases hd : e.t.get d with
      | none => rw [hd] at h; cases h
      | some v =>
        rw [hd] at h
        match v, hd, h with
        | .c (.bool b), hd, h =>
          obtain ⟨u, h1, h2, _⟩ := hI.tmps d _ hd
          have h2' : u = .bool b := h2
          subst h2'
          have hev : a.eval (.tmp d) = .bool b := by simp [Act.eval, h1]
          cases b with
          | true => exact wp_cond hev (hx _ a w S h (hI.upd hd))
          | false => exact wp_cond hev (hy _ a w S h (hI.upd hd))
        | .c (.int ..), _, hx | .c (.str _), _, hx | .c (.flt _), _, hx | .c (.sl ..), _, hx | .c .nil, _, hx | .c (.ref _), _, hx | .c (.ptr ..), _, hx | .c (.eptr ..), _, hx | .c (.vptr ..), _, hx | .c (.gptr ..), _, hx
        | .c (.fn ..), _, hx | .c (.opq _), _, hx | .agg _, _, hx | .tup _, _, hx => cases hx
    | const v =>
      match v, h with
      | .bool b, h =>
        have hev : a.eval (.const (.bool b)) = .bool b := rfl
        cases b with
        | true => exact wp_cond hev (hx _ a w S h hI)
        | false => exact wp_cond hev (hy _ a w S h hI)
    | global g => cases h
    | func f => cases h
  | block id c ih =>
    intro Γ hK hs e a w S h hI
    refine wp_block ?_
    refine ih (.blk id :: Γ) ?_ hs e a w S h hI
    intro ex e' a' w' S' h' hI'
    cases ex with
    | normal => exact hK .normal e' a' w' S' h' hI'
    | ret => exact hK .ret e' a' w' S' h' hI'
    | exit i =>
      simp only [ctxK] at h'
      show Exit.inBlock id (ctxQ P Q0 Γ) (.exit i) a' w'
      simp only [Exit.inBlock]
      cases hb : Nat.beq i id with
      | true =>
        rw [hb] at h'
        rw [if_pos (beq_iff.1 hb)]
        exact hK .normal e' a' w' S' h' hI'
      | false =>
        rw [hb] at h'
        rw [if_neg fun hc => by rw [beq_iff.2 hc] at hb; cases hb]
        exact hK (.exit i) e' a' w' S' h' hI'
  | loop c ih =>
    intro Γ hK hs e a w S h hI
    simp only [den] at h
    cases hh : loopHead c with
    | none => rw [hh] at h; cases h
    | some p =>
      rw [hh] at h
      simp only at h
      cases hj : J p with
      | none => rw [hj] at h; cases h
      | some cut =>
        rw [hj] at h
        obtain ⟨S2, z, h1, h2⟩ := jump_inv hI h
        exact wp_of_site <| hs (p, Γ, .loop c) (by simp only [sites, List.mem_append, hh]; exact .inl (by simp)) cut hj z a w S2 h1 h2
  | exit id => intro Γ hK _ e a w S h hI; exact wp_exit (hK (.exit id) e a w S h hI)
  | ret => intro Γ hK _ e a w S h hI; exact wp_ret (hK .ret e a w S h hI)
  | rangeFunc f ps x y => intro Γ hK _ e a w S h hI; cases h
  | scope c => intro Γ hK _ e a w S h hI; cases h
  | label l => intro Γ hK _ e a w S h hI; cases h
  | goto l => intro Γ hK _ e a w S h hI; cases h
  | refuse => intro Γ hK _ e a w S h hI; cases h

/-- From a site on. -/
theorem site_sound (hC : C.Ok P) (hm : P.follows .mixedOrders = true) (hsg : ∀ f ks g, C.sg f ks = some g → SoundC P C.gl f g) (hgl : Fr.gl = C.gl) {c : Code} {Γ : List Seg} {p : Nat} (hp : ∀ c', c = .loop c' → loopHead c' = some p) (hK : KOk P C Fr J K0 r Q0 Γ) (hs : ∀ s ∈ sites Γ c, SiteOk P C Fr J r Q0 s) {e : Env} {a : Act} {w : World} {S : St}
    (h : denSite C Fr.np J K0 Γ c e = some r) (hI : Inv Fr C.nt S e a w) : siteWp P c (ctxQ P Q0 Γ) a w := by
  have other : (∀ c', c ≠ .loop c') → siteWp P c (ctxQ P Q0 Γ) a w := fun hn => by
    have h1 : den C Fr.np J c e (ctxK C Fr.np J K0 Γ) = some r := by
      cases c <;> first | exact h | exact absurd rfl (hn _)
    have := den_sound hC hm hsg hgl c Γ hK hs e a w S h1 hI
    cases c <;> first | exact this | exact absurd rfl (hn _)
  cases c with
  | loop c' =>
    refine wp_round ?_
    refine den_sound hC hm hsg hgl c' (.lp c' :: Γ) ?_ (fun s hsx => hs s (by simp only [sites, List.mem_append]; exact .inr hsx)) e a w S h hI
    intro ex e' a' w' S' h' hI'
    refine Exit.then_to (fun hn => ?_) (fun hn => ?_)
    · subst hn
      simp only [ctxK, hp c' rfl] at h'
      cases hj : J p with
      | none => rw [hj] at h'; cases h'
      | some cut =>
        rw [hj] at h'
        obtain ⟨S2, z, h1, h2⟩ := jump_inv hI' h'
        exact hs (p, Γ, .loop c') (by simp only [sites, List.mem_append, hp c' rfl]; exact .inl (by simp)) cut hj z a' w' S2 h1 h2
    · refine hK ex e' a' w' S' ?_ hI'
      cases ex with
      | normal => exact absurd rfl hn
      | exit i => exact h'
      | ret => exact h'
  | _ => exact other fun c' hc => by cases hc

/-- Each site's surroundings do what they should, if all the sites do. -/
theorem sites_ctx (hC : C.Ok P) (hm : P.follows .mixedOrders = true) (hsg : ∀ f ks g, C.sg f ks = some g → SoundC P C.gl f g) (hgl : Fr.gl = C.gl) :
    ∀ (c : Code) (Γ : List Seg), KOk P C Fr J K0 r Q0 Γ → (∀ s ∈ sites Γ c, SiteOk P C Fr J r Q0 s) → ∀ s ∈ sites Γ c, KOk P C Fr J K0 r Q0 s.2.1 ∧ (∀ s' ∈ sites s.2.1 s.2.2, SiteOk P C Fr J r Q0 s') ∧ ∀ c', s.2.2 = .loop c' → loopHead c' = some s.1 := by
  intro c
  induction c with
  | seq x y ihx ihy =>
    intro Γ hK hs s hin
    have hsy : ∀ s ∈ sites Γ y, SiteOk P C Fr J r Q0 s := fun s h => hs s (by simp only [sites, List.mem_append]; exact .inr (.inr h))
    have hy := den_sound (Q0 := Q0) (K0 := K0) hC hm hsg hgl y Γ hK hsy
    simp only [sites, List.mem_append] at hin
    rcases hin with hin | hin | hin
    · refine ihx (.seqL y :: Γ) ?_ (fun s hsx => hs s (by simp only [sites, List.mem_append]; exact .inl hsx)) s hin
      intro ex e' a' w' S' h' hI'
      refine Exit.then_to (fun hn => ?_) (fun hn => ?_)
      · subst hn
        simp only [ctxK] at h'
        cases hh : headOf y with
        | none => rw [hh] at h'; exact hy e' a' w' S' h' hI'
        | some p =>
          rw [hh] at h'
          simp only at h'
          cases hj : J p with
          | none => rw [hj] at h'; exact hy e' a' w' S' h' hI'
          | some cut =>
            rw [hj] at h'
            obtain ⟨S2, z, h1, h2⟩ := jump_inv hI' h'
            exact wp_of_site <| hs (p, Γ, y) (by simp only [sites, List.mem_append, hh]; exact .inr (.inl (by simp))) cut hj z a' w' S2 h1 h2
      · refine hK ex e' a' w' S' ?_ hI'
        cases ex with
        | normal => exact absurd rfl hn
        | exit i => exact h'
        | ret => exact h'
    · cases hh : headOf y with
      | none => rw [hh] at hin; cases hin
      | some p =>
        rw [hh] at hin
        simp only [List.mem_singleton] at hin
        subst hin
        refine ⟨hK, hsy, fun c' hc => ?_⟩
        simp only at hc
        subst hc
        cases hh
    · exact ihy Γ hK hsy s hin
  | cond cd x y ihx ihy =>
    intro Γ hK hs s hin
    simp only [sites, List.mem_append] at hin hs
    rcases hin with hin | hin
    · exact ihx Γ hK (fun s h => hs s (.inl h)) s hin
    · exact ihy Γ hK (fun s h => hs s (.inr h)) s hin
  | block id c ih =>
    intro Γ hK hs s hin
    refine ih (.blk id :: Γ) ?_ hs s hin
    intro ex e' a' w' S' h' hI'
    cases ex with
    | normal => exact hK .normal e' a' w' S' h' hI'
    | ret => exact hK .ret e' a' w' S' h' hI'
    | exit i =>
      simp only [ctxK] at h'
      show Exit.inBlock id (ctxQ P Q0 Γ) (.exit i) a' w'
      simp only [Exit.inBlock]
      cases hb : Nat.beq i id with
      | true =>
        rw [hb] at h'
        rw [if_pos (beq_iff.1 hb)]
        exact hK .normal e' a' w' S' h' hI'
      | false =>
        rw [hb] at h'
        rw [if_neg fun hc => by rw [beq_iff.2 hc] at hb; cases hb]
        exact hK (.exit i) e' a' w' S' h' hI'
  | loop c ih =>
    intro Γ hK hs s hin
    simp only [sites, List.mem_append] at hin hs
    rcases hin with hin | hin
    · cases hh : loopHead c with
      | none => rw [hh] at hin; cases hin
      | some p =>
        rw [hh] at hin hs
        simp only [List.mem_singleton] at hin
        subst hin
        refine ⟨hK, fun s' hs' => ?_, fun c' hc => by cases hc; exact hh⟩
        simp only [sites, List.mem_append, hh] at hs'
        exact hs s' hs'
    · refine ih (.lp c :: Γ) ?_ (fun s h => hs s (.inr h)) s hin
      intro ex e' a' w' S' h' hI'
      refine Exit.then_to (fun hn => ?_) (fun hn => ?_)
      · subst hn
        simp only [ctxK] at h'
        cases hh : loopHead c with
        | none => rw [hh] at h'; cases h'
        | some p =>
          rw [hh] at h' hs
          simp only at h'
          cases hj : J p with
          | none => rw [hj] at h'; cases h'
          | some cut =>
            rw [hj] at h'
            obtain ⟨S2, z, h1, h2⟩ := jump_inv hI' h'
            exact hs (p, Γ, .loop c) (.inl (by simp)) cut hj z a' w' S2 h1 h2
      · refine hK ex e' a' w' S' ?_ hI'
        cases ex with
        | normal => exact absurd rfl hn
        | exit i => exact h'
        | ret => exact h'
  | _ => intro Γ hK hs s hin; simp [sites] at hin

/-- **Code with cuts**, 'Jf k' being the cuts with so much fuel. -/
theorem code_sound {Jf : Nat → Nat → Option (Cut R)} (hC : C.Ok P) (hm : P.follows .mixedOrders = true) (hsg : ∀ f ks g, C.sg f ks = some g → SoundC P C.gl f g) (hgl : Fr.gl = C.gl) {body : Code}
    (h0 : ∀ p cut, Jf 0 p = some cut → ∀ y, cut.g y ≠ some r) (h1 : ∀ k, ∀ s ∈ sites [] body, ∀ cut, Jf (k + 1) s.1 = some cut → ∀ y, cut.g y = some r → denSite C Fr.np (Jf k) K0 s.2.1 s.2.2 (cut.s.enc y) = some r)
    (hK : ∀ x e a w S, K0 x e = some r → Inv Fr C.nt S e a w → Q0 x.to a w) (k : Nat) {e : Env} {a : Act} {w : World} {S : St} (h : den C Fr.np (Jf k) body e K0 = some r) (hI : Inv Fr C.nt S e a w) : body.wp P Q0 a w := by
  have key : ∀ k, ∀ s ∈ sites [] body, SiteOk P C Fr (Jf k) r Q0 s := by
    intro k
    induction k with
    | zero => intro s _ cut hc y a w S hg _; exact absurd hg (h0 _ cut hc y)
    | succ k ih =>
      intro s hs cut hc y a w S hg hI
      obtain ⟨c1, c2, c3⟩ := sites_ctx (J := Jf k) (K0 := K0) hC hm hsg hgl body [] hK ih s hs
      exact site_sound hC hm hsg hgl c3 c1 c2 (h1 k s hs cut hc y hg) hI
  exact den_sound (K0 := K0) hC hm hsg hgl body [] hK (key k) e a w S h hI
end
end Go.Eng

namespace Go.Eng
section
variable {P : Program} {C : Ctx} {Fr : Fd} {nt : Nat} {S : St} {e : Env} {a : Act} {w : World}

/-- One result. -/
def resOne (tmps : Array Value) : ResultVar → Sem Value
  | .tmp t => pure (tmps.getD t undef)
  | .cell a t => do loadVar t (← asAddr (tmps.getD a undef))
theorem results_eq (fn : Func) (tmps : Array Value) : results fn tmps = (do let vs ← fn.results.mapM (resOne tmps); pure (if h : vs.size = 1 then vs[0] else .tuple vs)) := by
  unfold results
  congr 1

theorem loadAt_inv {t : TypeId} {v u : Value} (h : (Instr.loadAt t v).run P w = .ok u w) : (do loadVar t (← asAddr v) : Sem Value).run P w = .ok u w := by
  have key : (∃ p, v = .pointer (some p)) ∨ Instr.sureAddr v = stuck "an address expected (no nilCheck in front?)" := by
    unfold Instr.sureAddr
    split
    · exact .inl ⟨_, rfl⟩
    · exact .inr rfl
  rcases key with ⟨p, rfl⟩ | hk
  · simpa [Instr.loadAt, Instr.sureAddr, asAddr] using h
  · unfold Instr.loadAt at h
    rw [hk] at h
    cases h

theorem resA_rep (hC : C.Ok P) (hgl : Fr.gl = C.gl) (hI : Inv Fr nt S e a w) : ∀ {rs : List ResultVar} {vs : List AVal} {F : List Nat}, (resA C e.t.get rs).run e.h.get = some (vs, F) →
    ∃ us : List Value, (rs.mapM (resOne a.tmps)).run P w = .ok us w ∧ RepAs w S vs us
  | [], vs, F, h => by
    obtain ⟨rfl, _⟩ := run_ret h
    exact ⟨[], by simp, trivial⟩
  | .tmp t :: rs, vs, F, h => by
    simp only [resA] at h
    cases ht : e.t.get t with
    | none => rw [ht] at h; exact run_fail h
    | some v =>
      rw [ht] at h
      obtain ⟨vs', F1, F2, h1, h2, _⟩ := RM.run_bind h
      obtain ⟨rfl, _⟩ := run_ret h2
      obtain ⟨us, k1, k2⟩ := resA_rep hC hgl hI h1
      obtain ⟨u, g1, g2⟩ := hI.tmps t v ht
      refine ⟨u :: us, ?_, g2, k2⟩
      have : a.tmps.getD t undef = u := by simp [g1]
      simp [List.mapM_cons, resOne, this, k1]
  | .cell t ty :: rs, vs, F, h => by
    simp only [resA] at h
    cases ht : e.t.get t with
    | none => rw [ht] at h; exact run_fail h
    | some p =>
      rw [ht] at h
      obtain ⟨v, F1, F2, h1, h2, _⟩ := RM.run_bind h
      obtain ⟨vs', F3, F4, h3, h4, _⟩ := RM.run_bind h2
      obtain ⟨rfl, _⟩ := run_ret h4
      obtain ⟨us, k1, k2⟩ := resA_rep hC hgl hI h3
      obtain ⟨u, g1, g2⟩ := hI.tmps t p ht
      obtain ⟨z, l1, l2⟩ := load_ok hC hgl hI g2 h1
      refine ⟨z :: us, ?_, l2, k2⟩
      have hu : a.tmps.getD t undef = u := by simp [g1]
      have := loadAt_inv l1
      simp only [List.mapM_cons, resOne, hu, Sem.run_bind]
      simp only [Sem.run_bind] at this
      rw [this]
      simp [k1]

theorem tupL_rep : ∀ {vs : List AVal} {us : List Value} {l : List (Bool × List Cell)}, RepAs w S vs us → tupL vs = some l → RepT w S l us
  | [], [], l, _, h => by simp only [tupL, Option.some.injEq] at h; subst h; trivial
  | v :: vs, u :: us, l, hr, h => by
    simp only [tupL] at h
    cases hc : v.cells with
    | none => rw [hc] at h; cases h
    | some c =>
      cases ht : tupL vs with
      | none => rw [hc, ht] at h; cases h
      | some r =>
        rw [hc, ht] at h
        simp only [Option.some.injEq] at h
        subst h
        refine ⟨?_, tupL_rep hr.2 ht⟩
        cases v with
        | c x => simp only [AVal.cells, Option.some.injEq] at hc; subst hc; exact hr.1
        | agg cs => simp only [AVal.cells, Option.some.injEq] at hc; subst hc; exact hr.1
        | tup _ => cases hc
  | [], _ :: _, _, hr, _ => hr.elim
  | _ :: _, [], _, hr, _ => hr.elim

theorem results_rep (hC : C.Ok P) (hgl : Fr.gl = C.gl) (hI : Inv Fr nt S e a w) {fn : Func} {vs : List AVal} {v : AVal} {F1 F2 : List Nat} (h1 : (resA C e.t.get fn.results.toList).run e.h.get = some (vs, F1)) (h2 : (resV vs).run e.h.get = some (v, F2)) :
    ∃ u, (results fn a.tmps).run P w = .ok u w ∧ RepA w S v u := by
  obtain ⟨us, k1, k2⟩ := resA_rep hC hgl hI h1
  have hm : (fn.results.mapM (resOne a.tmps)).run P w = .ok us.toArray w := by
    rw [Array.mapM_eq_mapM_toList, map_eq_pure_bind, Sem.run_bind, k1]
    rfl
  have hres : (results fn a.tmps).run P w = .ok (if h : us.toArray.size = 1 then us.toArray[0] else .tuple us.toArray) w := by
    rw [results_eq, Sem.run_bind, hm]
    rfl
  have gen : ∀ l, tupL vs = some l → v = .tup l → us.length ≠ 1 → ∃ u, (results fn a.tmps).run P w = .ok u w ∧ RepA w S v u := fun l hl hv hn => by
    refine ⟨_, hres, ?_⟩
    rw [dif_neg (by simpa using hn), hv]
    exact ⟨us, rfl, tupL_rep k2 hl⟩
  have hlen := k2.length
  cases vs with
  | nil =>
    obtain ⟨rfl, _⟩ := run_ret h2
    exact gen [] rfl rfl (by simp at hlen; simp [← hlen])
  | cons x vs =>
    cases vs with
    | nil =>
      obtain ⟨rfl, _⟩ := run_ret h2
      cases us with
      | nil => cases hlen
      | cons u us =>
        cases us with
        | nil => exact ⟨u, by rw [hres]; rfl, k2.1⟩
        | cons _ _ => simp at hlen
    | cons y vs =>
      simp only [resV] at h2
      cases ht : tupL (x :: y :: vs) with
      | none => rw [ht] at h2; exact run_fail h2
      | some l =>
        rw [ht] at h2
        obtain ⟨rfl, _⟩ := run_ret h2
        exact gen l ht rfl (by simp at hlen; omega)

/-- **A function.** -/
theorem sound_of (hC : C.Ok P) (hm : P.follows .mixedOrders = true) (hsg : ∀ f ks g, C.sg f ks = some g → SoundC P C.gl f g) {f : FuncId} {fn : Func} {body : Code} {g : Sg} {up : g.outs.den → g.β}
    (hf : P.funcs[f]? = some fn) (hb : fn.body = some body) (hnt : fn.ntmps = C.nt) (hkeys : keysOk 0 g.ins.t = true) (hlen : Nat.ble g.ins.t.length C.nt = true) (hone : g.outs.t.length = 1) (hup : ∀ y, g.dn (up y) = y)
    {Jf : Nat → Nat → Option (Cut g.β)} (h0 : ∀ p cut, Jf 0 p = some cut → ∀ y r, cut.g y ≠ some r)
    (h1 : ∀ k, ∀ s ∈ sites [] body, ∀ cut, Jf (k + 1) s.1 = some cut → ∀ y r, cut.g y = some r → denSite C g.ins.h.length (Jf k) (retK C g.ins.h.length g.outs up fn.results.toList) s.2.1 s.2.2 (cut.s.enc y) = some r)
    (hbody : ∀ x y, g.fn x = some y → ∃ k, den C g.ins.h.length (Jf k) body (g.ins.enc x) (retK C g.ins.h.length g.outs up fn.results.toList) = some y) : Sound P C.gl f g := by
  intro w S vals x y hI hr hfn
  obtain ⟨k, hk⟩ := hbody x y hfn
  have hsz : vals.size = g.ins.t.length := by
    have := hr.length
    rw [List.length_map, encT_length] at this
    simpa using this.symm
  have hle := Nat.le_of_ble_eq_true hlen
  refine calls_of_wp hf hb ?_
  have hInv : Inv (FdOf C.gl w S g.ins.h.length) C.nt S (g.ins.enc x) { tmps := vals ++ Array.replicate (fn.ntmps - vals.size) undef, defers := [] } w :=
    { hI with
      defers := rfl
      size := by simp [hnt, hsz]; omega
      tmps := fun t v ht => by
        obtain ⟨i, hi⟩ := AL.get_mem ht
        obtain ⟨sa, hsa⟩ := encT_key hi
        have hp := keysOk_get hkeys i _ hsa
        simp only at hp
        have hti : t = i := by omega
        subst hti
        obtain ⟨u, h1, h2⟩ := hr.get t v (by rw [List.getElem?_map, show (encT g.ins.t x.1)[t]? = some (t, v) from hi]; rfl)
        refine ⟨u, ?_, h2⟩
        have hlt : t < vals.size := by
          rcases Nat.lt_or_ge t vals.size with h | h
          · exact h
          · rw [List.getElem?_eq_none (by simpa using h)] at h1; cases h1
        show (vals ++ Array.replicate (fn.ntmps - vals.size) undef)[t]? = some u
        rw [Array.getElem?_append_left hlt]
        simpa using h1 }
  refine code_sound (Fr := FdOf C.gl w S g.ins.h.length) (K0 := retK C g.ins.h.length g.outs up fn.results.toList) (r := y) hC hm hsg rfl (fun p cut hc z => h0 p cut hc z y) (fun k s hs cut hc z hz => h1 k s hs cut hc z y hz) ?_ k hk hInv
  intro ex e a' w' S' hK hI'
  have main : (((resA C e.t.get fn.results.toList).bind fun vs => (resV vs).bind fun v => fit g.outs (fun i => bif Nat.beq i 0 then some v else none) (FS.own g.ins.h.length)).runK e.h.get [] fun y _ => some (up y.1)) = some y →
      a'.defers = [] ∧ ∃ v, (results fn a'.tmps).run P w' = .ok v w' ∧ (∃ v' S', Ending.returned v = .returned v' ∧ (∃ p r, encT g.outs.t (g.dn y).1 = [(p, r)] ∧ RepA w' S' r v') ∧ Inv (FdOf C.gl w S g.ins.h.length) 0 S' ⟨[], encH 0 g.outs.h (g.dn y).2⟩ noAct w') := fun hK => by
    obtain ⟨⟨z, s⟩, F, q1, q2⟩ := RM.run_runK hK
    simp only [Option.some.injEq] at q2
    subst q2
    obtain ⟨vs, F1, F2, q3, q4, _⟩ := RM.run_bind q1
    obtain ⟨v, F3, F4, q5, q6, _⟩ := RM.run_bind q4
    obtain ⟨u, r1, r2⟩ := results_rep hC rfl hI' q3 q5
    refine ⟨hI'.defers, u, r1, u, s.view S', rfl, ?_⟩
    have hget : ∀ i x, (fun i => bif Nat.beq i 0 then some v else none) i = some x → ∃ u', (fun i => if i = 0 then some u else none) i = some u' ∧ RepA w' S' x u' := fun i x hi => by
      have hi' : (bif Nat.beq i 0 then some v else none) = some x := hi
      cases hb : Nat.beq i 0 with
      | true => rw [hb] at hi'; cases hi'; exact ⟨u, by simp only; rw [if_pos (beq_iff.1 hb)], r2⟩
      | false => rw [hb] at hi'; cases hi'
    obtain ⟨l1, o1, g1, A1, _, _, _⟩ := fit_anew hI' hget (own_ok hI') (own_rest _).2.2 q6
    rw [hup]
    constructor
    · have hl : (encT g.outs.t z.1).length = 1 := by rw [encT_length, hone]
      match hE : encT g.outs.t z.1, hl with
      | [(p, r)], _ =>
        obtain ⟨u', k1, k2⟩ := g1 0 p r (by rw [hE]; rfl)
        have k1 : (if p = 0 then some u else none) = some u' := k1
        split at k1
        · simp only [Option.some.injEq] at k1; subst k1; exact ⟨p, r, rfl, k2⟩
        · cases k1
    · have := A1.inv (T := []) hI' (fun t v ht => by cases ht) fun j hj => o1.sees.m j j (l1.m j j (own_has hj))
      exact { this with defers := rfl, size := rfl, tmps := fun t v ht => by cases ht }
  cases ex with
  | normal => exact main hK
  | ret => exact main hK
  | exit i => cases hK
end
end Go.Eng

namespace Go.Eng
/-- The functions among a shape's arguments. -/
def fnsT : List (Nat × SA) → List FuncId
  | [] => []
  | (_, .c (.fn f _)) :: l => f :: fnsT l
  | _ :: l => fnsT l
def eqNs : List Nat → List Nat → Bool
  | [], [] => true
  | a :: l, b :: r => bif Nat.beq a b then eqNs l r else false
  | _, _ => false
/-- The table of contracts: by the function, and by the functions that it is given. -/
def sgOf : List (Nat × Sg) → Nat → List FuncId → Option Sg
  | [], _, _ => none
  | p :: l, n, ks => bif Nat.beq n p.1 && eqNs ks (fnsT p.2.ins.t) then some p.2 else sgOf l n ks
def bodyOf (fn : Func) : Code := match fn.body with
  | some c => c
  | none => .skip
/-- The sites that are cuts. -/
def cutSites (ids : List Nat) (body : Code) : List (Nat × List Seg × Code) := (sites [] body).filter fun s => mem s.1 ids
def siteAt (ids : List Nat) (body : Code) (i : Nat) : Nat × List Seg × Code := match (cutSites ids body)[i]? with
  | some s => s
  | none => (0, [], .skip)
structure SiteEq {β : Type} (C : Ctx) (np : Nat) (K : AExit → Env → Option β) (Jf : Nat → Nat → Option (Cut β)) (s : Nat × List Seg × Code) (sh : Shape) (g : Nat → sh.den → Option β) : Prop where
  j : ∀ k, Jf k s.1 = some ⟨sh, g k⟩
  e : ∀ k y, denSite C np (Jf k) K s.2.1 s.2.2 (sh.enc y) = g (k + 1) y
  z : ∀ y, g 0 y = none

theorem sgOf_all {P : Program} {gl : Nat → Option (List Cell)} : ∀ {l : List (Nat × Sg)}, (∀ p ∈ l, SoundC P gl p.1 p.2) → ∀ f ks g, sgOf l f ks = some g → SoundC P gl f g
  | [], _, f, ks, g, hf => by cases hf
  | p :: l, h, f, ks, g, hf => by
    simp only [sgOf] at hf
    cases hb : (Nat.beq f p.1 && eqNs ks (fnsT p.2.ins.t)) with
    | true =>
      rw [hb] at hf
      simp only [cond_true, Option.some.injEq] at hf
      rw [Bool.and_eq_true] at hb
      have := beq_iff.1 hb.1
      subst this hf
      exact h p (by simp)
    | false =>
      rw [hb] at hf
      exact sgOf_all (fun q hq => h q (by simp [hq])) f ks g hf

/-- The same, part by part. -/
def AllSg (P : Program) (gl : Nat → Option (List Cell)) : List (Nat × Sg) → Prop
  | [] => True
  | p :: l => SoundC P gl p.1 p.2 ∧ AllSg P gl l
theorem sgOf_all' {P : Program} {gl : Nat → Option (List Cell)} {l : List (Nat × Sg)} (h : AllSg P gl l) : ∀ f ks g, sgOf l f ks = some g → SoundC P gl f g := by
  refine sgOf_all fun p hp => ?_
  induction l with
  | nil => cases hp
  | cons q l ih =>
    rcases List.mem_cons.1 hp with rfl | hp
    · exact h.1
    · exact ih h.2 hp

/-- What a function with rounds answers, with rounds enough. -/
def Ev {α : Type} (f : Nat → Option α) (r : α) : Prop := ∃ N, ∀ k, N ≤ k → f k = some r
open Classical in
noncomputable def evF {α : Type} (f : Nat → Option α) : Option α := if h : ∃ y, Ev f y then some h.choose else none
theorem Ev.unique {α : Type} {f : Nat → Option α} {r s : α} (h : Ev f r) (k : Ev f s) : r = s := by
  obtain ⟨N, h⟩ := h
  obtain ⟨M, k⟩ := k
  have h1 := h (max N M) (Nat.le_max_left ..)
  rw [k (max N M) (Nat.le_max_right ..)] at h1
  exact (Option.some.inj h1).symm
theorem evF_eq {α : Type} {f : Nat → Option α} {r : α} (h : Ev f r) : evF f = some r := by
  have hx : ∃ y, Ev f y := ⟨r, h⟩
  unfold evF
  rw [dif_pos hx]
  exact congrArg some (hx.choose_spec.unique h)
theorem evF_some {α : Type} {f : Nat → Option α} {r : α} (h : evF f = some r) : ∃ k, f k = some r := by
  unfold evF at h
  split at h
  · rename_i hx
    obtain ⟨N, hN⟩ := hx.choose_spec
    exact ⟨N, (hN N (Nat.le_refl N)).trans h⟩
  · cases h

/-- The cuts, from a list. -/
def jOf {β : Type} : List (Nat × (Nat → Cut β)) → Nat → Nat → Option (Cut β)
  | [], _, _ => none
  | p :: l, k, n => bif Nat.beq n p.1 then some (p.2 k) else jOf l k n
theorem jOf_mem {β : Type} : ∀ {l : List (Nat × (Nat → Cut β))} {k n : Nat} {c : Cut β}, jOf l k n = some c → ∃ p ∈ l, p.1 = n
  | [], k, n, c, h => by cases h
  | p :: l, k, n, c, h => by
    simp only [jOf] at h
    cases hb : Nat.beq n p.1 with
    | true => exact ⟨p, by simp, (beq_iff.1 hb).symm⟩
    | false =>
      rw [hb] at h
      obtain ⟨q, h1, h2⟩ := jOf_mem h
      exact ⟨q, by simp [h1], h2⟩
def allB : Nat → (Nat → Prop) → Prop
  | 0, _ => True
  | n + 1, p => allB n p ∧ p n
theorem allB_get {p : Nat → Prop} : ∀ {n : Nat}, allB n p → ∀ i, i < n → p i
  | 0, _, i, hi => by omega
  | n + 1, h, i, hi => by
    by_cases hin : i = n
    · subst hin; exact h.2
    · exact allB_get h.1 i (by omega)

section
variable {P : Program} {C : Ctx}
/-- **One function**, with cuts. -/
theorem sound_cuts (hC : C.Ok P) (hsg : ∀ f ks g, C.sg f ks = some g → SoundC P C.gl f g) (f : FuncId) (fn : Func) (g : Sg) (up : g.outs.den → g.β) (js : List (Nat × (Nat → Cut g.β))) (n : Nat)
    (hf : P.funcs[f]? = some fn) (hb : fn.body.isSome = true) (hnt : fn.ntmps = C.nt) (hkeys : keysOk 0 g.ins.t = true) (hlen : Nat.ble g.ins.t.length C.nt = true) (hone : g.outs.t.length = 1) (hup : ∀ y, g.dn (up y) = y)
    (hn : Nat.ble (cutSites (js.map (·.1)) (bodyOf fn)).length n = true) (hall : (js.all fun p => (sites [] (bodyOf fn)).any fun s => Nat.beq s.1 p.1) = true)
    (h1 : allB n fun i => ∃ sh gg, SiteEq C g.ins.h.length (retK C g.ins.h.length g.outs up fn.results.toList) (jOf js) (siteAt (js.map (·.1)) (bodyOf fn) i) sh gg)
    (F : Nat → g.ins.den → Option g.β) (hF : ∀ x, g.fn x = evF fun k => F k x)
    (hbody : ∀ k x, den C g.ins.h.length (jOf js k) (bodyOf fn) (g.ins.enc x) (retK C g.ins.h.length g.outs up fn.results.toList) = F k x) : Sound P C.gl f g := by
  have hb' : fn.body = some (bodyOf fn) := by
    unfold bodyOf
    cases h : fn.body with
    | none => rw [h] at hb; cases hb
    | some c => rfl
  have key : ∀ s ∈ sites [] (bodyOf fn), mem s.1 (js.map (·.1)) = true → ∃ sh gg, SiteEq C g.ins.h.length (retK C g.ins.h.length g.outs up fn.results.toList) (jOf js) s sh gg := fun s hs hm => by
    have hin : s ∈ cutSites (js.map (·.1)) (bodyOf fn) := List.mem_filter.2 ⟨hs, hm⟩
    obtain ⟨i, hlt, hi⟩ := List.getElem_of_mem hin
    have := allB_get h1 i (Nat.lt_of_lt_of_le hlt (Nat.le_of_ble_eq_true hn))
    have hat : siteAt (js.map (·.1)) (bodyOf fn) i = s := by unfold siteAt; rw [List.getElem?_eq_getElem hlt, hi]
    rwa [hat] at this
  refine sound_of hC hC.mixed hsg (up := up) hf hb' hnt hkeys hlen hone hup (Jf := jOf js) (fun p cut hc y r hr => ?_) (fun k s hs cut hc y r hr => ?_) (fun x y hxy => ?_)
  · obtain ⟨q, hq, hqp⟩ := jOf_mem hc
    rw [List.all_eq_true] at hall
    have := hall q hq
    rw [List.any_eq_true] at this
    obtain ⟨s, hs, hsp⟩ := this
    have hsp := beq_iff.1 hsp
    have hsp' : s.1 = p := hsp.trans hqp
    subst hsp'
    obtain ⟨sh, gg, q'⟩ := key s hs (mem_iff.2 (List.mem_map.2 ⟨q, hq, hqp⟩))
    have := q'.j 0
    rw [this] at hc
    cases hc
    have := q'.z y
    simp only at hr
    rw [this] at hr
    cases hr
  · obtain ⟨q, hq, hqp⟩ := jOf_mem hc
    obtain ⟨sh, gg, q'⟩ := key s hs (mem_iff.2 (List.mem_map.2 ⟨q, hq, hqp⟩))
    have := q'.j (k + 1)
    rw [this] at hc
    cases hc
    exact (q'.e k y).trans hr
  · rw [hF x] at hxy
    obtain ⟨k, hk⟩ := evF_some hxy
    exact ⟨k, (hbody k x).trans hk⟩
/-- One function, without cuts. -/
theorem sound_plain (hC : C.Ok P) (hsg : ∀ f ks g, C.sg f ks = some g → SoundC P C.gl f g) (f : FuncId) (fn : Func) (g : Sg) (up : g.outs.den → g.β)
    (hf : P.funcs[f]? = some fn) (hb : fn.body.isSome = true) (hnt : fn.ntmps = C.nt) (hkeys : keysOk 0 g.ins.t = true) (hlen : Nat.ble g.ins.t.length C.nt = true) (hone : g.outs.t.length = 1) (hup : ∀ y, g.dn (up y) = y)
    (hbody : ∀ x, den C g.ins.h.length (fun _ => none) (bodyOf fn) (g.ins.enc x) (retK C g.ins.h.length g.outs up fn.results.toList) = g.fn x) : Sound P C.gl f g := by
  have hb' : fn.body = some (bodyOf fn) := by
    unfold bodyOf
    cases h : fn.body with
    | none => rw [h] at hb; cases hb
    | some c => rfl
  exact sound_of hC hC.mixed hsg (up := up) hf hb' hnt hkeys hlen hone hup (Jf := fun _ _ => none) (fun p cut hc => by cases hc) (fun k s hs cut hc => by cases hc) (fun x y hxy => ⟨0, (hbody x).trans hxy⟩)
end
end Go.Eng

namespace Go.Eng
open Go.RowKit
section
variable {P : Program}

/-- At the start nothing is one's own, and nobody writes what there is. -/
def St0 (w : World) : St := ⟨fun _ => none, fun b => b < w.heap.size⟩
theorem Inv.start {gl : Nat → Option (List Cell)} {w : World} (hg : GlOk gl w (St0 w)) : Inv (FdOf gl w (St0 w) 0) 0 (St0 w) ⟨[], []⟩ noAct w :=
  { defers := rfl, size := rfl, tmps := (fun t v ht => by cases ht), objs := (fun n o ho => by cases ho), news := (fun n _ => rfl), wr := (fun n o v b ho => by cases ho), dis := (fun n m o p v u b _ ho => by cases ho),
    imm := fun b hb => ⟨hb, .inl hb⟩, imm0 := fun b hb => hb, own := (fun j hj => absurd hj (Nat.not_lt_zero j)), frame := fun _ _ _ => rfl, os := rfl, tape := rfl, output := rfl, grow := Nat.le_refl _, glob := hg }

/-- What a contract says of a call out of the blue. -/
theorem Sound.law {gl : Nat → Option (List Cell)} {f : FuncId} {g : Sg} (h : Sound P gl f g) {w : World} (hg : GlOk gl w (St0 w)) {vals : Array Value} {x : g.ins.den} {y : g.β} (hins : g.ins.h.length = 0)
    (hr : RepAs w (St0 w) ((encT g.ins.t x.1).map (·.2)) vals.toList) (hy : g.fn x = some y) :
    Calls P f vals w fun e w' => ∃ v, e = .returned v ∧ (∃ p r S', encT g.outs.t (g.dn y).1 = [(p, r)] ∧ RepA w' S' r v) ∧ Below w.heap.size w w' := by
  have hI : Inv (FdOf gl w (St0 w) g.ins.h.length) 0 (St0 w) ⟨[], encH 0 g.ins.h x.2⟩ noAct w := by
    have h0 : encH 0 g.ins.h x.2 = [] := by
      have := encH_length (l := g.ins.h) (j := 0) (x := x.2)
      rw [hins] at this
      exact List.length_eq_zero_iff.1 this
    rw [h0, hins]
    exact Inv.start hg
  refine (h w (St0 w) vals x y hI hr hy).mono ?_
  rintro e w' ⟨v, S', rfl, ⟨p, r, h1, h2⟩, hI'⟩
  refine ⟨v, rfl, ⟨p, r, S', h1, h2⟩, ⟨hI'.os, hI'.tape, hI'.output, hI'.grow, fun b hb => hI'.frame b hb ?_⟩⟩
  rintro ⟨n, v, hn, _⟩
  rw [hins] at hn
  omega

/-- A contract proved elsewhere, of a function that neither takes nor gives what is one's own. -/
theorem sound_ext {gl : Nat → Option (List Cell)} {f : FuncId} {g : Sg} (hins : g.ins.h.length = 0) (hout : g.outs.h.length = 0)
    (h : ∀ (w : World) (S : St) (vals : Array Value) (x : g.ins.den) (y : g.β), GlOk gl w S → RepAs w S ((encT g.ins.t x.1).map (·.2)) vals.toList → g.fn x = some y →
      Calls P f vals w fun e w' => ∃ v, e = .returned v ∧ (∃ p r, encT g.outs.t (g.dn y).1 = [(p, r)] ∧ RepA w' S r v) ∧ Below w.heap.size w w') : Sound P gl f g := by
  intro w S vals x y hI hr hy
  refine (h w S vals x y hI.glob hr hy).mono ?_
  rintro e w' ⟨v, rfl, hv, hb⟩
  refine ⟨v, S, rfl, hv, ?_⟩
  have h0 : encH 0 g.ins.h x.2 = [] := by
    have := encH_length (l := g.ins.h) (j := 0) (x := x.2)
    rw [hins] at this
    exact List.length_eq_zero_iff.1 this
  have h1 : encH 0 g.outs.h (g.dn y).2 = [] := by
    have := encH_length (l := g.outs.h) (j := 0) (x := (g.dn y).2)
    rw [hout] at this
    exact List.length_eq_zero_iff.1 this
  rw [h0] at hI
  rw [h1]
  exact hI.world (fun _ => False) (fun _ hx => hx.elim) (fun b hlt _ => hb.block b hlt) hb.size hb.os hb.tape hb.output

/-- An object's own block is written, new blocks are laid; the world elsewhere is as it was. -/
theorem Inv.rewriteG {Fr : Fd} {nt : Nat} {S : St} {e : Env} {a : Act} {w : World} (h : Inv Fr nt S e a w) {n : Nat} {o o' : Obj} {v : Value} {b : Nat} (hn : e.h.get n = some o) (hm : o.mut = true) (hv : S.val n = some v) (hbv : blk v = some b) {w' : World}
    (hb : ∀ k, k < w.heap.size → k ≠ b → w'.heap[k]? = w.heap[k]?) (hs : w.heap.size ≤ w'.heap.size) (ho : w'.os = w.os) (ht : w'.tape = w.tape) (hout : w'.output = w.output)
    (hr : RepO w' S n o') : Inv Fr nt S ⟨e.t, e.h.set n o'⟩ a w' := by
  have hw := h.wr n o v b hn hm hv hbv
  have hd : ∀ m p u, m ≠ n → e.h.get m = some p → p.mut = true → S.val m = some u → blk u ≠ some b := fun m p u hmn hp hpm hu hc => h.dis m n p o u v b hmn hp hn hpm hm hu hv hc hbv
  have h1 := h.kill hn
  have h2 := h1.world (w' := w') (fun k => k = b) (fun k hk => by
    subst hk
    refine ⟨hw.1, hw.2, fun m p u hp hpm hu => ?_⟩
    rw [AL.get_set] at hp
    split at hp
    · cases hp; cases hpm
    · rename_i hmn; exact hd m p u hmn hp hpm hu) (fun k hlt hk => hb k hlt hk) hs ho ht hout
  have h3 := h2.set (n := n) (o := o') (v := v) (.inr hv) (by rw [St.bind_same hv]; exact hr) (fun k _ hk => by
    rw [hbv] at hk; cases hk
    refine ⟨hw.1, hw.2, fun m p u hmn hp hpm hu => ?_⟩
    rw [AL.get_set, if_neg hmn] at hp
    exact hd m p u hmn hp hpm hu)
  rw [St.bind_same hv] at h3
  refine h3.congr fun m => ?_
  simp only [AL.get_set]
  split <;> rfl
/-- More package variables may be known. -/
theorem Sound.mono {gl gl' : Nat → Option (List Cell)} (h : ∀ g cs, gl g = some cs → gl' g = some cs) {f : FuncId} {g : Sg} (hlive : (g.ins.h.all SO.live) = true) (hs : Sound P gl f g) : Sound P gl' f g := by
  intro w S vals x y hI hr hy
  have hI0 : Inv (FdOf gl w S g.ins.h.length) 0 S ⟨[], encH 0 g.ins.h x.2⟩ noAct w := { hI with glob := fun k cs hk => hI.glob k cs (h k cs hk) }
  refine (hs w S vals x y hI0 hr hy).mono ?_
  rintro e w' ⟨v, S', rfl, hv, hI'⟩
  refine ⟨v, S', rfl, hv, ?_⟩
  have live : ∀ (l : List SO) (i n : Nat) (x : denO l), l.all SO.live = true → i ≤ n → n < i + l.length → ∃ o, AL.get (encH i l x) n = some o ∧ o.mut = true := fun l => by
    induction l with
    | nil => intro i n x _ h1 h2; simp at h2; omega
    | cons so l ih =>
      intro i n x hl h1 h2
      simp only [List.all_cons, Bool.and_eq_true] at hl
      simp only [encH, AL.get]
      cases hb : Nat.beq n i with
      | true => exact ⟨_, rfl, by cases so <;> first | rfl | cases hl.1⟩
      | false =>
        have : n ≠ i := fun hc => by rw [beq_iff.2 hc] at hb; cases hb
        exact ih (i + 1) n x.2 hl.2 (by omega) (by simp only [List.length_cons] at h2; omega)
  have keep : Keeps S.imm w w' := fun b hb => by
    refine hI'.frame b (hI.imm b hb).1 ?_
    rintro ⟨n, u, hn, hu, hbu⟩
    obtain ⟨o, h1, h2⟩ := live g.ins.h 0 n x.2 hlive (Nat.zero_le _) (by omega)
    exact (hI.wr n o u b h1 h2 hu hbu).1 hb
  have him : ∀ b, S.imm b → S'.imm b := fun b hb => hI'.imm0 b hb
  exact { hI' with glob := hI.glob.keep (S := ⟨fun _ => none, S.imm⟩) (S' := ⟨fun _ => none, S'.imm⟩) ⟨(fun _ _ h => nomatch h), him⟩ keep }
end
end Go.Eng

namespace Go.Eng
open Go.ChangeShapes Go.WideShapes Go.Deep Go.RowKit

def flatK : Kind → Bool
  | .pair _ _ => false
  | _ => true
@[reducible] def denKs : List Kind → Type
  | [] => Unit
  | k :: ks => k.den × denKs ks
def wfK : (k : Kind) → k.den → Prop
  | .int k, n => (Lit.int k n).wf = true
  | .bool, _ => True
  | .str, s => s.size ≤ maxLen
  | .flt, n => canonF n = n ∧ n < 2 ^ 64
  | .sl k, xs => xs.length ≤ maxLen ∧ ∀ x ∈ xs, wfK k x
  | .pair a b, x => wfK a x.1 ∧ wfK b x.2
def wfKs : (ks : List Kind) → denKs ks → Prop
  | [], _ => True
  | k :: ks, x => wfK k x.1 ∧ wfKs ks x.2
def RepKs (w : World) (imm : Nat → Prop) : (ks : List Kind) → denKs ks → List Value → Prop
  | [], _, [] => True
  | k :: ks, x, c :: cs => RepK w imm k x.1 (fun _ => some c) ∧ RepKs w imm ks x.2 cs
  | _, _, _ => False
def convK : (k : Kind) → (ks : List Kind) → denKs (k :: ks) → (kindsOf.join k ks).den
  | _, [], x => x.1
  | _, l :: ks, x => (x.1, convK l ks x.2)

theorem RepKs.length {w : World} {imm : Nat → Prop} : ∀ {ks : List Kind} {x : denKs ks} {cs : List Value}, RepKs w imm ks x cs → cs.length = ks.length
  | [], _, [], _ => rfl
  | [], _, _ :: _, h => h.elim
  | _ :: _, _, [], h => h.elim
  | k :: ks, x, c :: cs, h => by simp [RepKs.length h.2]
theorem RepKs.append {w : World} {imm : Nat → Prop} : ∀ {ks ls : List Kind} {x : denKs ks} {y : denKs ls} {cs ds : List Value}, RepKs w imm ks x cs → RepKs w imm ls y ds → wfKs ks x → wfKs ls y → ∃ z : denKs (ks ++ ls), RepKs w imm (ks ++ ls) z (cs ++ ds) ∧ wfKs (ks ++ ls) z
  | [], ls, _, y, [], ds, _, h2, _, w2 => ⟨y, h2, w2⟩
  | [], _, _, _, _ :: _, _, h, _, _, _ => h.elim
  | _ :: _, _, _, _, [], _, h, _, _, _ => h.elim
  | k :: ks, ls, x, y, c :: cs, ds, h, h2, w1, w2 => by
    obtain ⟨z, h3, w3⟩ := RepKs.append h.2 h2 w1.2 w2
    exact ⟨(x.1, z), ⟨h.1, h3⟩, w1.1, w3⟩
theorem repK_flat {w : World} {imm : Nat → Prop} {k : Kind} (hk : flatK k = true) {x : k.den} {f g : Nat → Option Value} (hfg : f 0 = g 0) (h : RepK w imm k x f) : RepK w imm k x g := by
  cases k with
  | pair a b => cases hk
  | int k => exact hfg.symm.trans h
  | bool => exact hfg.symm.trans h
  | str => exact hfg.symm.trans h
  | flt => obtain ⟨b, h1, h2⟩ := h; exact ⟨b, hfg.symm.trans h1, h2⟩
  | sl k => obtain ⟨a, len, cap, h1, h2⟩ := h; exact ⟨a, len, cap, hfg.symm.trans h1, h2⟩
theorem flatK_sz {k : Kind} (h : flatK k = true) : k.sz = 1 := by cases k <;> first | rfl | cases h
theorem join_sz : ∀ {ks : List Kind} {k : Kind}, (∀ l ∈ k :: ks, flatK l = true) → (kindsOf.join k ks).sz = ks.length + 1
  | [], k, h => flatK_sz (h k (by simp))
  | l :: ks, k, h => by
    show k.sz + (kindsOf.join l ks).sz = _
    rw [flatK_sz (h k (by simp)), join_sz fun m hm => h m (by simp only [List.mem_cons] at hm ⊢; exact .inr hm)]
    simp; omega
theorem join_rep {w : World} {imm : Nat → Prop} : ∀ {ks : List Kind} {k : Kind} {x : denKs (k :: ks)} {cs : List Value} {f : Nat → Option Value}, (∀ l ∈ k :: ks, flatK l = true) → RepKs w imm (k :: ks) x cs → (∀ j, j < cs.length → f j = cs[j]?) → RepK w imm (kindsOf.join k ks) (convK k ks x) f
  | [], k, x, [c], f, h, hr, hf => repK_flat (h k (by simp)) (by rw [hf 0 (by simp)]; rfl) hr.1
  | [], k, x, c :: _ :: _, f, h, hr, hf => hr.2.elim
  | _, _, _, [], _, _, hr, _ => hr.elim
  | l :: ks, k, x, c :: cs, f, h, hr, hf => by
    refine ⟨repK_flat (h k (by simp)) (by rw [hf 0 (by simp)]; rfl) hr.1, ?_⟩
    refine join_rep (fun m hm => h m (by simp only [List.mem_cons] at hm ⊢; exact .inr hm)) hr.2 fun j hj => ?_
    rw [flatK_sz (h k (by simp)), hf (1 + j) (by simp; omega), Nat.add_comm 1 j]
    rfl
theorem join_wf : ∀ {ks : List Kind} {k : Kind} {x : denKs (k :: ks)}, wfKs (k :: ks) x → wfK (kindsOf.join k ks) (convK k ks x)
  | [], _, _, h => h.1
  | l :: ks, _, _, h => ⟨h.1, join_wf h.2⟩

/-- How many cells, by the kinds. -/
def kn (P : Program) (d : Nat) (t : TypeId) : Nat := match kindsOf P d t with
  | some l => l.length
  | none => 0
def lineFs (P : Program) (d : Nat) (ok : TypeId → Bool) : List Field → Nat → Bool
  | [], _ => true
  | f :: fs, o => Nat.beq f.offset o && ok f.type && Nat.beq (P.cellsOf f.type) (kn P d f.type) && lineFs P d ok fs (o + kn P d f.type)
/-- The parts of a type lie in line. -/
def lineOk (P : Program) : Nat → TypeId → Bool
  | 0, _ => false
  | d + 1, t => match P.underlying t with
    | some (.slice e) => lineOk P d e && Nat.beq (P.cellsOf e) (kn P d e)
    | some (.struct fs) => lineFs P d (lineOk P d) fs.toList 0 && Nat.beq (P.cellsOf t) (kn P (d + 1) t)
    | some (.array _ e) => lineOk P d e && Nat.beq (P.cellsOf e) (kn P d e) && Nat.beq (P.cellsOf t) (kn P (d + 1) t)
    | _ => true

theorem kinds_flat {P : Program} : ∀ {d : Nat} {t : TypeId} {ks : List Kind}, kindsOf P d t = some ks → ∀ k ∈ ks, flatK k = true
  | 0, _, _, h => by cases h
  | d + 1, t, ks, h => by
    simp only [kindsOf] at h
    split at h
    · cases h; simp [flatK]
    · cases h; simp [flatK]
    · cases h; simp [flatK]
    · cases h; simp [flatK]
    · split at h
      · cases h; simp [flatK]
      · cases h
    · rename_i fs _
      have key : ∀ (l : List Field) (ks : List Kind), l.foldr (fun f r => match kindsOf P d f.type, r with
          | some a, some b => some (a ++ b)
          | _, _ => none) (some []) = some ks → ∀ k ∈ ks, flatK k = true := by
        intro l
        induction l with
        | nil => intro ks h; simp only [List.foldr_nil, Option.some.injEq] at h; subst h; simp
        | cons f l ih =>
          intro ks h
          simp only [List.foldr_cons] at h
          split at h
          · rename_i a b ha hb
            simp only [Option.some.injEq] at h
            subst h
            intro k hk
            rcases List.mem_append.1 hk with hk | hk
            · exact kinds_flat ha k hk
            · exact ih b hb k hk
          · cases h
      exact key _ _ h
    · split at h
      · rename_i a ha
        simp only [Option.some.injEq] at h
        subst h
        intro k hk
        simp only [List.mem_flatten] at hk
        obtain ⟨l, hl, hk⟩ := hk
        rw [List.eq_of_mem_replicate hl] at hk
        exact kinds_flat ha k hk
      · cases h
    · cases h
end Go.Eng
namespace Go.Eng
open Go.ChangeShapes Go.WideShapes Go.Deep Go.RowKit
section
variable {H : Type} {enc : TypeId × Value → H} {P : Program} {w : World} {base : Nat} {spare : Nat → Bool} {held : Bool}

theorem trod_flt {fuel : Nat} {t : TypeId} {cs : List Value} {x : DataW H × List MemPlace} (ht : P.underlying t = some (.float .f64)) (h : DataW.trod enc P w base spare held fuel t cs = some x) : ∃ b, cs = [.float .f64 b] ∧ b < 2 ^ 64 := by
  cases fuel with
  | zero => simp [DataW.trod] at h
  | succ n =>
    unfold DataW.trod at h
    rw [ht] at h
    split at h <;> simp_all
    rename_i k k' b hk
    obtain ⟨⟨_, h2⟩, _⟩ := h
    subst hk
    simpa [Lit.wf] using h2
theorem canonF_lt {b : Nat} (h : b < 2 ^ 64) : canonF b < 2 ^ 64 := by
  rcases canon_cases b with ⟨_, h2⟩ | ⟨_, h2⟩ <;> rw [h2] <;> omega
theorem cell_lt {a : Addr} {v : Value} (h : w.cell? a = some v) : a.block < w.heap.size ∧ a.spot = none := by
  unfold World.cell? at h
  cases hb : w.heap[a.block]? with
  | none => rw [hb] at h; cases h
  | some o =>
    rw [hb] at h
    refine ⟨(Array.getElem?_eq_some_iff.1 hb).1, ?_⟩
    cases o with
    | cells c t f =>
      simp only at h
      cases hs : a.spot with
      | none => rfl
      | some n => rw [hs] at h; simp at h
    | _ => cases h

theorem choose_n {α : Type} (p : Nat → α → Prop) (n : Nat) (h : ∀ i, i < n → ∃ a, p i a) : ∃ l : List α, l.length = n ∧ ∀ i a, l[i]? = some a → p i a := by
  induction n with
  | zero => exact ⟨[], rfl, fun i a h => by simp at h⟩
  | succ n ih =>
    obtain ⟨l, hl, hp⟩ := ih (fun i hi => h i (by omega))
    obtain ⟨a, ha⟩ := h n (by omega)
    refine ⟨l ++ [a], by simp [hl], fun i b hb => ?_⟩
    by_cases hi : i < n
    · exact hp i b (by rw [List.getElem?_append_left (by omega)] at hb; exact hb)
    · have hlt : i < (l ++ [a]).length := (List.getElem?_eq_some_iff.1 hb).1
      obtain rfl : i = n := by simp [hl] at hlt; omega
      rw [← hl, List.getElem?_concat_length] at hb
      cases hb
      exact ha

/-- **Whatever reads at a type, is a value of its kinds.** -/
theorem open_kinds : ∀ {d : Nat} {t : TypeId} {ks : List Kind}, kindsOf P d t = some ks → lineOk P d t = true → ∀ {fuel : Nat} {cs : List Value} {x : DataW H × List MemPlace}, DataW.trod enc P w base spare held fuel t cs = some x →
    ∃ z : denKs ks, RepKs w (fun b => b < w.heap.size) ks z cs ∧ wfKs ks z
  | 0, _, _, h, _, _, _, _, _ => by cases h
  | d + 1, t, ks, h, hl, fuel, cs, x, hx => by
    simp only [kindsOf] at h
    cases hu : P.underlying t with
    | none => rw [hu] at h; cases h
    | some ty =>
      cases ty with
      | bool =>
        rw [hu] at h; cases h
        obtain ⟨b, rfl, _⟩ := DataW.trod_bool hu hx
        exact ⟨(b, ()), ⟨rfl, trivial⟩, trivial, trivial⟩
      | int k =>
        rw [hu] at h; cases h
        obtain ⟨n, rfl, _, hw⟩ := DataW.trod_int hu hx
        exact ⟨(n, ()), ⟨rfl, trivial⟩, hw, trivial⟩
      | string =>
        rw [hu] at h; cases h
        obtain ⟨s, rfl, _, hs⟩ := DataW.trod_string hu hx
        exact ⟨(s, ()), ⟨rfl, trivial⟩, hs, trivial⟩
      | slice e =>
        rw [hu] at h
        simp only at h
        cases hk : kindsOf P d e with
        | none => rw [hk] at h; cases h
        | some l =>
          rw [hk] at h
          cases l with
          | nil => cases h
          | cons k0 k1 =>
            simp only [Option.some.injEq] at h
            subst h
            simp only [lineOk, hu, Bool.and_eq_true, kn, hk] at hl
            have hce : P.cellsOf e = k1.length + 1 := beq_iff.1 hl.2
            have hfl := kinds_flat hk
            rcases open_slice hu hx with ⟨rfl, _⟩ | ⟨a, len, cap, m, n, D, Pl, rfl, _, hlc, hm, hmm, _, hi⟩
            · exact ⟨([], ()), ⟨⟨none, 0, 0, rfl, rfl, Nat.le_refl _, fun _ => rfl, .inl rfl⟩, trivial⟩, ⟨by simp, fun x hx => by cases hx⟩, trivial⟩
            · have hlm : len ≤ m := by rw [hmm]; split <;> omega
              obtain ⟨xs, hxl, hp⟩ := choose_n (fun i (z : denKs (k0 :: k1)) => ∃ c, w.cells? base (a.add (i * P.cellsOf e)) (P.cellsOf e) = some c ∧ RepKs w (fun b => b < w.heap.size) (k0 :: k1) z c ∧ wfKs (k0 :: k1) z) len (fun i hi' => by
                obtain ⟨c, h1, h2⟩ := hi i (by omega)
                obtain ⟨z, h3, h4⟩ := open_kinds hk hl.1 h2
                exact ⟨z, c, h1, h3, h4⟩)
              refine ⟨(xs.map (convK k0 k1), ()), ⟨⟨some a, len, cap, rfl, by simp [hxl], by omega, (fun hc => by cases hc), ?_⟩, trivial⟩, ⟨by simp [hxl]; omega, fun y hy => ?_⟩, trivial⟩
              · cases hxs : xs with
                | nil => left; rfl
                | cons z0 zs =>
                  right
                  have h0 : xs[0]? = some z0 := by rw [hxs]; rfl
                  obtain ⟨c0, g1, g2, _⟩ := hp 0 z0 h0
                  obtain ⟨_, g3, g4⟩ := World.cells?_some g1
                  have hlen0 := g2.length
                  have hc0 := g4 0 (by omega)
                  have ha0 : (a.add (0 * P.cellsOf e)).add 0 = a := by simp [Addr.add]
                  rw [ha0] at hc0
                  cases hcc : c0[0]? with
                  | none => rw [List.getElem?_eq_none_iff] at hcc; simp at hlen0; omega
                  | some v0 =>
                    rw [hcc] at hc0
                    obtain ⟨hlt, hsp⟩ := cell_lt hc0
                    refine ⟨a.block, a.off, by cases a; simp at hsp; simp [hsp], hlt, fun i y hy => ?_⟩
                    rw [← hxs, List.getElem?_map] at hy
                    cases hz : xs[i]? with
                    | none => rw [hz] at hy; cases hy
                    | some z =>
                      rw [hz] at hy
                      obtain rfl : convK k0 k1 z = y := Option.some.inj hy
                      obtain ⟨c, q1, q2, _⟩ := hp i z hz
                      obtain ⟨_, q3, q4⟩ := World.cells?_some q1
                      refine join_rep hfl q2 fun j hj => ?_
                      have := q4 j (by omega)
                      rw [Go.Deep.add_add] at this
                      rw [← this, join_sz hfl, hce]
                      congr 1
                      cases a with
                      | mk b o s =>
                        simp at hsp
                        subst hsp
                        simp only [Addr.add]
                        split
                        · rename_i h0'; first | (simp; done) | (simp; omega)
                        · first | (simp; done) | (simp; omega)
              · obtain ⟨z, hz, rfl⟩ := List.mem_map.1 hy
                obtain ⟨i, hi'⟩ := List.getElem?_of_mem hz
                obtain ⟨_, _, _, h4⟩ := hp i z hi'
                exact join_wf h4
      | struct fs =>
        rw [hu] at h
        simp only at h
        simp only [lineOk, hu, Bool.and_eq_true] at hl
        obtain ⟨xs, n, _, _, hlen, hxl, hf⟩ := DataW.trod_struct hu hx
        have key : ∀ (l : List Field) (o : Nat) (ks : List Kind), lineFs P d (lineOk P d) l o = true → (l.foldr (fun f r => match kindsOf P d f.type, r with
            | some a, some b => some (a ++ b)
            | _, _ => none) (some [])) = some ks → (∀ f ∈ l, ∃ y, DataW.trod enc P w base spare held n f.type ((cs.drop f.offset).take (P.cellsOf f.type)) = some y) → o + ks.length ≤ cs.length →
            ∃ z : denKs ks, RepKs w (fun b => b < w.heap.size) ks z ((cs.drop o).take ks.length) ∧ wfKs ks z := by
          intro l
          induction l with
          | nil =>
            intro o ks _ h _ _
            simp only [List.foldr_nil, Option.some.injEq] at h
            subst h
            exact ⟨(), by simp [RepKs], trivial⟩
          | cons f l ih =>
            intro o ks hline h hy hle
            simp only [List.foldr_cons] at h
            split at h
            · rename_i ka kb ha hb
              simp only [Option.some.injEq] at h
              subst h
              simp only [lineFs, Bool.and_eq_true, kn, ha] at hline
              obtain ⟨⟨⟨l1, l2⟩, l3⟩, l4⟩ := hline
              have l1 := beq_iff.1 l1
              have l3 := beq_iff.1 l3
              simp only [List.length_append] at hle
              obtain ⟨y, hy0⟩ := hy f (by simp)
              obtain ⟨z1, r1, w1⟩ := open_kinds ha l2 hy0
              obtain ⟨z2, r2, w2⟩ := ih (o + ka.length) kb l4 hb (fun g hg => hy g (by simp [hg])) (by omega)
              rw [l1, l3] at r1
              obtain ⟨z, r, wz⟩ := r1.append r2 w1 w2
              refine ⟨z, ?_, wz⟩
              rw [List.length_append, List.take_add, List.drop_drop]
              exact r
            · cases h
        have hkn : ks.length = P.cellsOf t := by
          have := beq_iff.1 hl.2
          rw [this]
          simp only [kn, kindsOf, hu, h]
        obtain ⟨z, r, wz⟩ := key fs.toList 0 ks hl.1 h (fun f hm => by
          obtain ⟨i, hi⟩ := List.getElem?_of_mem hm
          have hi' : fs[i]? = some f := by simpa using hi
          have hlt : i < xs.length := by rw [hxl]; exact (Array.getElem?_eq_some_iff.1 hi').1
          exact ⟨xs[i], (hf i f hi').trans (List.getElem?_eq_getElem hlt)⟩) (by omega)
        refine ⟨z, ?_, wz⟩
        rw [List.drop_zero, List.take_of_length_le (by omega)] at r
        exact r
      | array n e =>
        rw [hu] at h
        simp only at h
        cases hk : kindsOf P d e with
        | none => rw [hk] at h; cases h
        | some a =>
          rw [hk] at h
          simp only [Option.some.injEq] at h
          simp only [lineOk, hu, Bool.and_eq_true, kn, hk] at hl
          have hce : P.cellsOf e = a.length := beq_iff.1 hl.1.2
          have hct : P.cellsOf t = ks.length := by
            have := beq_iff.1 hl.2
            rw [this]; simp only [kindsOf, hu, hk, h]
          obtain ⟨xs, m, _, _, hlen, hxl, hel⟩ := DataW.trod_array hu hx
          have key : ∀ (i : Nat) (l : List (List Value)), l.length = i → (∀ c ∈ l, ∃ z : denKs a, RepKs w (fun b => b < w.heap.size) a z c ∧ wfKs a z) → ∃ z : denKs (List.replicate i a).flatten, RepKs w (fun b => b < w.heap.size) (List.replicate i a).flatten z l.flatten ∧ wfKs (List.replicate i a).flatten z := by
            intro i
            induction i with
            | zero => intro l hl _; cases l with
              | nil => exact ⟨(), trivial, trivial⟩
              | cons _ _ => cases hl
            | succ i ih =>
              intro l hl hc
              cases l with
              | nil => cases hl
              | cons c l =>
                obtain ⟨z1, r1, w1⟩ := hc c (by simp)
                obtain ⟨z2, r2, w2⟩ := ih l (by simpa using hl) (fun c' hc' => hc c' (by simp [hc']))
                simp only [List.replicate_succ, List.flatten_cons]
                exact r1.append r2 w1 w2
          subst h
          have hcl : cs.length = n * a.length := by rw [hlen, hct]; simp [List.length_flatten]
          have hsplit : ∀ (i : Nat) (cs : List Value), cs.length = i * a.length → cs = ((List.range i).map fun j => (cs.drop (j * a.length)).take a.length).flatten := by
            intro i
            induction i with
            | zero => intro cs h; simp at h; subst h; rfl
            | succ i ih =>
              intro cs h
              have h1 := ih (cs.drop a.length) (by rw [List.length_drop, h, Nat.add_mul, Nat.one_mul]; omega)
              rw [List.range_succ_eq_map]
              simp only [List.map_cons, List.map_map, List.flatten_cons, Nat.zero_mul, List.drop_zero]
              conv => lhs; rw [← List.take_append_drop a.length cs, h1]
              congr 2
              apply List.map_congr_left
              intro j _
              simp only [Function.comp, List.drop_drop]
              congr 2
              rw [Nat.succ_mul]; omega
          rw [hsplit n cs hcl]
          refine key n _ (by simp) fun c hc => ?_
          obtain ⟨j, hj, rfl⟩ := List.mem_map.1 hc
          have hj' : j < n := by simpa using hj
          have h3 := hel j hj'
          rw [hce] at h3
          exact open_kinds hk hl.1.1 (h3.trans (List.getElem?_eq_getElem (by omega)))
      | float k =>
        cases k with
        | f32 => rw [hu] at h; cases h
        | f64 =>
          rw [hu] at h; cases h
          obtain ⟨b, rfl, hb⟩ := trod_flt hu hx
          exact ⟨(canonF b, ()), ⟨⟨b, rfl, rfl⟩, trivial⟩, ⟨canonF_idem b, canonF_lt hb⟩, trivial⟩
      | _ => rw [hu] at h; cases h
end
end Go.Eng

namespace Go.Eng
open Go.ChangeShapes Go.WideShapes Go.Deep Go.RowKit
/-- The shape of a parameter of these kinds, by value. -/
def scOf : Kind → SC
  | .int k => .int k
  | .bool => .bool
  | .str => .str
  | .flt => .flt
  | .sl k => .sl k
  | .pair _ _ => .nil
theorem scOf_den {k : Kind} (h : flatK k = true) : (scOf k).den = k.den := by cases k <;> first | rfl | cases h
def encKs : (ks : List Kind) → denKs ks → List Cell
  | [], _ => []
  | .int k :: ks, x => .int k x.1 :: encKs ks x.2
  | .bool :: ks, x => .bool x.1 :: encKs ks x.2
  | .str :: ks, x => .str x.1 :: encKs ks x.2
  | .flt :: ks, x => .flt x.1 :: encKs ks x.2
  | .sl k :: ks, x => .sl k x.1 :: encKs ks x.2
  | .pair a b :: ks, x => .nil :: encKs ks x.2
theorem encKs_rep {w : World} {S : St} : ∀ {ks : List Kind} {x : denKs ks} {cs : List Value}, (∀ k ∈ ks, flatK k = true) → RepKs w S.imm ks x cs → RepL w S (encKs ks x) cs
  | [], _, [], _, _ => trivial
  | [], _, _ :: _, _, h => h.elim
  | _ :: _, _, [], _, h => h.elim
  | .int k :: ks, x, c :: cs, hf, h => ⟨Option.some.inj h.1, encKs_rep (fun l hl => hf l (by simp [hl])) h.2⟩
  | .bool :: ks, x, c :: cs, hf, h => ⟨Option.some.inj h.1, encKs_rep (fun l hl => hf l (by simp [hl])) h.2⟩
  | .str :: ks, x, c :: cs, hf, h => ⟨Option.some.inj h.1, encKs_rep (fun l hl => hf l (by simp [hl])) h.2⟩
  | .flt :: ks, x, c :: cs, hf, h => ⟨by obtain ⟨b, h1, h2⟩ := h.1; exact ⟨b, Option.some.inj h1, h2⟩, encKs_rep (fun l hl => hf l (by simp [hl])) h.2⟩
  | .sl k :: ks, x, c :: cs, hf, h => ⟨h.1, encKs_rep (fun l hl => hf l (by simp [hl])) h.2⟩
  | .pair a b :: ks, x, c :: cs, hf, h => by have := hf (.pair a b) (by simp); cases this
end Go.Eng

namespace Go.Eng
open Go.ChangeShapes Go.WideShapes Go.Deep Go.RowKit
section
variable {P : Program} {W : World}
def GlOne (w : World) (S : St) (g : Nat) (cs : List Cell) : Prop :=
  S.imm g ∧ ∃ vs, RepL w ⟨fun _ => none, S.imm⟩ cs vs ∧ (∀ u ∈ vs, u.oneCell' = true) ∧ (∀ (j : Nat) u, vs[j]? = some u → w.cell? ⟨g, j, none⟩ = some u) ∧ ∃ t c, w.heap[g]? = some (.cells vs.toArray t c)
def glOf : List (Nat × List Cell) → Nat → Option (List Cell)
  | [], _ => none
  | p :: l, n => bif Nat.beq n p.1 then some p.2 else glOf l n
theorem glOf_ok {S : St} : ∀ {l : List (Nat × List Cell)}, (∀ p ∈ l, GlOne W S p.1 p.2) → GlOk (glOf l) W S
  | [], _, g, cs, h => by cases h
  | p :: l, hl, g, cs, h => by
    simp only [glOf] at h
    cases hb : Nat.beq g p.1 with
    | true =>
      rw [hb] at h
      simp only [cond_true, Option.some.injEq] at h
      have := beq_iff.1 hb
      subst this h
      exact hl p (by simp)
    | false =>
      rw [hb] at h
      exact glOf_ok (fun q hq => hl q (by simp [hq])) g cs h
theorem glOf_mono {gl' : Nat → Option (List Cell)} : ∀ {l : List (Nat × List Cell)}, (∀ p ∈ l, gl' p.1 = some p.2) → ∀ g cs, glOf l g = some cs → gl' g = some cs
  | [], _, g, cs, h => by cases h
  | p :: l, hl, g, cs, h => by
    simp only [glOf] at h
    cases hb : Nat.beq g p.1 with
    | true =>
      rw [hb] at h
      simp only [cond_true, Option.some.injEq] at h
      have := beq_iff.1 hb
      subst this h
      exact hl p (by simp)
    | false =>
      rw [hb] at h
      exact glOf_mono (fun q hq => hl q (by simp [hq])) g cs h
theorem glOne_of {name : String} {g : Nat} {cs : List Cell} {vs : List Value} (hg : P.globalNamed name = some g) (hv : W.var? P name = some vs.toArray)
    (hr : RepL W ⟨fun _ => none, (St0 W).imm⟩ cs vs) (h1 : ∀ u ∈ vs, u.oneCell' = true) : GlOne W (St0 W) g cs := by
  have hh : ∃ t c, W.heap[g]? = some (.cells vs.toArray t c) := by
    have h' := hv
    simp only [World.var?, hg, Option.bind_some] at h'
    cases hw : W.heap[g]? with
    | none => rw [hw] at h'; cases h'
    | some o =>
      rw [hw] at h'
      cases o with
      | cells cs t c => simp only [Option.some.injEq] at h'; subst h'; exact ⟨t, c, rfl⟩
      | _ => cases h'
  refine ⟨?_, vs, hr, h1, fun j u hj => by rw [World.var?_cell hg hv j]; simpa using hj, hh⟩
  obtain ⟨t, c, h⟩ := hh
  exact (Array.getElem?_eq_some_iff.1 h).1
/-- A string as a row writes it. -/
def litS {H : Type} (s : ByteArray) : DataW H := .lit (.string s.data.toList)
theorem trod_litS {H : Type} {enc : TypeId × Value → H} {w : World} {base : Nat} {sp : Nat → Bool} {held : Bool} {fuel : Nat} {t : TypeId} {cs : List Value} {s : ByteArray} {p : List MemPlace} (ht : P.underlying t = some .string)
    (h : DataW.trod enc P w base sp held fuel t cs = some (litS s, p)) : cs = [.string s] := by
  obtain ⟨s', rfl, hx, _⟩ := DataW.trod_string ht h
  simp only [litS, Prod.mk.injEq, DataW.lit.injEq, Lit.string.injEq] at hx
  have h2 := hx.1
  have : s' = s := by
    cases s'; cases s
    congr 1
    first | exact (Array.ext' h2.symm) | (apply Array.ext'; simpa [ByteArray.toList] using h2.symm)
  rw [this]
/-- A variable that is a list of strings. -/
theorem glOne_strs {name : String} {rest : List (String × DataW Unit)} {g : Nat} {t e : TypeId} (l : List ByteArray)
    (hg : P.globalNamed name = some g) (hty : (P.globals[g]?).map (·.type) = some t) (ht : P.underlying t = some (.slice e)) (he : P.underlying e = some .string) (hce : P.cellsOf e = 1)
    (h : laidMet P ((name, .slice (l.map litS) []) :: rest) W) : GlOne W (St0 W) g [.sl .str l] := by
  obtain ⟨ps, ⟨g', t', cs, fuel, p, q, hg', ht', hvar, hd, _, _⟩, _⟩ := h
  obtain rfl := Option.some.inj (hg.symm.trans hg')
  obtain rfl := Option.some.inj (hty.symm.trans ht')
  obtain ⟨a, cap, hcs, hcap, hel⟩ := Go.open_row ht hce hd
  rw [List.length_map] at hcs hcap
  have hc : cs = [Value.slice (some a) l.length cap].toArray := by cases cs; simp_all
  subst hc
  refine glOne_of hg hvar ⟨⟨some a, l.length, cap, rfl, rfl, hcap, (fun h => by cases h), ?_⟩, trivial⟩ (fun u hu => by simp at hu; subst hu; rfl)
  have hcell : ∀ i x, l[i]? = some x → W.cell? (a.add i) = some (.string x) := fun i x hx => by
    obtain ⟨v, n, q', hv, htr⟩ := hel i (litS x) (by rw [List.getElem?_map, hx]; rfl)
    have := trod_litS he htr
    simp only [List.cons.injEq, and_true] at this
    rw [← this]; exact hv
  cases hl : l with
  | nil => exact .inl rfl
  | cons x0 xs =>
    right
    have h0 := hcell 0 x0 (by rw [hl]; rfl)
    have ha0 : a.add 0 = a := by simp [Addr.add]
    rw [ha0] at h0
    obtain ⟨hlt, hsp⟩ := cell_lt h0
    refine ⟨a.block, a.off, by cases a; simp at hsp; simp [hsp], hlt, fun i y hy => ?_⟩
    have := hcell i y (by rw [hl]; exact hy)
    show W.cell? ⟨a.block, a.off + i * 1 + 0, none⟩ = some (.string y)
    rw [← this]
    congr 1
    cases a with
    | mk b o s =>
      simp at hsp
      subst hsp
      simp only [Addr.add]
      split
      · rename_i h0'; first | (simp; done) | (simp; omega)
      · simp
theorem cells_flat {α : Type} {cs : List Value} {l : List α} {f : α → Value} (hl : cs.length = l.length) (h : ∀ i x, l[i]? = some x → (cs.drop (i * 1)).take 1 = [f x]) : cs = l.map f := by
  apply List.ext_getElem?
  intro i
  rw [List.getElem?_map]
  cases hx : l[i]? with
  | none => rw [List.getElem?_eq_none_iff] at hx; rw [List.getElem?_eq_none (by omega)]; rfl
  | some x =>
    have h1 := h i x hx
    rw [Nat.mul_one] at h1
    have : (List.take 1 (List.drop i cs))[0]? = some (f x) := by rw [h1]; rfl
    rw [List.getElem?_take, if_pos (by omega), List.getElem?_drop, Nat.add_zero] at this
    rw [this]; rfl
/-- A variable that is an array of strings. -/
theorem glOne_arrS {name : String} {rest : List (String × DataW Unit)} {g : Nat} {t e : TypeId} (l : List ByteArray)
    (hg : P.globalNamed name = some g) (hty : (P.globals[g]?).map (·.type) = some t) (ht : P.underlying t = some (.array l.length e)) (he : P.underlying e = some .string) (hce : P.cellsOf e = 1) (hct : P.cellsOf t = l.length)
    (h : laidMet P ((name, .agg (l.map litS)) :: rest) W) : GlOne W (St0 W) g (l.map Cell.str) := by
  obtain ⟨ps, ⟨g', t', cs, fuel, p, q, hg', ht', hvar, hd, _, _⟩, _⟩ := h
  obtain rfl := Option.some.inj (hg.symm.trans hg')
  obtain rfl := Option.some.inj (hty.symm.trans ht')
  obtain ⟨xs, m, _, hx, hlen, hxl, hel⟩ := DataW.trod_array ht hd
  simp only [Prod.mk.injEq, DataW.agg.injEq] at hx
  have hcs : cs.toList = l.map Value.string := cells_flat (by rw [hlen, hct]) fun i x hx' => by
    have hi : i < l.length := (List.getElem?_eq_some_iff.1 hx').1
    have h1 := hel i hi
    rw [hce] at h1
    have h2 : (xs.map (·.1))[i]? = some (litS x) := by rw [← hx.1, List.getElem?_map, hx']; rfl
    rw [List.getElem?_map] at h2
    cases hxi : xs[i]? with
    | none => rw [hxi] at h2; cases h2
    | some z =>
      obtain ⟨z1, z2⟩ := z
      rw [hxi] at h1 h2
      simp only [Option.map_some, Option.some.injEq] at h2
      subst h2
      exact trod_litS he h1
  have hr : ∀ l : List ByteArray, RepL W ⟨fun _ => none, (St0 W).imm⟩ (l.map Cell.str) (l.map Value.string) := fun l => by
    induction l with
    | nil => trivial
    | cons x l ih => exact ⟨rfl, ih⟩
  refine glOne_of (vs := l.map Value.string) hg (by rw [hvar, ← hcs]) (hr l) (fun u hu => by obtain ⟨s, _, rfl⟩ := List.mem_map.1 hu; rfl)
/-- A variable that is an array of numbers. -/
theorem glOne_arrI {name : String} {rest : List (String × DataW Unit)} {g : Nat} {t e : TypeId} (k : IntKind) (l : List Int)
    (hg : P.globalNamed name = some g) (hty : (P.globals[g]?).map (·.type) = some t) (ht : P.underlying t = some (.array l.length e)) (he : P.underlying e = some (.int k)) (hce : P.cellsOf e = 1) (hct : P.cellsOf t = l.length)
    (h : laidMet P ((name, .agg (l.map fun z => .lit (.int k z))) :: rest) W) : GlOne W (St0 W) g (l.map (Cell.int k)) := by
  obtain ⟨ps, ⟨g', t', cs, fuel, p, q, hg', ht', hvar, hd, _, _⟩, _⟩ := h
  obtain rfl := Option.some.inj (hg.symm.trans hg')
  obtain rfl := Option.some.inj (hty.symm.trans ht')
  obtain ⟨xs, m, _, hx, hlen, hxl, hel⟩ := DataW.trod_array ht hd
  simp only [Prod.mk.injEq, DataW.agg.injEq] at hx
  have hcs : cs.toList = l.map (Value.int k) := cells_flat (by rw [hlen, hct]) fun i x hx' => by
    have hi : i < l.length := (List.getElem?_eq_some_iff.1 hx').1
    have h1 := hel i hi
    rw [hce] at h1
    have h2 : (xs.map (·.1))[i]? = some (DataW.lit (.int k x)) := by rw [← hx.1, List.getElem?_map, hx']; rfl
    rw [List.getElem?_map] at h2
    cases hxi : xs[i]? with
    | none => rw [hxi] at h2; cases h2
    | some z =>
      obtain ⟨z1, z2⟩ := z
      rw [hxi] at h1 h2
      simp only [Option.map_some, Option.some.injEq] at h2
      subst h2
      obtain ⟨n, hn, hx2, _⟩ := DataW.trod_int he h1
      simp only [Prod.mk.injEq, DataW.lit.injEq, Lit.int.injEq] at hx2
      rw [hn, hx2.1.2]
  have hr : ∀ l : List Int, RepL W ⟨fun _ => none, (St0 W).imm⟩ (l.map (Cell.int k)) (l.map (Value.int k)) := fun l => by
    induction l with
    | nil => trivial
    | cons x l ih => exact ⟨rfl, ih⟩
  refine glOne_of (vs := l.map (Value.int k)) hg (by rw [hvar, ← hcs]) (hr l) (fun u hu => by obtain ⟨s, _, rfl⟩ := List.mem_map.1 hu; rfl)
end
end Go.Eng

namespace Go.Eng
open Go.ChangeShapes Go.WideShapes Go.Deep Go.RowKit
def aggOf (P : Program) (t : TypeId) : Bool := match P.underlying t with
  | some (.struct _) => true
  | _ => false
def isArr (P : Program) (t : TypeId) : Bool := match P.underlying t with
  | some (.array ..) => true
  | _ => false
def avOf : Bool → (ks : List Kind) → denKs ks → AVal
  | true, ks, z => .agg (encKs ks z)
  | false, ks, z => match encKs ks z with
    | [c] => .c c
    | _ => .tup []
section
variable {H : Type} {enc : TypeId × Value → H} {P : Program} {W : World} {base : Nat} {spare : Nat → Bool} {held : Bool}
theorem openA {d : Nat} {t : TypeId} {ks : List Kind} {r : Reach} {b0 : Nat} {v : Value} {x : DataW H} {p : List MemPlace} (hk : kindsOf P d t = some ks) (hl : lineOk P d t = true) (hna : isArr P t = false) (hv : Value.okWide P W r b0 t v)
    (h : DataW.Trod enc P W base spare held t v x p) : ∃ z : denKs ks, RepA W (St0 W) (avOf (aggOf P t) ks z) v ∧ wfKs ks z := by
  obtain ⟨fuel, hf⟩ := h
  obtain ⟨z, h1, h2⟩ := open_kinds hk hl hf
  refine ⟨z, ?_, h2⟩
  have hr : RepL W (St0 W) (encKs ks z) v.cells.toList := encKs_rep (S := St0 W) (kinds_flat hk) h1
  have one : v.cells = #[v] → v.oneCell' = true → aggOf P t = false → RepA W (St0 W) (avOf (aggOf P t) ks z) v := fun hc h1 ha => by
    rw [ha]
    rw [hc] at hr
    simp only [avOf]
    cases he : encKs ks z with
    | nil => rw [he] at hr; exact hr.elim
    | cons c cs =>
      rw [he] at hr
      cases cs with
      | nil => exact ⟨hr.1, h1⟩
      | cons _ _ => exact hr.2.elim
  cases d with
  | zero => cases hk
  | succ d =>
    cases hu : P.underlying t with
    | none => simp [kindsOf, hu] at hk
    | some ty =>
      cases ty with
      | bool => obtain ⟨b, rfl⟩ := okWide_bool hu hv; exact one rfl rfl (by simp [aggOf, hu])
      | int k => obtain ⟨b, rfl⟩ := okWide_int hu hv; exact one rfl rfl (by simp [aggOf, hu])
      | string => obtain ⟨b, rfl⟩ := okWide_string hu hv; exact one rfl rfl (by simp [aggOf, hu])
      | float k => obtain ⟨b, rfl⟩ := okWide_float hu hv; exact one rfl rfl (by simp [aggOf, hu])
      | slice e => obtain ⟨a, len, cap, rfl⟩ := okWide_slice hu hv; exact one rfl rfl (by simp [aggOf, hu])
      | struct fs =>
        obtain ⟨cs, rfl, _⟩ := okWide_struct hu hv
        have ha : aggOf P t = true := by simp [aggOf, hu]
        rw [ha]
        exact ⟨cs.toList, by simp, by simpa [Value.cells] using hr⟩
      | array n e => simp [isArr, hu] at hna
      | _ => simp [kindsOf, hu] at hk
/-- What a law's contract says: it answers true, and what there was is as it was. -/
theorem law_true {gl : Nat → Option (List Cell)} {f : FuncId} {g : Sg} (h : Sound P gl f g) (hg : GlOk gl W (St0 W)) {vals : Array Value} {x : g.ins.den} {y : g.β} (hins : g.ins.h.length = 0)
    (hr : RepAs W (St0 W) ((encT g.ins.t x.1).map (·.2)) vals.toList) (hy : g.fn x = some y) (hout : encT g.outs.t (g.dn y).1 = [(0, .c (.bool true))]) :
    Calls P f vals W fun e w' => e = .returned (.bool true) ∧ Below W.heap.size W w' := by
  refine (h.law hg hins hr hy).mono ?_
  rintro e w' ⟨v, rfl, ⟨p, r, S', h1, h2⟩, hb⟩
  rw [hout] at h1
  simp only [List.cons.injEq, Prod.mk.injEq, and_true] at h1
  obtain ⟨_, rfl⟩ := h1
  have : v = .bool true := h2.1
  exact ⟨by rw [this], hb⟩
end
/-- The readings of a row's variables, one by one. -/
theorem vars_cons {H : Type} {enc : TypeId × Value → H} {P : Program} {w : World} {spare : Nat → Bool} {n : String} {ns : List String} {gs : List (DataW H)} {ps : List MemPlace} (h : DataW.TrodVars enc P w spare (n :: ns) gs ps) : ∃ d ds ps', gs = d :: ds ∧ DataW.TrodVars enc P w spare ns ds ps' := by
  cases gs with
  | nil => exact h.elim
  | cons d ds =>
    obtain ⟨g, t, cs, fuel, p, q, _, _, _, _, hs, _⟩ := h
    exact ⟨d, ds, _, rfl, hs⟩
theorem vars_nil {H : Type} {enc : TypeId × Value → H} {P : Program} {w : World} {spare : Nat → Bool} {gs : List (DataW H)} {ps : List MemPlace} (h : DataW.TrodVars enc P w spare [] gs ps) : gs = [] := (trodVars_none h).1
/-- A variable that holds an error of errors.New. -/
theorem glOne_err {P : Program} {W : World} {name nm nms : String} {text : List UInt8} {rest : List (String × DataW Unit)} {g : Nat} {ti tp te ts : TypeId} {ms : Array (String × TypeId)} {f : Field} (hnm : "*" ++ nm = nms)
    (h : laidMet P ((name, .iface nms (.ptr (.agg [.lit (.string text)]))) :: rest) W)
    (hg : P.globalNamed name = some g) (ht : (P.globals[g]?).map (·.type) = some ti) (hi : P.underlying ti = some (.interface ms))
    (hrows : ((List.range P.types.size).all fun u => P.typeName? 3 u != some ("*" ++ nm) || u == tp) = true)
    (hnamed : ((List.range P.types.size).all fun e => P.typeName? 2 e != some nm || (match (P.info? e).map (·.desc) with | some (TypeDesc.named _ _) => true | _ => false)) = true)
    (hstar : nm.toList.head? ≠ some '*')
    (hp : P.underlying tp = some (.pointer te)) (he : P.underlying te = some (.struct #[f])) (hft : f.type = ts) (hfo : f.offset = 0) (hs : P.underlying ts = some .string) (hc : P.cellsOf te = 1) (hcs : P.cellsOf ts = 1) :
    GlOne W (St0 W) g [.opq (.iface 0 (.pointer none))] := by
  subst hnm
  obtain ⟨a, s, hv, _⟩ := laid_sentinel h hg ht hi (fun u hu => typeName_ptr_named hrows hnamed hstar u hu) hp he hft hfo hs hc hcs
  exact glOne_of (vs := [.iface tp (.pointer (some a))]) hg hv ⟨⟨.inr ⟨rfl, _, _, rfl⟩, rfl⟩, trivial⟩ (fun u hu => by
    rw [List.mem_singleton] at hu
    rw [hu]; rfl)
end Go.Eng
