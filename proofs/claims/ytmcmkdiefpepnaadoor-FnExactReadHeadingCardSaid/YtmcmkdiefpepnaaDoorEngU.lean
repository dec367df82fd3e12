/-
  The engine, twenty-first part: what is to be shown of one function.
-/
import Derived.Test.YtmcmkdiefpepnaaDoorEngT
set_option linter.unusedSimpArgs false
set_option linter.unusedVariables false
namespace Go.Eng
/-- The table of contracts. -/
def sgOf : List (Nat × Sg) → Nat → Option Sg
  | [], _ => none
  | p :: l, n => bif Nat.beq n p.1 then some p.2 else sgOf l n
def bodyOf (fn : Func) : Code := match fn.body with
  | some c => c
  | none => .skip
/-- The sites that are cuts. -/
def cutSites (ids : List Nat) (body : Code) : List (Nat × List Seg × Code) := (sites [] body).filter fun s => mem s.1 ids
def siteAt (ids : List Nat) (body : Code) (i : Nat) : Nat × List Seg × Code := match (cutSites ids body)[i]? with
  | some s => s
  | none => (0, [], .skip)
structure SiteEq {β : Type} (C : Ctx) (np : Nat) (K : AExit → Env → Option β) (Jf : Nat → Nat → Option (Cut β)) (s : Nat × List Seg × Code) (sh : Shape) (g : Nat → sh.den → Option β) : Prop where
  j : ∀ k, Jf k s.1 = some ⟨sh, g k⟩
  e : ∀ k y, denSite C np (Jf k) K s.2.1 s.2.2 (sh.enc y) = g (k + 1) y
  z : ∀ y, g 0 y = none

theorem sgOf_all {P : Program} {gl : Nat → Option (List Cell)} : ∀ {l : List (Nat × Sg)}, (∀ p ∈ l, callable P p.1 = true ∧ Sound P gl p.1 p.2) → ∀ f g, sgOf l f = some g → callable P f = true ∧ Sound P gl f g
  | [], _, f, g, hf => by cases hf
  | p :: l, h, f, g, hf => by
    simp only [sgOf] at hf
    cases hb : Nat.beq f p.1 with
    | true =>
      rw [hb] at hf
      simp only [cond_true, Option.some.injEq] at hf
      have := beq_iff.1 hb
      subst this hf
      exact h p (by simp)
    | false =>
      rw [hb] at hf
      exact sgOf_all (fun q hq => h q (by simp [hq])) f g hf

/-- The same, part by part. -/
def AllSg (P : Program) (gl : Nat → Option (List Cell)) : List (Nat × Sg) → Prop
  | [] => True
  | p :: l => (callable P p.1 = true ∧ Sound P gl p.1 p.2) ∧ AllSg P gl l
theorem sgOf_all' {P : Program} {gl : Nat → Option (List Cell)} {l : List (Nat × Sg)} (h : AllSg P gl l) : ∀ f g, sgOf l f = some g → callable P f = true ∧ Sound P gl f g := by
  refine sgOf_all fun p hp => ?_
  induction l with
  | nil => cases hp
  | cons q l ih =>
    rcases List.mem_cons.1 hp with rfl | hp
    · exact h.1
    · exact ih h.2 hp

/-- What a function with rounds answers, with rounds enough. -/
def Ev {α : Type} (f : Nat → Option α) (r : α) : Prop := ∃ N, ∀ k, N ≤ k → f k = some r
open Classical in
noncomputable def evF {α : Type} (f : Nat → Option α) : Option α := if h : ∃ y, Ev f y then some h.choose else none
theorem Ev.unique {α : Type} {f : Nat → Option α} {r s : α} (h : Ev f r) (k : Ev f s) : r = s := by
  obtain ⟨N, h⟩ := h
  obtain ⟨M, k⟩ := k
  have h1 := h (max N M) (Nat.le_max_left ..)
  rw [k (max N M) (Nat.le_max_right ..)] at h1
  exact (Option.some.inj h1).symm
theorem evF_eq {α : Type} {f : Nat → Option α} {r : α} (h : Ev f r) : evF f = some r := by
  have hx : ∃ y, Ev f y := ⟨r, h⟩
  unfold evF
  rw [dif_pos hx]
  exact congrArg some (hx.choose_spec.unique h)
theorem evF_some {α : Type} {f : Nat → Option α} {r : α} (h : evF f = some r) : ∃ k, f k = some r := by
  unfold evF at h
  split at h
  · rename_i hx
    obtain ⟨N, hN⟩ := hx.choose_spec
    exact ⟨N, (hN N (Nat.le_refl N)).trans h⟩
  · cases h

/-- The cuts, from a list. -/
def jOf {β : Type} : List (Nat × (Nat → Cut β)) → Nat → Nat → Option (Cut β)
  | [], _, _ => none
  | p :: l, k, n => bif Nat.beq n p.1 then some (p.2 k) else jOf l k n
theorem jOf_mem {β : Type} : ∀ {l : List (Nat × (Nat → Cut β))} {k n : Nat} {c : Cut β}, jOf l k n = some c → ∃ p ∈ l, p.1 = n
  | [], k, n, c, h => by cases h
  | p :: l, k, n, c, h => by
    simp only [jOf] at h
    cases hb : Nat.beq n p.1 with
    | true => exact ⟨p, by simp, (beq_iff.1 hb).symm⟩
    | false =>
      rw [hb] at h
      obtain ⟨q, h1, h2⟩ := jOf_mem h
      exact ⟨q, by simp [h1], h2⟩
def allB : Nat → (Nat → Prop) → Prop
  | 0, _ => True
  | n + 1, p => allB n p ∧ p n
theorem allB_get {p : Nat → Prop} : ∀ {n : Nat}, allB n p → ∀ i, i < n → p i
  | 0, _, i, hi => by omega
  | n + 1, h, i, hi => by
    by_cases hin : i = n
    · subst hin; exact h.2
    · exact allB_get h.1 i (by omega)

section
variable {P : Program} {C : Ctx}
/-- **One function**, with cuts. -/
theorem sound_cuts (hC : C.Ok P) (hsg : ∀ f g, C.sg f = some g → callable P f = true ∧ Sound P C.gl f g) (f : FuncId) (fn : Func) (g : Sg) (up : g.outs.den → g.β) (js : List (Nat × (Nat → Cut g.β))) (n : Nat)
    (hf : P.funcs[f]? = some fn) (hb : fn.body.isSome = true) (hnt : fn.ntmps = C.nt) (hkeys : keysOk 0 g.ins.t = true) (hlen : Nat.ble g.ins.t.length C.nt = true) (hone : g.outs.t.length = 1) (hup : ∀ y, g.dn (up y) = y)
    (hn : Nat.ble (cutSites (js.map (·.1)) (bodyOf fn)).length n = true) (hall : (js.all fun p => (sites [] (bodyOf fn)).any fun s => Nat.beq s.1 p.1) = true)
    (h1 : allB n fun i => ∃ sh gg, SiteEq C g.ins.h.length (retK C g.ins.h.length g.outs up fn.results.toList) (jOf js) (siteAt (js.map (·.1)) (bodyOf fn) i) sh gg)
    (F : Nat → g.ins.den → Option g.β) (hF : ∀ x, g.fn x = evF fun k => F k x)
    (hbody : ∀ k x, den C g.ins.h.length (jOf js k) (bodyOf fn) (g.ins.enc x) (retK C g.ins.h.length g.outs up fn.results.toList) = F k x) : Sound P C.gl f g := by
  have hb' : fn.body = some (bodyOf fn) := by
    unfold bodyOf
    cases h : fn.body with
    | none => rw [h] at hb; cases hb
    | some c => rfl
  have key : ∀ s ∈ sites [] (bodyOf fn), mem s.1 (js.map (·.1)) = true → ∃ sh gg, SiteEq C g.ins.h.length (retK C g.ins.h.length g.outs up fn.results.toList) (jOf js) s sh gg := fun s hs hm => by
    have hin : s ∈ cutSites (js.map (·.1)) (bodyOf fn) := List.mem_filter.2 ⟨hs, hm⟩
    obtain ⟨i, hlt, hi⟩ := List.getElem_of_mem hin
    have := allB_get h1 i (Nat.lt_of_lt_of_le hlt (Nat.le_of_ble_eq_true hn))
    have hat : siteAt (js.map (·.1)) (bodyOf fn) i = s := by unfold siteAt; rw [List.getElem?_eq_getElem hlt, hi]
    rwa [hat] at this
  refine sound_of hC hC.mixed hsg (up := up) hf hb' hnt hkeys hlen hone hup (Jf := jOf js) (fun p cut hc y r hr => ?_) (fun k s hs cut hc y r hr => ?_) (fun x y hxy => ?_)
  · obtain ⟨q, hq, hqp⟩ := jOf_mem hc
    rw [List.all_eq_true] at hall
    have := hall q hq
    rw [List.any_eq_true] at this
    obtain ⟨s, hs, hsp⟩ := this
    have hsp := beq_iff.1 hsp
    have hsp' : s.1 = p := hsp.trans hqp
    subst hsp'
    obtain ⟨sh, gg, q'⟩ := key s hs (mem_iff.2 (List.mem_map.2 ⟨q, hq, hqp⟩))
    have := q'.j 0
    rw [this] at hc
    cases hc
    have := q'.z y
    simp only at hr
    rw [this] at hr
    cases hr
  · obtain ⟨q, hq, hqp⟩ := jOf_mem hc
    obtain ⟨sh, gg, q'⟩ := key s hs (mem_iff.2 (List.mem_map.2 ⟨q, hq, hqp⟩))
    have := q'.j (k + 1)
    rw [this] at hc
    cases hc
    exact (q'.e k y).trans hr
  · rw [hF x] at hxy
    obtain ⟨k, hk⟩ := evF_some hxy
    exact ⟨k, (hbody k x).trans hk⟩
/-- One function, without cuts. -/
theorem sound_plain (hC : C.Ok P) (hsg : ∀ f g, C.sg f = some g → callable P f = true ∧ Sound P C.gl f g) (f : FuncId) (fn : Func) (g : Sg) (up : g.outs.den → g.β)
    (hf : P.funcs[f]? = some fn) (hb : fn.body.isSome = true) (hnt : fn.ntmps = C.nt) (hkeys : keysOk 0 g.ins.t = true) (hlen : Nat.ble g.ins.t.length C.nt = true) (hone : g.outs.t.length = 1) (hup : ∀ y, g.dn (up y) = y)
    (hbody : ∀ x, den C g.ins.h.length (fun _ => none) (bodyOf fn) (g.ins.enc x) (retK C g.ins.h.length g.outs up fn.results.toList) = g.fn x) : Sound P C.gl f g := by
  have hb' : fn.body = some (bodyOf fn) := by
    unfold bodyOf
    cases h : fn.body with
    | none => rw [h] at hb; cases hb
    | some c => rfl
  exact sound_of hC hC.mixed hsg (up := up) hf hb' hnt hkeys hlen hone hup (Jf := fun _ _ => none) (fun p cut hc => by cases hc) (fun k s hs cut hc => by cases hc) (fun x y hxy => ⟨0, (hbody x).trans hxy⟩)
end
end Go.Eng
