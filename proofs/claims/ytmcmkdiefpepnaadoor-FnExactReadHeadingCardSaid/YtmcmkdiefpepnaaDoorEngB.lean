/-
  The engine, second part: what it means that memory holds what the engine says (no order, no address in sight above). What is kept when memory grows. No condition.
-/
import Derived.Test.YtmcmkdiefpepnaaDoorEngA
set_option linter.unusedVariables false
set_option linter.unusedSimpArgs false
namespace Go.Eng

/-- What stands for what: names of objects for values, and which blocks nobody writes. -/
structure St where
  val : Nat → Option Value
  imm : Nat → Prop

def blk : Value → Option Nat
  | .slice (some a) _ _ => some a.block
  | .pointer (some a) => some a.block
  | _ => none

section
variable (w : World) (imm : Nat → Prop)
def RepK : (k : Kind) → k.den → (Nat → Option Value) → Prop
  | .int k, n, f => f 0 = some (.int k n)
  | .bool, b, f => f 0 = some (.bool b)
  | .str, s, f => f 0 = some (.string s)
  | .flt, n, f => ∃ b, f 0 = some (.float .f64 b) ∧ canonF b = n
  | .sl k, xs, f => ∃ a len cap, f 0 = some (.slice a len cap) ∧ len = xs.length ∧ len ≤ cap ∧ (a = none → cap = 0) ∧ (xs = [] ∨ ∃ b o, a = some ⟨b, o, none⟩ ∧ imm b ∧
      ∀ i x, xs[i]? = some x → RepK k x fun j => w.cell? ⟨b, o + i * k.sz + j, none⟩)
  | .pair a b, x, f => RepK a x.1 f ∧ RepK b x.2 fun j => f (a.sz + j)
/-- A slice value that nobody writes. -/
def SlV (k : Kind) (xs : List k.den) (v : Value) : Prop := RepK w imm (.sl k) xs fun _ => some v
end

section
variable (w : World) (S : St)
def RepC : Cell → Value → Prop
  | .int k n, v => v = .int k n
  | .bool b, v => v = .bool b
  | .str s, v => v = .string s
  | .flt n, v => ∃ b, v = .float .f64 b ∧ canonF b = n
  | .sl k xs, v => SlV w S.imm k xs v
  | .nil, v => v = .slice none 0 0
  | .ref n, v => S.val n = some v ∧ v.oneCell' = true
  | .ptr n o, v => ∃ b, S.val n = some (.pointer (some ⟨b, 0, none⟩)) ∧ v = .pointer (some ⟨b, o, none⟩)
  | .eptr n sz i o, v => ∃ b len cap, S.val n = some (.slice (some ⟨b, 0, none⟩) len cap) ∧ 0 ≤ i ∧ v = .pointer (some ⟨b, i.toNat * sz + o, none⟩)
  | .vptr k xs i o, v => ∃ b p, v = .pointer (some ⟨b, p + i.toNat * k.sz + o, none⟩) ∧ S.imm b ∧ 0 ≤ i ∧ i.toNat < xs.length ∧
      ∀ j x, xs[j]? = some x → RepK w S.imm k x fun c => w.cell? ⟨b, p + j * k.sz + c, none⟩
  | .gptr g o, v => v = .pointer (some ⟨g, o, none⟩)
  | .fn f caps, v => ∃ vs : List Value, v = .func (.func f) #[] vs.toArray ∧ vs.length = caps.length ∧
      ∀ (i n : Nat), caps[i]? = some n → ∃ b, S.val n = some (.pointer (some ⟨b, 0, none⟩)) ∧ vs[i]? = some (Value.pointer (some ⟨b, 0, none⟩))
  | .opq u, v => v = u ∧ u.oneCell' = true
def RepL : List Cell → List Value → Prop
  | [], [] => True
  | c :: cs, v :: vs => RepC w S c v ∧ RepL cs vs
  | _, _ => False
def RepB : Bool × List Cell → Value → Prop
  | (true, cs), v => ∃ vs : List Value, v = .agg vs.toArray ∧ RepL w S cs vs
  | (false, [c]), v => RepC w S c v ∧ v.oneCell' = true
  | (false, _), _ => False
def RepT : List (Bool × List Cell) → List Value → Prop
  | [], [] => True
  | c :: cs, v :: vs => RepB w S c v ∧ RepT cs vs
  | _, _ => False
def RepA : AVal → Value → Prop
  | .c x, v => RepC w S x v ∧ v.oneCell' = true
  | .agg cs, v => ∃ vs : List Value, v = .agg vs.toArray ∧ RepL w S cs vs
  | .tup l, v => ∃ vs : List Value, v = .tuple vs.toArray ∧ RepT w S l vs
def RepO (n : Nat) : Obj → Prop
  | .lst e k xs => ∃ v flat, S.val n = some v ∧ w.ownsRow 0 e k.sz v xs.length flat ∧ (∀ i x, xs[i]? = some x → RepK w S.imm k x fun j => flat[i * k.sz + j]?) ∧ ∀ u ∈ flat, u.oneCell' = true
  | .frz k xs => ∃ v, S.val n = some v ∧ SlV w S.imm k xs v
  | .box t cs => ∃ b vs, S.val n = some (.pointer (some ⟨b, 0, none⟩)) ∧ w.heap[b]? = some (.cells (List.toArray vs) t (0, 0)) ∧ RepL w S cs vs ∧ ∀ u ∈ vs, u.oneCell' = true
  | .dead => ∃ v, S.val n = some v
end

/-! ### What is kept -/
/-- S' knows all that S knows. -/
structure St.le (S S' : St) : Prop where
  val : ∀ n v, S.val n = some v → S'.val n = some v
  imm : ∀ b, S.imm b → S'.imm b
theorem St.le.refl (S : St) : S.le S := ⟨fun _ _ h => h, fun _ h => h⟩
theorem St.le.trans {A B C : St} (h : A.le B) (k : B.le C) : A.le C := ⟨fun n v x => k.val n v (h.val n v x), fun b x => k.imm b (h.imm b x)⟩
/-- The blocks that nobody writes are as they were. -/
def Keeps (imm : Nat → Prop) (w w' : World) : Prop := ∀ b, imm b → w'.heap[b]? = w.heap[b]?

theorem cell?_of {w w' : World} {a : Addr} (h : w'.heap[a.block]? = w.heap[a.block]?) : w'.cell? a = w.cell? a := World.cell?_of_block h

section
variable {w w' : World} {imm imm' : Nat → Prop}
theorem RepK.keep (hw : Keeps imm w w') (hi : ∀ b, imm b → imm' b) : ∀ {k : Kind} {x : k.den} {f g : Nat → Option Value}, (∀ j, j < k.sz → g j = f j) → RepK w imm k x f → RepK w' imm' k x g
  | .int _, x, f, g, hf, h => by simp only [RepK] at *; rw [hf 0 (by simp [Kind.sz])]; exact h
  | .bool, x, f, g, hf, h => by simp only [RepK] at *; rw [hf 0 (by simp [Kind.sz])]; exact h
  | .str, x, f, g, hf, h => by simp only [RepK] at *; rw [hf 0 (by simp [Kind.sz])]; exact h
  | .flt, x, f, g, hf, h => by simp only [RepK] at *; rw [hf 0 (by simp [Kind.sz])]; exact h
  | .sl k, xs, f, g, hf, h => by
    obtain ⟨a, len, cap, h1, h2, h3, h5, h4⟩ := h
    refine ⟨a, len, cap, by rw [hf 0 (by simp [Kind.sz])]; exact h1, h2, h3, h5, ?_⟩
    rcases h4 with h4 | ⟨b, o, ha, hb, hx⟩
    · exact .inl h4
    · exact .inr ⟨b, o, ha, hi b hb, fun i x hxi => RepK.keep hw hi (fun j _ => cell?_of (hw b hb)) (hx i x hxi)⟩
  | .pair a b, x, f, g, hf, h => ⟨RepK.keep hw hi (fun j hj => hf j (by simp only [Kind.sz]; omega)) h.1, RepK.keep hw hi (fun j hj => hf _ (by simp only [Kind.sz]; omega)) h.2⟩

theorem SlV.keep (hw : Keeps imm w w') (hi : ∀ b, imm b → imm' b) {k : Kind} {xs : List k.den} {v : Value} (h : SlV w imm k xs v) : SlV w' imm' k xs v := RepK.keep hw hi (fun _ _ => rfl) h

variable {S S' : St}
theorem RepC.keep (hS : S.le S') (hw : Keeps S.imm w w') : ∀ {c : Cell} {v : Value}, RepC w S c v → RepC w' S' c v := by
  intro c v h
  cases c with
  | sl k xs => exact SlV.keep hw hS.imm h
  | ref n => exact ⟨hS.val _ _ h.1, h.2⟩
  | ptr n o => obtain ⟨b, h1, h2⟩ := h; exact ⟨b, hS.val _ _ h1, h2⟩
  | eptr n sz i o => obtain ⟨b, len, cap, h1, h2⟩ := h; exact ⟨b, len, cap, hS.val _ _ h1, h2⟩
  | vptr k xs i o =>
    obtain ⟨b, p, h1, h2, h3, h4, h5⟩ := h
    exact ⟨b, p, h1, hS.imm b h2, h3, h4, fun j x hx => RepK.keep hw hS.imm (fun c _ => cell?_of (hw b h2)) (h5 j x hx)⟩
  | fn f caps =>
    obtain ⟨vs, h1, h2, h3⟩ := h
    exact ⟨vs, h1, h2, fun i n hi => let ⟨b, x, y⟩ := h3 i n hi; ⟨b, hS.val _ _ x, y⟩⟩
  | _ => exact h
theorem RepL.keep (hS : S.le S') (hw : Keeps S.imm w w') : ∀ {cs : List Cell} {vs : List Value}, RepL w S cs vs → RepL w' S' cs vs
  | [], [], _ => trivial
  | _ :: _, _ :: _, h => ⟨h.1.keep hS hw, RepL.keep hS hw h.2⟩
theorem RepB.keep (hS : S.le S') (hw : Keeps S.imm w w') : ∀ {c : Bool × List Cell} {v : Value}, RepB w S c v → RepB w' S' c v
  | (true, _), _, h => let ⟨vs, h1, h2⟩ := h; ⟨vs, h1, h2.keep hS hw⟩
  | (false, [_]), _, h => ⟨h.1.keep hS hw, h.2⟩
theorem RepT.keep (hS : S.le S') (hw : Keeps S.imm w w') : ∀ {cs : List (Bool × List Cell)} {vs : List Value}, RepT w S cs vs → RepT w' S' cs vs
  | [], [], _ => trivial
  | _ :: _, _ :: _, h => ⟨h.1.keep hS hw, RepT.keep hS hw h.2⟩
theorem RepA.keep (hS : S.le S') (hw : Keeps S.imm w w') : ∀ {a : AVal} {v : Value}, RepA w S a v → RepA w' S' a v
  | .c _, _, h => ⟨h.1.keep hS hw, h.2⟩
  | .agg _, _, h => let ⟨vs, h1, h2⟩ := h; ⟨vs, h1, h2.keep hS hw⟩
  | .tup _, _, h => let ⟨vs, h1, h2⟩ := h; ⟨vs, h1, h2.keep hS hw⟩
/-- An object is kept if its own block is. -/
theorem RepO.keep {n : Nat} {o : Obj} (hS : S.le S') (hw : Keeps S.imm w w') (hb : ∀ v b, o.mut = true → S.val n = some v → blk v = some b → w'.heap[b]? = w.heap[b]?) (h : RepO w S n o) : RepO w' S' n o := by
  cases o with
  | lst e k xs =>
    obtain ⟨v, flat, h1, h2, h3, h4⟩ := h
    refine ⟨v, flat, hS.val _ _ h1, ⟨h2.1, ?_⟩, fun i x hx => RepK.keep hw hS.imm (fun _ _ => rfl) (h3 i x hx), h4⟩
    rcases h2.2 with h2 | ⟨g, cap, cur, rfl, h5, h6, h7⟩
    · exact .inl h2
    · exact .inr ⟨g, cap, cur, rfl, h5, (hb _ g rfl h1 rfl).trans h6, h7⟩
  | frz k xs => obtain ⟨v, h1, h2⟩ := h; exact ⟨v, hS.val _ _ h1, h2.keep hw hS.imm⟩
  | box t cs =>
    obtain ⟨b, vs, h1, h2, h3, h4⟩ := h
    exact ⟨b, vs, hS.val _ _ h1, (hb _ b rfl h1 rfl).trans h2, h3.keep hS hw, h4⟩
  | dead => obtain ⟨v, h⟩ := h; exact ⟨v, hS.val _ _ h⟩
end

theorem RepO.val {w : World} {S : St} {n : Nat} {o : Obj} (h : RepO w S n o) : ∃ v, S.val n = some v := by
  cases o with
  | lst e k xs => obtain ⟨v, _, h, _⟩ := h; exact ⟨v, h⟩
  | frz k xs => obtain ⟨v, h, _⟩ := h; exact ⟨v, h⟩
  | box t cs => obtain ⟨b, _, h, _⟩ := h; exact ⟨_, h⟩
  | dead => exact h

/-! ### Names -/
section
variable {β : Type}
theorem beq_iff {a b : Nat} : Nat.beq a b = true ↔ a = b := ⟨Nat.eq_of_beq_eq_true, fun h => h ▸ Nat.beq_refl a⟩
theorem AL.get_set (l : AL β) (n m : Nat) (b : β) : (l.set n b).get m = if m = n then some b else l.get m := by
  induction l with
  | nil =>
    simp only [AL.set, AL.get]
    cases h : Nat.beq m n with
    | true => simp [beq_iff.1 h]
    | false => have : m ≠ n := fun e => by rw [beq_iff.2 e] at h; cases h
               simp [this]
  | cons p l ih =>
    obtain ⟨k, c⟩ := p
    simp only [AL.set]
    cases h1 : Nat.beq n k with
    | true =>
      have e := beq_iff.1 h1; subst e
      simp only [cond_true, AL.get]
      cases h : Nat.beq m n with
      | true => simp [beq_iff.1 h]
      | false => have : m ≠ n := fun e => by rw [beq_iff.2 e] at h; cases h
                 simp [this]
    | false =>
      simp only [cond_false]
      have hnk : n ≠ k := fun e => by rw [beq_iff.2 e] at h1; cases h1
      cases h2 : Nat.ble n k with
      | true =>
        simp only [cond_true, AL.get]
        cases h : Nat.beq m n with
        | true => simp [beq_iff.1 h]
        | false => have : m ≠ n := fun e => by rw [beq_iff.2 e] at h; cases h
                   simp [this]
      | false =>
        simp only [cond_false, AL.get, ih]
        cases h : Nat.beq m k with
        | true => have e := beq_iff.1 h; subst e; simp [Ne.symm hnk]
        | false => simp
theorem AL.get_del (l : AL β) (n m : Nat) : (l.del n).get m = if m = n then none else l.get m := by
  induction l with
  | nil => simp [AL.del, AL.get]
  | cons p l ih =>
    obtain ⟨k, c⟩ := p
    simp only [AL.del]
    cases h1 : Nat.beq n k with
    | true =>
      have e := beq_iff.1 h1; subst e
      simp only [cond_true, ih, AL.get]
      by_cases h : m = n
      · simp [h]
      · have : Nat.beq m n = false := by cases hh : Nat.beq m n with
          | true => exact absurd (beq_iff.1 hh) h
          | false => rfl
        simp [h, this]
    | false =>
      simp only [cond_false, AL.get, ih]
      have hnk : n ≠ k := fun e => by rw [beq_iff.2 e] at h1; cases h1
      cases h : Nat.beq m k with
      | true => have e := beq_iff.1 h; subst e; simp [Ne.symm hnk]
      | false => simp
theorem AL.get_upd (l : AL β) (n m : Nat) (b : β) : (l.upd n b).get m = if m = n then (l.get n).map (fun _ => b) else l.get m := by
  induction l with
  | nil => simp [AL.upd, AL.get]
  | cons p l ih =>
    obtain ⟨k, c⟩ := p
    simp only [AL.upd]
    cases h1 : Nat.beq n k with
    | true =>
      have e := beq_iff.1 h1; subst e
      simp only [cond_true, AL.get, h1]
      cases h : Nat.beq m n with
      | true => simp [beq_iff.1 h]
      | false => have : m ≠ n := fun e => by rw [beq_iff.2 e] at h; cases h
                 simp [this]
    | false =>
      simp only [cond_false, AL.get, ih, h1]
      have hnk : n ≠ k := fun e => by rw [beq_iff.2 e] at h1; cases h1
      cases h : Nat.beq m k with
      | true => have e := beq_iff.1 h; subst e; simp [Ne.symm hnk]
      | false => simp
/-- What stands there already changes nothing. -/
theorem AL.upd_same (l : AL β) (n : Nat) (b : β) (h : l.get n = some b) : l.upd n b = l := by
  induction l with
  | nil => rfl
  | cons p l ih =>
    obtain ⟨k, c⟩ := p
    simp only [AL.upd, AL.get] at *
    cases h1 : Nat.beq n k with
    | true => rw [h1] at h; simp only [cond_true, Option.some.injEq] at h; simp [beq_iff.1 h1, h]
    | false => rw [h1] at h; simp only [cond_false] at h ⊢; rw [ih h]
theorem AL.has_iff (l : AL β) (n : Nat) : l.has n = false ↔ l.get n = none := by
  unfold AL.has; cases l.get n <;> simp
theorem mem_iff {n : Nat} {l : List Nat} : mem n l = true ↔ n ∈ l := by
  induction l with
  | nil => simp [mem]
  | cons m l ih =>
    simp only [mem, List.mem_cons]
    cases h : Nat.beq n m with
    | true => simp [beq_iff.1 h]
    | false => have : n ≠ m := fun e => by rw [beq_iff.2 e] at h; cases h
               simp [this, ih]
end

/-! ### The running activation -/
/-- What stays of the call: the world that it began in, which blocks nobody wrote then, which blocks of its caller's it may write, the objects that came in. -/
structure Fd where
  gl : Nat → Option (List Cell)
  w0 : World
  imm0 : Nat → Prop
  pw : Nat → Prop
  np : Nat
  val0 : Nat → Value

/-- The package's variables hold what is said, and nobody writes them. -/
def GlOk (gl : Nat → Option (List Cell)) (w : World) (S : St) : Prop :=
  ∀ g cs, gl g = some cs → S.imm g ∧ ∃ vs, RepL w ⟨fun _ => none, S.imm⟩ cs vs ∧ (∀ u ∈ vs, u.oneCell' = true) ∧ (∀ (j : Nat) u, vs[j]? = some u → w.cell? ⟨g, j, none⟩ = some u) ∧ ∃ t c, w.heap[g]? = some (.cells vs.toArray t c)
theorem GlOk.keep {gl : Nat → Option (List Cell)} {w w' : World} {S S' : St} (hS : S.le S') (hw : Keeps S.imm w w') (h : GlOk gl w S) : GlOk gl w' S' := fun g cs hg => by
  obtain ⟨h1, vs, h2, h3, h4⟩ := h g cs hg
  exact ⟨hS.imm g h1, vs, RepL.keep (S := ⟨fun _ => none, S.imm⟩) (S' := ⟨fun _ => none, S'.imm⟩) ⟨fun _ _ h => h, hS.imm⟩ hw h2, h3, fun j u hj => (cell?_of (hw g h1)).trans (h4.1 j u hj), by rw [hw g h1]; exact h4.2⟩

structure Inv (Fr : Fd) (nt : Nat) (S : St) (e : Env) (a : Act) (w : World) : Prop where
  defers : a.defers = []
  size : a.tmps.size = nt
  tmps : ∀ t v, e.t.get t = some v → ∃ u, a.tmps[t]? = some u ∧ RepA w S v u
  objs : ∀ n o, e.h.get n = some o → RepO w S n o
  news : ∀ n, e.h.get n = none → S.val n = none
  wr : ∀ n o v b, e.h.get n = some o → o.mut = true → S.val n = some v → blk v = some b → ¬ S.imm b ∧ (Fr.w0.heap.size ≤ b ∨ Fr.pw b)
  dis : ∀ n m o p v u b, n ≠ m → e.h.get n = some o → e.h.get m = some p → o.mut = true → p.mut = true → S.val n = some v → S.val m = some u → blk v = some b → blk u ≠ some b
  imm : ∀ b, S.imm b → b < w.heap.size ∧ (Fr.imm0 b ∨ Fr.w0.heap.size ≤ b ∨ Fr.pw b)
  imm0 : ∀ b, Fr.imm0 b → S.imm b
  own : ∀ j, j < Fr.np → S.val j = some (Fr.val0 j)
  frame : ∀ b, b < Fr.w0.heap.size → ¬ Fr.pw b → w.heap[b]? = Fr.w0.heap[b]?
  os : w.os = Fr.w0.os
  tape : w.tape = Fr.w0.tape
  output : w.output = Fr.w0.output
  grow : Fr.w0.heap.size ≤ w.heap.size
  glob : GlOk Fr.gl w S

end Go.Eng

namespace Go.Eng
/-! ### How the invariant is handed on -/
def St.bind (S : St) (n : Nat) (v : Value) : St := ⟨fun m => if m = n then some v else S.val m, S.imm⟩
theorem St.le_bind {S : St} {n : Nat} {v : Value} (h : S.val n = none ∨ S.val n = some v) : S.le (S.bind n v) :=
  ⟨fun m u hm => by
    simp only [St.bind]
    split
    · rename_i e; subst e
      rcases h with h | h <;> rw [h] at hm <;> cases hm
      rfl
    · exact hm, fun _ h => h⟩
def St.froze (S : St) (v : Value) : St := ⟨S.val, fun b => S.imm b ∨ blk v = some b⟩
theorem St.le_froze {S : St} {v : Value} : S.le (S.froze v) := ⟨fun _ _ h => h, fun _ h => .inl h⟩

section
variable {Fr : Fd} {nt : Nat} {S : St} {e : Env} {a : Act} {w : World}

theorem Inv.put (h : Inv Fr nt S e a w) {dst : Option Nat} {v : Option AVal} {u : Value} (hv : ∀ x, v = some x → RepA w S x u) (hd : dstOk nt dst = true) :
    Inv Fr nt S ⟨putV e.t dst v, e.h⟩ (a.put dst u) w := by
  cases dst with
  | none => exact h
  | some d =>
    have hlt : d < a.tmps.size := by
      rw [h.size]; simp only [dstOk, Nat.blt] at hd; exact Nat.le_of_ble_eq_true hd
    have hdf : (a.put (some d) u).defers = a.defers := rfl
    refine { h with defers := hdf.trans h.defers, size := by simp [Act.put, h.size], tmps := ?_ }
    intro t x ht
    by_cases htd : t = d
    · subst htd
      refine ⟨u, by simp [Act.put, hlt], hv x ?_⟩
      cases v with
      | none => simp [putV, AL.get_del] at ht
      | some y => simp [putV, AL.get_set] at ht; rw [ht]
    · have : e.t.get t = some x := by
        cases v with
        | none => simpa [putV, AL.get_del, htd] using ht
        | some y => simpa [putV, AL.get_set, htd] using ht
      obtain ⟨u', h1, h2⟩ := h.tmps t x this
      exact ⟨u', by simp [Act.put, Array.getElem?_setIfInBounds_ne (Ne.symm htd), h1], h2⟩

/-- The world turns where nobody looks. -/
theorem Inv.world (h : Inv Fr nt S e a w) {w' : World} (X : Nat → Prop) (hX : ∀ b, X b → ¬ S.imm b ∧ (Fr.w0.heap.size ≤ b ∨ Fr.pw b) ∧ ∀ n o v, e.h.get n = some o → o.mut = true → S.val n = some v → blk v ≠ some b)
    (hb : ∀ b, b < w.heap.size → ¬ X b → w'.heap[b]? = w.heap[b]?) (hs : w.heap.size ≤ w'.heap.size) (ho : w'.os = w.os) (ht : w'.tape = w.tape) (hout : w'.output = w.output) :
    Inv Fr nt S e a w' := by
  have hk : Keeps S.imm w w' := fun b hi => hb b (h.imm b hi).1 (fun hx => (hX b hx).1 hi)
  refine { h with tmps := fun t v htv => ?_, objs := fun n o hn => ?_, imm := fun b hi => ⟨Nat.lt_of_lt_of_le (h.imm b hi).1 hs, (h.imm b hi).2⟩, frame := fun b hlt hp => ?_, os := ho.trans h.os, tape := ht.trans h.tape, output := hout.trans h.output, grow := Nat.le_trans h.grow hs, glob := h.glob.keep (St.le.refl S) hk }
  · obtain ⟨u, h1, h2⟩ := h.tmps t v htv
    exact ⟨u, h1, h2.keep (St.le.refl S) hk⟩
  · have hr := h.objs n o hn
    refine hr.keep (St.le.refl S) hk fun v b hm hv hbv => ?_
    have hlt : b < w.heap.size := by
      cases o with
      | lst e k xs =>
        obtain ⟨v', flat, h1, h2, _⟩ := hr
        rw [hv] at h1; cases h1
        rcases h2.2 with ⟨rfl, _⟩ | ⟨g, cap, cur, rfl, _, hg, _⟩
        · simp [blk] at hbv
        · simp only [blk, Option.some.injEq] at hbv; subst hbv
          exact (Array.getElem?_eq_some_iff.1 hg).1
      | frz k xs => cases hm
      | box t cs =>
        obtain ⟨b', vs, h1, h2, _⟩ := hr
        rw [hv] at h1; cases h1
        simp only [blk, Option.some.injEq] at hbv; subst hbv
        exact (Array.getElem?_eq_some_iff.1 h2).1
      | dead => cases hm
    exact hb b hlt fun hx => (hX b hx).2.2 n o v hn hm hv hbv
  · rw [hb b (Nat.lt_of_lt_of_le hlt h.grow) (fun hx => (hX b hx).2.1.elim (fun h1 => by omega) hp)]
    exact h.frame b hlt hp

theorem Inv.alloc (h : Inv Fr nt S e a w) (o : Go.Obj) : Inv Fr nt S e a (w.alloc o) :=
  h.world (fun _ => False) (fun _ hx => hx.elim) (fun b hb _ => heap_alloc_old w o b hb) (by simp) rfl rfl rfl
theorem Inv.drew (h : Inv Fr nt S e a w) : Inv Fr nt S e a { w with drawn := w.drawn + 1 } :=
  h.world (fun _ => False) (fun _ hx => hx.elim) (fun _ _ _ => rfl) (Nat.le_refl _) rfl rfl rfl

/-- More is known. -/
theorem Inv.more (h : Inv Fr nt S e a w) {S' : St} (hS : S.le S') {h' : AL Obj} (objs : ∀ n o, h'.get n = some o → RepO w S' n o) (news : ∀ n, h'.get n = none → S'.val n = none)
    (wr : ∀ n o v b, h'.get n = some o → o.mut = true → S'.val n = some v → blk v = some b → ¬ S'.imm b ∧ (Fr.w0.heap.size ≤ b ∨ Fr.pw b))
    (dis : ∀ n m o p v u b, n ≠ m → h'.get n = some o → h'.get m = some p → o.mut = true → p.mut = true → S'.val n = some v → S'.val m = some u → blk v = some b → blk u ≠ some b)
    (imm : ∀ b, S'.imm b → b < w.heap.size ∧ (Fr.imm0 b ∨ Fr.w0.heap.size ≤ b ∨ Fr.pw b)) : Inv Fr nt S' ⟨e.t, h'⟩ a w :=
  { h with tmps := fun t v ht => let ⟨u, h1, h2⟩ := h.tmps t v ht; ⟨u, h1, h2.keep hS (fun _ _ => rfl)⟩, objs := objs, news := news, wr := wr, dis := dis, imm := imm,
           imm0 := fun b hb => hS.imm b (h.imm0 b hb), own := fun j hj => hS.val _ _ (h.own j hj), glob := h.glob.keep hS (fun _ _ => rfl) }

/-- An object is laid under a name (a new one, or one that stood for nothing any more). -/
theorem Inv.set (h : Inv Fr nt S e a w) {n : Nat} {o : Obj} {v : Value} (hn : S.val n = none ∨ S.val n = some v) (ho : RepO w (S.bind n v) n o)
    (hm : ∀ b, o.mut = true → blk v = some b → ¬ S.imm b ∧ (Fr.w0.heap.size ≤ b ∨ Fr.pw b) ∧ ∀ m p u, m ≠ n → e.h.get m = some p → p.mut = true → S.val m = some u → blk u ≠ some b) :
    Inv Fr nt (S.bind n v) ⟨e.t, e.h.set n o⟩ a w := by
  have hle := St.le_bind hn
  have hv : (S.bind n v).val n = some v := by simp [St.bind]
  have hne : ∀ m, m ≠ n → (S.bind n v).val m = S.val m := fun m hmn => by simp [St.bind, hmn]
  refine h.more hle (fun m p hp => ?_) (fun m hp => ?_) (fun m p u b hp hmu hu hb => ?_) (fun m m' p p' u u' b hmm hp hp' hmu hmu' hu hu' hb => ?_) h.imm
  · rw [AL.get_set] at hp
    split at hp
    · rename_i hmn; subst hmn; cases hp; exact ho
    · exact (h.objs m p hp).keep hle (fun _ _ => rfl) (fun _ _ _ _ _ => rfl)
  · rw [AL.get_set] at hp
    split at hp
    · cases hp
    · rename_i hmn; rw [hne m hmn]; exact h.news m hp
  · rw [AL.get_set] at hp
    split at hp
    · rename_i hmn; subst hmn; cases hp
      rw [hv] at hu; cases hu
      exact ⟨(hm b hmu hb).1, (hm b hmu hb).2.1⟩
    · rename_i hmn; rw [hne m hmn] at hu
      exact h.wr m p u b hp hmu hu hb
  · rw [AL.get_set] at hp hp'
    split at hp
    · rename_i hmn; subst hmn; cases hp
      rw [hv] at hu; cases hu
      rw [if_neg (Ne.symm hmm)] at hp'
      rw [hne m' (Ne.symm hmm)] at hu'
      exact (hm b hmu hb).2.2 m' p' u' (Ne.symm hmm) hp' hmu' hu'
    · rename_i hmn
      rw [hne m hmn] at hu
      split at hp'
      · rename_i hmn'; subst hmn'; cases hp'
        rw [hv] at hu'; cases hu'
        intro hc
        exact (hm b hmu' hc).2.2 m p u hmn hp hmu hu hb
      · rename_i hmn'
        rw [hne m' hmn'] at hu'
        exact h.dis m m' p p' u u' b hmm hp hp' hmu hmu' hu hu' hb

theorem Inv.kill (h : Inv Fr nt S e a w) {n : Nat} {o : Obj} (hn : e.h.get n = some o) : Inv Fr nt S ⟨e.t, e.h.set n .dead⟩ a w := by
  obtain ⟨v, hv⟩ := (h.objs n o hn).val
  have := h.set (o := .dead) (v := v) (.inr hv) ⟨v, by simp [St.bind]⟩ (fun b hm => by cases hm)
  have hS : S.bind n v = S := by
    unfold St.bind; congr 1; funext m; split
    · rename_i e; rw [e, hv]
    · rfl
  rwa [hS] at this

theorem St.bind_same {n : Nat} {v : Value} (hv : S.val n = some v) : S.bind n v = S := by
  unfold St.bind; congr 1; funext m; split
  · rename_i e; rw [e, hv]
  · rfl

theorem RepO.frz_of_lst {n : Nat} {t : TypeId} {k : Kind} {xs : List k.den} (h : RepO w S n (.lst t k xs)) (hk : 0 < k.sz) : ∃ v, S.val n = some v ∧ SlV w (S.froze v).imm k xs v := by
  obtain ⟨v, flat, h1, h2, h3, h4⟩ := h
  refine ⟨v, h1, ?_⟩
  rcases h2.2 with ⟨rfl, h5⟩ | ⟨g, cap, cur, rfl, _, hg, hnc, _, hcs, htake⟩
  · exact ⟨none, 0, 0, rfl, h5.symm, Nat.le_refl _, fun _ => rfl, .inl (List.eq_nil_of_length_eq_zero h5)⟩
  · refine ⟨some ⟨g, 0, none⟩, xs.length, cap, rfl, rfl, hnc, (fun h => by cases h), .inr ⟨g, 0, rfl, .inr rfl, fun i x hx => ?_⟩⟩
    have hlt : i < xs.length := (List.getElem?_eq_some_iff.1 hx).1
    refine (h3 i x hx).keep (fun _ _ => rfl) (fun _ hb => .inl hb) (fun j hj => ?_)
    rw [cell_of_row w g _ cur t (0, 0) hg, ← htake, List.getElem?_take, if_pos (by
      have : (i + 1) * k.sz ≤ xs.length * k.sz := Nat.mul_le_mul_right _ hlt
      rw [Nat.add_mul, Nat.one_mul] at this; omega)]
    simp

theorem Inv.freeze (h : Inv Fr nt S e a w) {n : Nat} {t : TypeId} {k : Kind} {xs : List k.den} (hn : e.h.get n = some (.lst t k xs)) (hk : 0 < k.sz) :
    ∃ v, S.val n = some v ∧ Inv Fr nt (S.froze v) ⟨e.t, e.h.set n (.frz k xs)⟩ a w := by
  obtain ⟨v, hv, hs⟩ := (h.objs n _ hn).frz_of_lst hk
  have hdis : ∀ m p u, m ≠ n → e.h.get m = some p → p.mut = true → S.val m = some u → ∀ b, blk u = some b → blk v ≠ some b := fun m p u hmn hp hmu hu b hb => h.dis m n p (.lst t k xs) u v b hmn hp hn hmu rfl hu hv hb
  refine ⟨v, hv, h.more St.le_froze (fun m p hp => ?_) (fun m hp => ?_) (fun m p u b hp hmu hu hb => ?_) (fun m m' p p' u u' b hmm hp hp' hmu hmu' hu hu' hb => ?_) (fun b hb => ?_)⟩
  · rw [AL.get_set] at hp
    split at hp
    · rename_i hmn; subst hmn; cases hp; exact ⟨v, hv, hs⟩
    · exact (h.objs m p hp).keep St.le_froze (fun _ _ => rfl) (fun _ _ _ _ _ => rfl)
  · rw [AL.get_set] at hp
    split at hp
    · cases hp
    · exact h.news m hp
  · rw [AL.get_set] at hp
    split at hp
    · cases hp; cases hmu
    · rename_i hmn
      have := h.wr m p u b hp hmu hu hb
      exact ⟨fun hc => hc.elim this.1 (hdis m p u hmn hp hmu hu b hb), this.2⟩
  · rw [AL.get_set] at hp hp'
    split at hp
    · cases hp; cases hmu
    · split at hp'
      · cases hp'; cases hmu'
      · exact h.dis m m' p p' u u' b hmm hp hp' hmu hmu' hu hu' hb
  · rcases hb with hb | hb
    · exact h.imm b hb
    · have hw := h.wr n _ v b hn rfl hv hb
      refine ⟨?_, .inr hw.2⟩
      obtain ⟨v', flat, h1, h2, _⟩ := h.objs n _ hn
      rw [hv] at h1; cases h1
      rcases h2.2 with ⟨rfl, _⟩ | ⟨g, cap, cur, rfl, _, hg, _⟩
      · simp [blk] at hb
      · simp only [blk, Option.some.injEq] at hb; subst hb
        exact (Array.getElem?_eq_some_iff.1 hg).1
end
end Go.Eng
