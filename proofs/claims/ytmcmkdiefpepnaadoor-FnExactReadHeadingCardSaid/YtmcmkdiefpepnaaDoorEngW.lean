/-
  The engine: what a law is given, opened: from data that read at a type to the engine's values.
-/
import Derived.Test.YtmcmkdiefpepnaaDoorEngV
import Derived.Deep.Slices
import Derived.Deep.Fields
import Derived.ChangeSame
import Derived.OpenShut
set_option linter.unusedSimpArgs false
set_option linter.unusedVariables false
namespace Go.Eng
open Go.ChangeShapes Go.WideShapes Go.Deep Go.RowKit

def flatK : Kind → Bool
  | .pair _ _ => false
  | _ => true
@[reducible] def denKs : List Kind → Type
  | [] => Unit
  | k :: ks => k.den × denKs ks
def wfK : (k : Kind) → k.den → Prop
  | .int k, n => (Lit.int k n).wf = true
  | .bool, _ => True
  | .str, s => s.size ≤ maxLen
  | .flt, n => canonF n = n ∧ n < 2 ^ 64
  | .sl k, xs => xs.length ≤ maxLen ∧ ∀ x ∈ xs, wfK k x
  | .pair a b, x => wfK a x.1 ∧ wfK b x.2
def wfKs : (ks : List Kind) → denKs ks → Prop
  | [], _ => True
  | k :: ks, x => wfK k x.1 ∧ wfKs ks x.2
def RepKs (w : World) (imm : Nat → Prop) : (ks : List Kind) → denKs ks → List Value → Prop
  | [], _, [] => True
  | k :: ks, x, c :: cs => RepK w imm k x.1 (fun _ => some c) ∧ RepKs w imm ks x.2 cs
  | _, _, _ => False
def convK : (k : Kind) → (ks : List Kind) → denKs (k :: ks) → (kindsOf.join k ks).den
  | _, [], x => x.1
  | _, l :: ks, x => (x.1, convK l ks x.2)

theorem RepKs.length {w : World} {imm : Nat → Prop} : ∀ {ks : List Kind} {x : denKs ks} {cs : List Value}, RepKs w imm ks x cs → cs.length = ks.length
  | [], _, [], _ => rfl
  | [], _, _ :: _, h => h.elim
  | _ :: _, _, [], h => h.elim
  | k :: ks, x, c :: cs, h => by simp [RepKs.length h.2]
theorem RepKs.append {w : World} {imm : Nat → Prop} : ∀ {ks ls : List Kind} {x : denKs ks} {y : denKs ls} {cs ds : List Value}, RepKs w imm ks x cs → RepKs w imm ls y ds → wfKs ks x → wfKs ls y → ∃ z : denKs (ks ++ ls), RepKs w imm (ks ++ ls) z (cs ++ ds) ∧ wfKs (ks ++ ls) z
  | [], ls, _, y, [], ds, _, h2, _, w2 => ⟨y, h2, w2⟩
  | [], _, _, _, _ :: _, _, h, _, _, _ => h.elim
  | _ :: _, _, _, _, [], _, h, _, _, _ => h.elim
  | k :: ks, ls, x, y, c :: cs, ds, h, h2, w1, w2 => by
    obtain ⟨z, h3, w3⟩ := RepKs.append h.2 h2 w1.2 w2
    exact ⟨(x.1, z), ⟨h.1, h3⟩, w1.1, w3⟩
theorem repK_flat {w : World} {imm : Nat → Prop} {k : Kind} (hk : flatK k = true) {x : k.den} {f g : Nat → Option Value} (hfg : f 0 = g 0) (h : RepK w imm k x f) : RepK w imm k x g := by
  cases k with
  | pair a b => cases hk
  | int k => exact hfg.symm.trans h
  | bool => exact hfg.symm.trans h
  | str => exact hfg.symm.trans h
  | flt => obtain ⟨b, h1, h2⟩ := h; exact ⟨b, hfg.symm.trans h1, h2⟩
  | sl k => obtain ⟨a, len, cap, h1, h2⟩ := h; exact ⟨a, len, cap, hfg.symm.trans h1, h2⟩
theorem flatK_sz {k : Kind} (h : flatK k = true) : k.sz = 1 := by cases k <;> first | rfl | cases h
theorem join_sz : ∀ {ks : List Kind} {k : Kind}, (∀ l ∈ k :: ks, flatK l = true) → (kindsOf.join k ks).sz = ks.length + 1
  | [], k, h => flatK_sz (h k (by simp))
  | l :: ks, k, h => by
    show k.sz + (kindsOf.join l ks).sz = _
    rw [flatK_sz (h k (by simp)), join_sz fun m hm => h m (by simp only [List.mem_cons] at hm ⊢; exact .inr hm)]
    simp; omega
theorem join_rep {w : World} {imm : Nat → Prop} : ∀ {ks : List Kind} {k : Kind} {x : denKs (k :: ks)} {cs : List Value} {f : Nat → Option Value}, (∀ l ∈ k :: ks, flatK l = true) → RepKs w imm (k :: ks) x cs → (∀ j, j < cs.length → f j = cs[j]?) → RepK w imm (kindsOf.join k ks) (convK k ks x) f
  | [], k, x, [c], f, h, hr, hf => repK_flat (h k (by simp)) (by rw [hf 0 (by simp)]; rfl) hr.1
  | [], k, x, c :: _ :: _, f, h, hr, hf => hr.2.elim
  | _, _, _, [], _, _, hr, _ => hr.elim
  | l :: ks, k, x, c :: cs, f, h, hr, hf => by
    refine ⟨repK_flat (h k (by simp)) (by rw [hf 0 (by simp)]; rfl) hr.1, ?_⟩
    refine join_rep (fun m hm => h m (by simp only [List.mem_cons] at hm ⊢; exact .inr hm)) hr.2 fun j hj => ?_
    rw [flatK_sz (h k (by simp)), hf (1 + j) (by simp; omega), Nat.add_comm 1 j]
    rfl
theorem join_wf : ∀ {ks : List Kind} {k : Kind} {x : denKs (k :: ks)}, wfKs (k :: ks) x → wfK (kindsOf.join k ks) (convK k ks x)
  | [], _, _, h => h.1
  | l :: ks, _, _, h => ⟨h.1, join_wf h.2⟩

/-- How many cells, by the kinds. -/
def kn (P : Program) (d : Nat) (t : TypeId) : Nat := match kindsOf P d t with
  | some l => l.length
  | none => 0
def lineFs (P : Program) (d : Nat) (ok : TypeId → Bool) : List Field → Nat → Bool
  | [], _ => true
  | f :: fs, o => Nat.beq f.offset o && ok f.type && Nat.beq (P.cellsOf f.type) (kn P d f.type) && lineFs P d ok fs (o + kn P d f.type)
/-- The parts of a type lie in line. -/
def lineOk (P : Program) : Nat → TypeId → Bool
  | 0, _ => false
  | d + 1, t => match P.underlying t with
    | some (.slice e) => lineOk P d e && Nat.beq (P.cellsOf e) (kn P d e)
    | some (.struct fs) => lineFs P d (lineOk P d) fs.toList 0 && Nat.beq (P.cellsOf t) (kn P (d + 1) t)
    | some (.array _ e) => lineOk P d e && Nat.beq (P.cellsOf e) (kn P d e) && Nat.beq (P.cellsOf t) (kn P (d + 1) t)
    | _ => true

theorem kinds_flat {P : Program} : ∀ {d : Nat} {t : TypeId} {ks : List Kind}, kindsOf P d t = some ks → ∀ k ∈ ks, flatK k = true
  | 0, _, _, h => by cases h
  | d + 1, t, ks, h => by
    simp only [kindsOf] at h
    split at h
    · cases h; simp [flatK]
    · cases h; simp [flatK]
    · cases h; simp [flatK]
    · cases h; simp [flatK]
    · split at h
      · cases h; simp [flatK]
      · cases h
    · rename_i fs _
      have key : ∀ (l : List Field) (ks : List Kind), l.foldr (fun f r => match kindsOf P d f.type, r with
          | some a, some b => some (a ++ b)
          | _, _ => none) (some []) = some ks → ∀ k ∈ ks, flatK k = true := by
        intro l
        induction l with
        | nil => intro ks h; simp only [List.foldr_nil, Option.some.injEq] at h; subst h; simp
        | cons f l ih =>
          intro ks h
          simp only [List.foldr_cons] at h
          split at h
          · rename_i a b ha hb
            simp only [Option.some.injEq] at h
            subst h
            intro k hk
            rcases List.mem_append.1 hk with hk | hk
            · exact kinds_flat ha k hk
            · exact ih b hb k hk
          · cases h
      exact key _ _ h
    · split at h
      · rename_i a ha
        simp only [Option.some.injEq] at h
        subst h
        intro k hk
        simp only [List.mem_flatten] at hk
        obtain ⟨l, hl, hk⟩ := hk
        rw [List.eq_of_mem_replicate hl] at hk
        exact kinds_flat ha k hk
      · cases h
    · cases h
end Go.Eng
namespace Go.Eng
open Go.ChangeShapes Go.WideShapes Go.Deep Go.RowKit
section
variable {H : Type} {enc : TypeId × Value → H} {P : Program} {w : World} {base : Nat} {spare : Nat → Bool} {held : Bool}

theorem trod_flt {fuel : Nat} {t : TypeId} {cs : List Value} {x : DataW H × List MemPlace} (ht : P.underlying t = some (.float .f64)) (h : DataW.trod enc P w base spare held fuel t cs = some x) : ∃ b, cs = [.float .f64 b] ∧ b < 2 ^ 64 := by
  cases fuel with
  | zero => simp [DataW.trod] at h
  | succ n =>
    unfold DataW.trod at h
    rw [ht] at h
    split at h <;> simp_all
    rename_i k k' b hk
    obtain ⟨⟨_, h2⟩, _⟩ := h
    subst hk
    simpa [Lit.wf] using h2
theorem canonF_lt {b : Nat} (h : b < 2 ^ 64) : canonF b < 2 ^ 64 := by
  rcases canon_cases b with ⟨_, h2⟩ | ⟨_, h2⟩ <;> rw [h2] <;> omega
theorem cell_lt {a : Addr} {v : Value} (h : w.cell? a = some v) : a.block < w.heap.size ∧ a.spot = none := by
  unfold World.cell? at h
  cases hb : w.heap[a.block]? with
  | none => rw [hb] at h; cases h
  | some o =>
    rw [hb] at h
    refine ⟨(Array.getElem?_eq_some_iff.1 hb).1, ?_⟩
    cases o with
    | cells c t f =>
      simp only at h
      cases hs : a.spot with
      | none => rfl
      | some n => rw [hs] at h; simp at h
    | _ => cases h

theorem choose_n {α : Type} (p : Nat → α → Prop) (n : Nat) (h : ∀ i, i < n → ∃ a, p i a) : ∃ l : List α, l.length = n ∧ ∀ i a, l[i]? = some a → p i a := by
  induction n with
  | zero => exact ⟨[], rfl, fun i a h => by simp at h⟩
  | succ n ih =>
    obtain ⟨l, hl, hp⟩ := ih (fun i hi => h i (by omega))
    obtain ⟨a, ha⟩ := h n (by omega)
    refine ⟨l ++ [a], by simp [hl], fun i b hb => ?_⟩
    by_cases hi : i < n
    · exact hp i b (by rw [List.getElem?_append_left (by omega)] at hb; exact hb)
    · have hlt : i < (l ++ [a]).length := (List.getElem?_eq_some_iff.1 hb).1
      obtain rfl : i = n := by simp [hl] at hlt; omega
      rw [← hl, List.getElem?_concat_length] at hb
      cases hb
      exact ha

/-- **Whatever reads at a type, is a value of its kinds.** -/
theorem open_kinds : ∀ {d : Nat} {t : TypeId} {ks : List Kind}, kindsOf P d t = some ks → lineOk P d t = true → ∀ {fuel : Nat} {cs : List Value} {x : DataW H × List MemPlace}, DataW.trod enc P w base spare held fuel t cs = some x →
    ∃ z : denKs ks, RepKs w (fun b => b < w.heap.size) ks z cs ∧ wfKs ks z
  | 0, _, _, h, _, _, _, _, _ => by cases h
  | d + 1, t, ks, h, hl, fuel, cs, x, hx => by
    simp only [kindsOf] at h
    cases hu : P.underlying t with
    | none => rw [hu] at h; cases h
    | some ty =>
      cases ty with
      | bool =>
        rw [hu] at h; cases h
        obtain ⟨b, rfl, _⟩ := DataW.trod_bool hu hx
        exact ⟨(b, ()), ⟨rfl, trivial⟩, trivial, trivial⟩
      | int k =>
        rw [hu] at h; cases h
        obtain ⟨n, rfl, _, hw⟩ := DataW.trod_int hu hx
        exact ⟨(n, ()), ⟨rfl, trivial⟩, hw, trivial⟩
      | string =>
        rw [hu] at h; cases h
        obtain ⟨s, rfl, _, hs⟩ := DataW.trod_string hu hx
        exact ⟨(s, ()), ⟨rfl, trivial⟩, hs, trivial⟩
      | slice e =>
        rw [hu] at h
        simp only at h
        cases hk : kindsOf P d e with
        | none => rw [hk] at h; cases h
        | some l =>
          rw [hk] at h
          cases l with
          | nil => cases h
          | cons k0 k1 =>
            simp only [Option.some.injEq] at h
            subst h
            simp only [lineOk, hu, Bool.and_eq_true, kn, hk] at hl
            have hce : P.cellsOf e = k1.length + 1 := beq_iff.1 hl.2
            have hfl := kinds_flat hk
            rcases open_slice hu hx with ⟨rfl, _⟩ | ⟨a, len, cap, m, n, D, Pl, rfl, _, hlc, hm, hmm, _, hi⟩
            · exact ⟨([], ()), ⟨⟨none, 0, 0, rfl, rfl, Nat.le_refl _, fun _ => rfl, .inl rfl⟩, trivial⟩, ⟨by simp, fun x hx => by cases hx⟩, trivial⟩
            · have hlm : len ≤ m := by rw [hmm]; split <;> omega
              obtain ⟨xs, hxl, hp⟩ := choose_n (fun i (z : denKs (k0 :: k1)) => ∃ c, w.cells? base (a.add (i * P.cellsOf e)) (P.cellsOf e) = some c ∧ RepKs w (fun b => b < w.heap.size) (k0 :: k1) z c ∧ wfKs (k0 :: k1) z) len (fun i hi' => by
                obtain ⟨c, h1, h2⟩ := hi i (by omega)
                obtain ⟨z, h3, h4⟩ := open_kinds hk hl.1 h2
                exact ⟨z, c, h1, h3, h4⟩)
              refine ⟨(xs.map (convK k0 k1), ()), ⟨⟨some a, len, cap, rfl, by simp [hxl], by omega, (fun hc => by cases hc), ?_⟩, trivial⟩, ⟨by simp [hxl]; omega, fun y hy => ?_⟩, trivial⟩
              · cases hxs : xs with
                | nil => left; rfl
                | cons z0 zs =>
                  right
                  have h0 : xs[0]? = some z0 := by rw [hxs]; rfl
                  obtain ⟨c0, g1, g2, _⟩ := hp 0 z0 h0
                  obtain ⟨_, g3, g4⟩ := World.cells?_some g1
                  have hlen0 := g2.length
                  have hc0 := g4 0 (by omega)
                  have ha0 : (a.add (0 * P.cellsOf e)).add 0 = a := by simp [Addr.add]
                  rw [ha0] at hc0
                  cases hcc : c0[0]? with
                  | none => rw [List.getElem?_eq_none_iff] at hcc; simp at hlen0; omega
                  | some v0 =>
                    rw [hcc] at hc0
                    obtain ⟨hlt, hsp⟩ := cell_lt hc0
                    refine ⟨a.block, a.off, by cases a; simp at hsp; simp [hsp], hlt, fun i y hy => ?_⟩
                    rw [← hxs, List.getElem?_map] at hy
                    cases hz : xs[i]? with
                    | none => rw [hz] at hy; cases hy
                    | some z =>
                      rw [hz] at hy
                      obtain rfl : convK k0 k1 z = y := Option.some.inj hy
                      obtain ⟨c, q1, q2, _⟩ := hp i z hz
                      obtain ⟨_, q3, q4⟩ := World.cells?_some q1
                      refine join_rep hfl q2 fun j hj => ?_
                      have := q4 j (by omega)
                      rw [Go.Deep.add_add] at this
                      rw [← this, join_sz hfl, hce]
                      congr 1
                      cases a with
                      | mk b o s =>
                        simp at hsp
                        subst hsp
                        simp only [Addr.add]
                        split
                        · rename_i h0'; first | (simp; done) | (simp; omega)
                        · first | (simp; done) | (simp; omega)
              · obtain ⟨z, hz, rfl⟩ := List.mem_map.1 hy
                obtain ⟨i, hi'⟩ := List.getElem?_of_mem hz
                obtain ⟨_, _, _, h4⟩ := hp i z hi'
                exact join_wf h4
      | struct fs =>
        rw [hu] at h
        simp only at h
        simp only [lineOk, hu, Bool.and_eq_true] at hl
        obtain ⟨xs, n, _, _, hlen, hxl, hf⟩ := DataW.trod_struct hu hx
        have key : ∀ (l : List Field) (o : Nat) (ks : List Kind), lineFs P d (lineOk P d) l o = true → (l.foldr (fun f r => match kindsOf P d f.type, r with
            | some a, some b => some (a ++ b)
            | _, _ => none) (some [])) = some ks → (∀ f ∈ l, ∃ y, DataW.trod enc P w base spare held n f.type ((cs.drop f.offset).take (P.cellsOf f.type)) = some y) → o + ks.length ≤ cs.length →
            ∃ z : denKs ks, RepKs w (fun b => b < w.heap.size) ks z ((cs.drop o).take ks.length) ∧ wfKs ks z := by
          intro l
          induction l with
          | nil =>
            intro o ks _ h _ _
            simp only [List.foldr_nil, Option.some.injEq] at h
            subst h
            exact ⟨(), by simp [RepKs], trivial⟩
          | cons f l ih =>
            intro o ks hline h hy hle
            simp only [List.foldr_cons] at h
            split at h
            · rename_i ka kb ha hb
              simp only [Option.some.injEq] at h
              subst h
              simp only [lineFs, Bool.and_eq_true, kn, ha] at hline
              obtain ⟨⟨⟨l1, l2⟩, l3⟩, l4⟩ := hline
              have l1 := beq_iff.1 l1
              have l3 := beq_iff.1 l3
              simp only [List.length_append] at hle
              obtain ⟨y, hy0⟩ := hy f (by simp)
              obtain ⟨z1, r1, w1⟩ := open_kinds ha l2 hy0
              obtain ⟨z2, r2, w2⟩ := ih (o + ka.length) kb l4 hb (fun g hg => hy g (by simp [hg])) (by omega)
              rw [l1, l3] at r1
              obtain ⟨z, r, wz⟩ := r1.append r2 w1 w2
              refine ⟨z, ?_, wz⟩
              rw [List.length_append, List.take_add, List.drop_drop]
              exact r
            · cases h
        have hkn : ks.length = P.cellsOf t := by
          have := beq_iff.1 hl.2
          rw [this]
          simp only [kn, kindsOf, hu, h]
        obtain ⟨z, r, wz⟩ := key fs.toList 0 ks hl.1 h (fun f hm => by
          obtain ⟨i, hi⟩ := List.getElem?_of_mem hm
          have hi' : fs[i]? = some f := by simpa using hi
          have hlt : i < xs.length := by rw [hxl]; exact (Array.getElem?_eq_some_iff.1 hi').1
          exact ⟨xs[i], (hf i f hi').trans (List.getElem?_eq_getElem hlt)⟩) (by omega)
        refine ⟨z, ?_, wz⟩
        rw [List.drop_zero, List.take_of_length_le (by omega)] at r
        exact r
      | array n e =>
        rw [hu] at h
        simp only at h
        cases hk : kindsOf P d e with
        | none => rw [hk] at h; cases h
        | some a =>
          rw [hk] at h
          simp only [Option.some.injEq] at h
          simp only [lineOk, hu, Bool.and_eq_true, kn, hk] at hl
          have hce : P.cellsOf e = a.length := beq_iff.1 hl.1.2
          have hct : P.cellsOf t = ks.length := by
            have := beq_iff.1 hl.2
            rw [this]; simp only [kindsOf, hu, hk, h]
          obtain ⟨xs, m, _, _, hlen, hxl, hel⟩ := DataW.trod_array hu hx
          have key : ∀ (i : Nat) (l : List (List Value)), l.length = i → (∀ c ∈ l, ∃ z : denKs a, RepKs w (fun b => b < w.heap.size) a z c ∧ wfKs a z) → ∃ z : denKs (List.replicate i a).flatten, RepKs w (fun b => b < w.heap.size) (List.replicate i a).flatten z l.flatten ∧ wfKs (List.replicate i a).flatten z := by
            intro i
            induction i with
            | zero => intro l hl _; cases l with
              | nil => exact ⟨(), trivial, trivial⟩
              | cons _ _ => cases hl
            | succ i ih =>
              intro l hl hc
              cases l with
              | nil => cases hl
              | cons c l =>
                obtain ⟨z1, r1, w1⟩ := hc c (by simp)
                obtain ⟨z2, r2, w2⟩ := ih l (by simpa using hl) (fun c' hc' => hc c' (by simp [hc']))
                simp only [List.replicate_succ, List.flatten_cons]
                exact r1.append r2 w1 w2
          subst h
          have hcl : cs.length = n * a.length := by rw [hlen, hct]; simp [List.length_flatten]
          have hsplit : ∀ (i : Nat) (cs : List Value), cs.length = i * a.length → cs = ((List.range i).map fun j => (cs.drop (j * a.length)).take a.length).flatten := by
            intro i
            induction i with
            | zero => intro cs h; simp at h; subst h; rfl
            | succ i ih =>
              intro cs h
              have h1 := ih (cs.drop a.length) (by rw [List.length_drop, h, Nat.add_mul, Nat.one_mul]; omega)
              rw [List.range_succ_eq_map]
              simp only [List.map_cons, List.map_map, List.flatten_cons, Nat.zero_mul, List.drop_zero]
              conv => lhs; rw [← List.take_append_drop a.length cs, h1]
              congr 2
              apply List.map_congr_left
              intro j _
              simp only [Function.comp, List.drop_drop]
              congr 2
              rw [Nat.succ_mul]; omega
          rw [hsplit n cs hcl]
          refine key n _ (by simp) fun c hc => ?_
          obtain ⟨j, hj, rfl⟩ := List.mem_map.1 hc
          have hj' : j < n := by simpa using hj
          have h3 := hel j hj'
          rw [hce] at h3
          exact open_kinds hk hl.1.1 (h3.trans (List.getElem?_eq_getElem (by omega)))
      | float k =>
        cases k with
        | f32 => rw [hu] at h; cases h
        | f64 =>
          rw [hu] at h; cases h
          obtain ⟨b, rfl, hb⟩ := trod_flt hu hx
          exact ⟨(canonF b, ()), ⟨⟨b, rfl, rfl⟩, trivial⟩, ⟨canonF_idem b, canonF_lt hb⟩, trivial⟩
      | _ => rw [hu] at h; cases h
end
end Go.Eng
