/-
  Part of a proof by the engine: texts that a program of ours printed, or plain lemmas on them. No condition but what each theorem says.
-/
import Derived.Test.YtgkejafaggaocaaDE
import Derived.Test.YtgkejafaggaocaaPOPlain
import Derived.Test.YtgkejafaggaocaaFT
set_option linter.unusedVariables false
set_option linter.unusedSimpArgs false
namespace Go.Proofs.Ytgkejafaggaocaa.DE
open Go Go.Eng Go.TB Go.FT Go.Proofs.Ytgkejafaggaocaa.EX Go.Proofs.Ytgkejafaggaocaa.PO
theorem take_loop {data : List Int} (hd : data.length ≤ 2000000) (hb : ∀ x ∈ data, 0 ≤ x ∧ x ≤ 255) (p : Nat) : ∀ (m j : Nat), j + m ≤ 32 → p + j + m ≤ 8 * data.length →
    Ev (fun k => impl_bits_take_L4 k (m : Int) (numF (bitAt data) p j) data ((p + j : Nat) : Int)) (numF (bitAt data) p (j + m), true, data, ((p + j + m : Nat) : Int))
  | 0, j, h1, h2 => by
    apply ev_succ
    simp only [impl_bits_take_L4, show ¬ (((0 : Nat) : Int) > 0) by omega, decide_false, cond_false]
    exact ev_now _
  | m + 1, j, h1, h2 => by
    have ih := take_loop hd hb p m (j + 1) (by omega) (by omega)
    generalize hq : p + j = q at *
    have hn : q / 8 < data.length := by omega
    have e1 : IntKind.i64.wrap ((q : Int).tdiv 8) = ((q / 8 : Nat) : Int) := by rw [Int.tdiv_eq_ediv_of_nonneg (by omega), w64 (by omega) (by omega)]; omega
    have e2 : (q : Int).tmod 8 = ((q % 8 : Nat) : Int) := by rw [Int.tmod_eq_emod_of_nonneg (by omega)]; omega
    have e3 : IntKind.i64.wrap (7 - ((q % 8 : Nat) : Int)) = ((7 - q % 8 : Nat) : Int) := by rw [w64 (by omega) (by omega)]; omega
    have e4 : rd (.int .u8) data ((q / 8 : Nat) : Int) = data[q / 8] := rd_nat hn
    have e5 : min (7 - q % 8) IntKind.u8.bits = 7 - q % 8 := by have : IntKind.u8.bits = 8 := rfl; omega
    have e6 : (data[q / 8] / ((2 ^ (7 - q % 8) : Nat) : Int)) % 2 = bitAt data q := by
      unfold bitAt
      rw [List.getD_eq_getElem?_getD, List.getElem?_eq_getElem hn, Option.getD_some]
    have hbit := bitAt_bit data q
    have hv := numF_small (bitAt_bit data) p (w := j) (by omega)
    have e7 : min (Int.toNat 1) IntKind.u64.bits = 1 := rfl
    have e8 : IntKind.u64.wrap (numF (bitAt data) p j * 2 ^ 1) = numF (bitAt data) p j * 2 := by
      rw [show (2 : Int) ^ 1 = 2 by decide, wu64 (by omega) (by omega)]
    have e9 : IntKind.u64.wrap (IntKind.u8.wrap (bitAt data q)) = bitAt data q := by rw [wu8 (by omega) (by omega), wu64 (by omega) (by omega)]
    have e10 : IntKind.u64.wrap ((((BitVec.ofInt IntKind.u64.bits (numF (bitAt data) p j * 2) ||| BitVec.ofInt IntKind.u64.bits (bitAt data q)).toNat : Nat) : Int)) = numF (bitAt data) p (j + 1) := by
      have := or_bit (v := numF (bitAt data) p j) (b := bitAt data q) (by omega) (by omega) hbit
      have e0 : numF (bitAt data) p (j + 1) = numF (bitAt data) p j * 2 + bitAt data q := by rw [← hq]; rfl
      rw [e0]
      refine (congrArg IntKind.u64.wrap this).trans ?_
      rw [wu64 (by omega) (by omega)]
    have e11 : IntKind.i64.wrap (((m + 1 : Nat) : Int) - 1) = (m : Int) := by rw [w64 (by omega) (by omega)]; omega
    have e12 : IntKind.i64.wrap ((q : Int) + 1) = ((p + (j + 1) : Nat) : Int) := by rw [w64 (by omega) (by omega)]; omega
    apply ev_succ
    simp only [impl_bits_take_L4, e1, e2, e3, e4, Int.toNat_natCast, e5, fdiv_pow, and8, e6, e7, e8, e9, e10, e11, e12, show ((m + 1 : Nat) : Int) > 0 by omega, show (0 : Int) ≤ ((q / 8 : Nat) : Int) by omega, show ((q / 8 : Nat) : Int) < (data.length : Int) by omega, show (0 : Int) ≤ ((7 - q % 8 : Nat) : Int) by omega, decide_true, cond_true]
    refine ev_eq ih ?_
    rw [show j + 1 + m = j + (m + 1) by omega, show p + (j + 1) + m = q + (m + 1) by omega]
theorem take_yes {data : List Int} (hd : data.length ≤ 2000000) (hb : ∀ x ∈ data, 0 ≤ x ∧ x ≤ 255) {p w : Nat} (hw : w ≤ 32) (h : p + w ≤ 8 * data.length) :
    impl_bits_take (w : Int) data (p : Int) = some (numF (bitAt data) p w, true, data, ((p + w : Nat) : Int)) := by
  refine evF_eq ?_
  unfold impl_bits_take_F
  have e1 : IntKind.i64.wrap ((p : Int) + (w : Int)) = ((p + w : Nat) : Int) := by rw [w64 (by omega) (by omega)]; omega
  have e2 : IntKind.i64.wrap (8 * (data.length : Int)) = 8 * (data.length : Int) := w64 (by omega) (by omega)
  have := take_loop hd hb p w 0 (by omega) (by omega)
  simp only [e1, e2, show ¬ (((p + w : Nat) : Int) > 8 * (data.length : Int)) by omega, decide_false, cond_false]
  refine ev_eq this ?_
  rw [Nat.zero_add, Nat.add_zero]
theorem take_no {data : List Int} (hd : data.length ≤ 2000000) {p w : Nat} (hp : p ≤ 1000000) (hw : w ≤ 32) (h : ¬ p + w ≤ 8 * data.length) : impl_bits_take (w : Int) data (p : Int) = some (0, false, data, (p : Int)) := by
  refine evF_eq ?_
  unfold impl_bits_take_F
  have e1 : IntKind.i64.wrap ((p : Int) + (w : Int)) = ((p + w : Nat) : Int) := by rw [w64 (by omega) (by omega)]; omega
  have e2 : IntKind.i64.wrap (8 * (data.length : Int)) = 8 * (data.length : Int) := w64 (by omega) (by omega)
  simp only [e1, e2, show (((p + w : Nat) : Int) > 8 * (data.length : Int)) by omega, decide_true, cond_true]
  exact ev_now _
/-- A list of bits that says the same as a function, as far as it goes. -/
def Says (b : List Int) (f : Nat → Int) : Prop := ∀ q, q < b.length → b.getD q 0 = f q
theorem get_loop {b : List Int} {f : Nat → Int} (hf : ∀ q, f q = 0 ∨ f q = 1) (hs : Says b f) (hl : b.length ≤ 2000000) (t : LE) (rs : Bool) (c1 c2 c3 c4 : Int) (sp : List (Bool × El)) (vs : List Nat) (p : Nat) : ∀ (m j : Nat), j + m ≤ 32 → p + j + m ≤ b.length →
    Ev (fun k => spec_l7Walk_get_L3 k ((j + m : Nat) : Int) (numF f p j) (j : Int) t b rs ((p + j : Nat) : Int) c1 c2 c3 c4 sp vs) (numF f p (j + m), t, b, rs, ((p + j + m : Nat) : Int), c1, c2, c3, c4, sp, vs)
  | 0, j, h1, h2 => by
    apply ev_succ
    simp only [spec_l7Walk_get_L3, show ¬ ((j : Int) < ((j + 0 : Nat) : Int)) by omega, decide_false, cond_false]
    exact ev_now _
  | m + 1, j, h1, h2 => by
    have ih := get_loop hf hs hl t rs c1 c2 c3 c4 sp vs p m (j + 1) (by omega) (by omega)
    have hn : p + j < b.length := by omega
    have e4 : rd (.int .u8) b ((p + j : Nat) : Int) = f (p + j) := by
      rw [rd_nat hn, ← hs _ hn, List.getD_eq_getElem?_getD, List.getElem?_eq_getElem hn, Option.getD_some]
    have hbit := hf (p + j)
    have hv := numF_small hf p (w := j) (by omega)
    have e5 : IntKind.i64.wrap (IntKind.i64.wrap (numF f p j * 2) + IntKind.i64.wrap (f (p + j))) = numF f p (j + 1) := by
      rw [w64 (n := f (p + j)) (by omega) (by omega), w64 (n := numF f p j * 2) (by omega) (by omega), w64 (by omega) (by omega)]; rfl
    have e6 : IntKind.i64.wrap (((p + j : Nat) : Int) + 1) = ((p + (j + 1) : Nat) : Int) := by rw [w64 (by omega) (by omega)]; omega
    apply ev_succ
    simp only [spec_l7Walk_get_L3, e4, e5, e6, show (j : Int) < ((j + (m + 1) : Nat) : Int) by omega, show (0 : Int) ≤ ((p + j : Nat) : Int) by omega, show ((p + j : Nat) : Int) < (b.length : Int) by omega, decide_true, cond_true, wsucc (show j < 9223372036854775807 by omega)]
    rw [show j + (m + 1) = j + 1 + m by omega, show p + j + (m + 1) = p + (j + 1) + m by omega]
    exact ih
theorem get_eq {b : List Int} {f : Nat → Int} (hf : ∀ q, f q = 0 ∨ f q = 1) (hs : Says b f) (hl : b.length ≤ 2000000) (t : LE) (rs : Bool) (c1 c2 c3 c4 : Int) (sp : List (Bool × El)) (vs : List Nat) {p w : Nat} (hw : w ≤ 32) (h : p + w ≤ b.length) :
    spec_l7Walk_get (w : Int) t b rs (p : Int) c1 c2 c3 c4 sp vs = some (numF f p w, t, b, rs, ((p + w : Nat) : Int), c1, c2, c3, c4, sp, vs) := by
  have := get_loop hf hs hl t rs c1 c2 c3 c4 sp vs p w 0 (by omega) (by omega)
  rw [Nat.zero_add, Nat.add_zero] at this
  exact evF_eq this
/-! ### the device that reads -/
def decDev (f : Nat → Int) (N : Nat) : Dev (Nat × List Nat) where
  cnt q := if q.1 + 8 ≤ N then .ok ((numF f q.1 8).toNat, (q.1 + 8, q.2 ++ [fofi (numF f q.1 8)])) else .error 3
  val e q := if q.1 + e.2.1.toNat ≤ N then .ok (q.1 + e.2.1.toNat, q.2 ++ [valV e.2.1.toNat e.2.2.1 e.2.2.2 (numF f q.1 e.2.1.toNat)]) else .error 3
def DI (n : Nat) (q : Nat × List Nat) : Prop := q.1 ≤ 32 * n ∧ q.2.length ≤ n
theorem elOk_iff {e : El} : elOk e = true ↔ (1 ≤ e.2.1 ∧ e.2.1 ≤ 32) ∧ (-10 ≤ e.2.2.1 ∧ e.2.2.1 ≤ 10) := by
  unfold elOk; simp [Bool.and_eq_true]
theorem dec_keeps {f : Nat → Int} (hf : ∀ q, f q = 0 ∨ f q = 1) (N : Nat) : Keeps (decDev f N) DI where
  next := fun h => ⟨by have := h.1; omega, by have := h.2; omega⟩
  cnt := fun {n q y q'} hn h e => by
    unfold decDev at e
    simp only at e
    split at e
    · cases e
      have := numF_lt hf q.1 8
      have h8 : ((2 ^ 8 : Nat) : Int) = 256 := by decide
      refine ⟨⟨?_, ?_⟩, by omega⟩
      · have := h.1; simp only; omega
      · have := h.2; simp only [List.length_append, List.length_singleton]; omega
    · cases e
  val := fun {n e q q'} hn h he hh => by
    unfold decDev at hh
    simp only at hh
    have := elOk_iff.1 he
    split at hh
    · cases hh
      refine ⟨?_, ?_⟩
      · have := h.1; simp only; omega
      · have := h.2; simp only [List.length_append, List.length_singleton]; omega
    · cases hh
end Go.Proofs.Ytgkejafaggaocaa.DE

namespace Go.Proofs.Ytgkejafaggaocaa.DE
open Go Go.Eng Go.TB Go.FT Go.Proofs.Ytgkejafaggaocaa.EX Go.Proofs.Ytgkejafaggaocaa.PO
structure DataOk (data : List Int) : Prop where
  len : data.length ≤ 2000000
  byte : ∀ x ∈ data, 0 ≤ x ∧ x ≤ 255
def NN (data : List Int) : Nat := 8 * min data.length 20008
abbrev dev (data : List Int) : Dev (Nat × List Nat) := decDev (bitAt data) (NN data)
abbrev TR := Int × LE × Int × Int × Int × List Int × Int × List Nat
def Out (t : LE) (data : List Int) (y : TR) : Except Int (St (Nat × List Nat)) → Prop
  | .ok s => y = (0, t, (s.1 : Int), s.2.1, s.2.2.1, data, (s.2.2.2.1 : Int), s.2.2.2.2)
  | .error e => y.1 = e ∧ e ≠ 0
theorem max8 : 100000 ≤ maxBytes / 8 := by decide
theorem nn_iff {data : List Int} {p w n : Nat} (hp : p ≤ 32 * n) (hn : n < 5000) (hw : w ≤ 32) : p + w ≤ NN data ↔ p + w ≤ 8 * data.length := by
  unfold NN; omega
theorem cnt_yes {f : Nat → Int} {N : Nat} {q : Nat × List Nat} (h : q.1 + 8 ≤ N) : (decDev f N).cnt q = .ok ((numF f q.1 8).toNat, (q.1 + 8, q.2 ++ [fofi (numF f q.1 8)])) := if_pos h
theorem cnt_no {f : Nat → Int} {N : Nat} {q : Nat × List Nat} (h : ¬ q.1 + 8 ≤ N) : (decDev f N).cnt q = .error 3 := if_neg h
theorem val_yes {f : Nat → Int} {N w : Nat} {q : Nat × List Nat} {e : El} (hw : e.2.1 = (w : Int)) (h : q.1 + w ≤ N) : (decDev f N).val e q = .ok (q.1 + w, q.2 ++ [valV w e.2.2.1 e.2.2.2 (numF f q.1 w)]) := by
  have e1 : e.2.1.toNat = w := by rw [hw]; rfl
  unfold decDev
  simp only [e1, h, if_true]
theorem val_no {f : Nat → Int} {N w : Nat} {q : Nat × List Nat} {e : El} (hw : e.2.1 = (w : Int)) (h : ¬ q.1 + w ≤ N) : (decDev f N).val e q = .error 3 := by
  have e1 : e.2.1.toNat = w := by rw [hw]; rfl
  unfold decDev
  simp only [e1, h, if_false]
theorem d1 {data : List Int} (D : DataOk data) {n : Nat} {q : Nat × List Nat} (hn : n < 5000) (h : DI n q) :
    (∃ y q', (dev data).cnt q = .ok (y, q') ∧ impl_Decode_1 data (q.1 : Int) q.2 = some ((y : Int), 0, data, (q'.1 : Int), q'.2)) ∨ ((dev data).cnt q = .error 3 ∧ impl_Decode_1 data (q.1 : Int) q.2 = some (0, 3, data, (q.1 : Int), q.2)) := by
  have hm := max8
  have hi := nn_iff (data := data) (w := 8) h.1 hn (by omega)
  have h1 := h.1
  have h2 := h.2
  unfold impl_Decode_1
  by_cases hc : q.1 + 8 ≤ NN data
  · left
    have ht := take_yes D.len D.byte (p := q.1) (w := 8) (by omega) (hi.1 hc)
    have hv := numF_small (bitAt_bit data) q.1 (w := 8) (by omega)
    have ht' : impl_bits_take 8 data (q.1 : Int) = some (numF (bitAt data) q.1 8, true, data, ((q.1 + 8 : Nat) : Int)) := ht
    refine ⟨_, _, cnt_yes hc, ?_⟩
    simp only [ht', Option.bind_some, Bool.not_true, cond_false, List.length_singleton, show q.2.length + 1 ≤ maxBytes / 8 by omega, decide_true, cond_true, w64 (n := numF (bitAt data) q.1 8) (by omega) (by omega)]
    rw [Int.toNat_of_nonneg (by omega)]
  · right
    have ht := take_no D.len (p := q.1) (w := 8) (by omega) (by omega) (fun h => hc (hi.2 h))
    have ht' : impl_bits_take 8 data (q.1 : Int) = some (0, false, data, (q.1 : Int)) := ht
    exact ⟨cnt_no hc, by simp only [ht', Option.bind_some, Bool.not_false, cond_true]⟩
theorem d2 {data : List Int} (D : DataOk data) {n : Nat} {q : Nat × List Nat} (hn : n < 5000) (h : DI n q) {e : El} (he : elOk e = true) :
    (∃ q', (dev data).val e q = .ok q' ∧ impl_Decode_2 e.1 e.2.1 e.2.2.1 e.2.2.2 data (q.1 : Int) q.2 = some (0, data, (q'.1 : Int), q'.2)) ∨ ((dev data).val e q = .error 3 ∧ impl_Decode_2 e.1 e.2.1 e.2.2.1 e.2.2.2 data (q.1 : Int) q.2 = some (3, data, (q.1 : Int), q.2)) := by
  have hm := max8
  obtain ⟨hw, hs⟩ := elOk_iff.1 he
  obtain ⟨w, hwe⟩ : ∃ w : Nat, e.2.1 = (w : Int) := ⟨e.2.1.toNat, by omega⟩
  have hi := nn_iff (data := data) (w := w) h.1 hn (by omega)
  have h1 := h.1
  have h2 := h.2
  unfold impl_Decode_2
  by_cases hc : q.1 + w ≤ NN data
  · left
    have ht := take_yes D.len D.byte (p := q.1) (w := w) (by omega) (hi.1 hc)
    have hv := numF_lt (bitAt_bit data) q.1 w
    refine ⟨_, val_yes hwe hc, ?_⟩
    simp only [hwe, ht, Option.bind_some, Bool.not_true, cond_false, impl_val (show w ≤ 32 by omega) hs e.1 e.2.2.2 hv, List.length_singleton, show q.2.length + 1 ≤ maxBytes / 8 by omega, decide_true, cond_true]
  · right
    have ht := take_no D.len (p := q.1) (w := w) (by omega) (by omega) (fun h => hc (hi.2 h))
    exact ⟨val_no hwe hc, by simp only [hwe, ht, Option.bind_some, Bool.not_false, cond_true]⟩
theorem elAt_some {t : LE} {d w c : Int} {e : El} (h : lookE t d = some e) : elAt t d w c = (e.1, e.2.1 + w, e.2.2.1 + c, e.2.2.2) := by unfold elAt; rw [h]; rfl
noncomputable abbrev R := impl_goer_through_R
/-- What is known of a part of a plan. -/
def PartOk (t : LE) (data : List Int) (M k : Nat) (part : List Int) : Prop :=
  ∀ s : St (Nat × List Nat), GoodS DI s → ∃ y : TR, (∀ m, M ≤ m → R m part t (s.1 : Int) s.2.1 s.2.2.1 data (s.2.2.2.1 : Int) s.2.2.2.2 = some y) ∧ Out t data y (thr (dev data) t k part s)
def RestOk (t : LE) (data : List Int) (M k : Nat) (plan : List Int) (i : Nat) : Prop :=
  ∀ s : St (Nat × List Nat), GoodS DI s → ∃ y : TR, (∀ m, M ≤ m → Ev (fun z => impl_goer_through_L2 (R m) z plan (i : Int) t (s.1 : Int) s.2.1 s.2.2.1 data (s.2.2.2.1 : Int) s.2.2.2.2) y) ∧ Out t data y (thr (dev data) t k (plan.drop i) s)
theorem out_err {t : LE} {data : List Int} {y : TR} {e : Int} (h : Out t data y (.error e)) : y.1 = e ∧ e ≠ 0 := h
theorem rep_loop {t : LE} {data plan part : List Int} {M k i x : Nat} (hi : i + 1 + x ≤ 1000) (hP : PartOk t data M k part) (hR : RestOk t data M k plan (i + 1 + x)) :
    ∀ (y : Nat) (s : St (Nat × List Nat)), y ≤ 1000 → GoodS DI s → ∃ r : TR, (∀ m, M ≤ m → Ev (fun z => impl_goer_through_L16 (R m) z plan (i : Int) (x : Int) (y : Int) part t (s.1 : Int) s.2.1 s.2.2.1 data (s.2.2.2.1 : Int) s.2.2.2.2) r) ∧
      Out t data r ((rep (thr (dev data) t k part) y s).bind fun s => thr (dev data) t k (plan.drop (i + 1 + x)) s)
  | 0, s, hy, hg => by
    obtain ⟨r, h1, h2⟩ := hR s hg
    refine ⟨r, fun m hm => ?_, h2⟩
    have P := part_of (plan := plan) (i := i) (x := x) (by omega)
    have e1 : IntKind.i64.wrap (IntKind.i64.wrap ((i : Int) + (x : Int)) + 1) = ((i + 1 + x : Nat) : Int) := by rw [w64 (n := (i : Int) + (x : Int)) (by omega) (by omega), w64 (by omega) (by omega)]; omega
    apply ev_succ
    simp only [impl_goer_through_L16, show ¬ (((0 : Nat) : Int) > 0) by omega, decide_false, cond_false, e1]
    exact h1 m hm
  | y + 1, s, hy, hg => by
    obtain ⟨r, h1, h2⟩ := hP s hg
    have e1 : IntKind.i64.wrap (((y + 1 : Nat) : Int) - 1) = (y : Int) := by rw [w64 (by omega) (by omega)]; omega
    cases hq : thr (dev data) t k part s with
    | error e =>
      rw [hq] at h2
      obtain ⟨a, b⟩ := out_err h2
      refine ⟨(r.1, r.2.1, r.2.2.1, r.2.2.2.1, r.2.2.2.2.1, r.2.2.2.2.2.1, r.2.2.2.2.2.2.1, r.2.2.2.2.2.2.2), fun m hm => ?_, ?_⟩
      · apply ev_succ
        have hb : (r.1 != 0) = true := by rw [bneI]; simp [a, b]
        simp only [impl_goer_through_L16, show (((y + 1 : Nat) : Int) > 0) by omega, decide_true, cond_true, h1 m hm, Option.bind_some, hb]
        exact ev_now _
      · unfold rep
        rw [hq]
        exact ⟨a, b⟩
    | ok s' =>
      rw [hq] at h2
      have hy' : r = (0, t, (s'.1 : Int), s'.2.1, s'.2.2.1, data, (s'.2.2.2.1 : Int), s'.2.2.2.2) := h2
      subst hy'
      have hg' := thr_keeps (dec_keeps (bitAt_bit data) (NN data)) t k part s s' hg hq
      obtain ⟨r', h3, h4⟩ := rep_loop hi hP hR y s' (by omega) hg'
      refine ⟨r', fun m hm => ?_, ?_⟩
      · apply ev_succ
        simp only [impl_goer_through_L16, show (((y + 1 : Nat) : Int) > 0) by omega, decide_true, cond_true, h1 m hm, Option.bind_some, bneI, decide_true, Bool.not_true, cond_false, e1]
        exact h3 m hm
      · unfold rep
        rw [hq]
        exact h4
end Go.Proofs.Ytgkejafaggaocaa.DE

namespace Go.Proofs.Ytgkejafaggaocaa.DE
open Go Go.Eng Go.TB Go.FT Go.Proofs.Ytgkejafaggaocaa.EX Go.Proofs.Ytgkejafaggaocaa.PO
theorem thr_nil {D : Type} (dv : Dev D) (t : LE) (k : Nat) (s : St D) : thr dv t k [] s = .ok s := by cases k <;> rfl
theorem thr_cons {D : Type} (dv : Dev D) (t : LE) (k : Nat) (d : Int) (r : List Int) (s : St D) : thr dv t (k + 1) (d :: r) s =
    if 5000 < s.1 + 1 then .error 2
    else if isRep d then
      (if yOf d = 0 then dv.cnt s.2.2.2 else .ok (yOf d, s.2.2.2)).bind fun z => (rep (thr dv t k (r.take (xOf d))) z.1 (s.1 + 1, s.2.1, s.2.2.1, z.2)).bind fun s => thr dv t k (r.drop (xOf d)) s
    else if isOp d then
      (if d < 202000 then thr dv t k r (s.1 + 1, shf d, s.2.2.1, s.2.2.2) else thr dv t k r (s.1 + 1, s.2.1, shf d, s.2.2.2))
    else if elOk (elAt t d s.2.1 s.2.2.1) then (dv.val (elAt t d s.2.1 s.2.2.1) s.2.2.2).bind fun q => thr dv t k r (s.1 + 1, s.2.1, s.2.2.1, q)
    else .error 4 := rfl
/-- What a plan that is right says of its first descriptor. -/
theorem fits_rep {t : LE} {k : Nat} {d : Int} {r : List Int} (h : fits t (k + 1) (d :: r) = true) (hR : isRep d = true) : yOf d ≤ 255 ∧ xOf d ≤ r.length ∧ fits t k (r.take (xOf d)) = true ∧ fits t k (r.drop (xOf d)) = true := by
  rw [fits_cons, if_pos hR] at h
  simp only [Bool.and_eq_true, decide_eq_true_eq] at h
  have := rep_range.1 hR
  refine ⟨by unfold yOf; omega, h.2.1, h.2.2.1, h.2.2.2⟩
theorem fits_op {t : LE} {k : Nat} {d : Int} {r : List Int} (h : fits t (k + 1) (d :: r) = true) (hR : isRep d = false) (hO : isOp d = true) : fits t k r = true := by
  rw [fits_cons, if_neg (by rw [hR]; exact Bool.false_ne_true), if_pos hO] at h; exact h
theorem fits_el {t : LE} {k : Nat} {d : Int} {r : List Int} (h : fits t (k + 1) (d :: r) = true) (hR : isRep d = false) (hO : isOp d = false) : (∃ e, lookE t d = some e) ∧ 1 ≤ d ∧ d ≤ 99999 ∧ fits t k r = true := by
  rw [fits_cons, if_neg (by rw [hR]; exact Bool.false_ne_true), if_neg (by rw [hO]; exact Bool.false_ne_true)] at h
  simp only [Bool.and_eq_true, decide_eq_true_eq] at h
  exact ⟨Option.isSome_iff_exists.1 h.1, h.2.1, h.2.2.1, h.2.2.2⟩
theorem op_range2 {d : Int} (h : isOp d = true) : (201000 ≤ d ∧ d ≤ 201255) ∨ (202000 ≤ d ∧ d ≤ 202255) := by
  unfold isOp at h
  simpa [Bool.or_eq_true, Bool.and_eq_true, decide_eq_true_eq] using h
theorem bne_err {a e : Int} (h : a = e) (he : e ≠ 0) : (a != 0) = true := by rw [bneI]; simp [h, he]
theorem thr_loop {t : LE} {data : List Int} (hT : t.length ≤ 200 ∧ ∀ e ∈ t, EOk e) (D : DataOk data) {plan : List Int} (hp : plan.length ≤ 100)
    (hrc : ∀ part : List Int, part.length < plan.length → ∀ k, part.length ≤ k → fits t k part = true → PartOk t data plan.length k part) :
    ∀ k i : Nat, plan.length - i ≤ k → i ≤ plan.length → fits t k (plan.drop i) = true → RestOk t data plan.length k plan i := by
  have fin : ∀ (k i : Nat), ¬ i < plan.length → RestOk t data plan.length k plan i := fun k i hi s hg => by
    have : plan.drop i = [] := List.drop_eq_nil_of_le (by omega)
    refine ⟨_, fun m hm => ?_, by rw [this, thr_nil]; exact rfl⟩
    apply ev_succ
    simp only [impl_goer_through_L2, show ¬ ((i : Int) < (plan.length : Int)) by omega, decide_false, cond_false]
    exact ev_now _
  intro k
  induction k with
  | zero => exact fun i h1 h2 _ => fin 0 i (by omega)
  | succ k ih =>
    intro i h1 h2 hF
    by_cases hi : i < plan.length
    rotate_left
    · exact fin _ i hi
    intro s hg
    obtain ⟨g1, g2, g3, g4⟩ := hg
    have e1 : rd (.int .i64) plan (i : Int) = plan[i] := rd_nat hi
    rw [List.drop_eq_getElem_cons hi] at hF ⊢
    generalize hd : plan[i] = d at e1 hF
    have e2 : IntKind.i64.wrap ((s.1 : Int) + 1) = ((s.1 + 1 : Nat) : Int) := by rw [w64 (by omega) (by omega)]; omega
    rw [thr_cons]
    by_cases hn : 5000 < s.1 + 1
    · refine ⟨(2, t, ((s.1 + 1 : Nat) : Int), s.2.1, s.2.2.1, data, (s.2.2.2.1 : Int), s.2.2.2.2), fun m hm => ?_, ?_⟩
      · apply ev_succ
        simp only [impl_goer_through_L2, show (i : Int) < (plan.length : Int) by omega, decide_true, cond_true, e2, show (((s.1 + 1 : Nat) : Int) > 5000) by omega]
        exact ev_now _
      · rw [if_pos hn]; exact ⟨rfl, by decide⟩
    rw [if_neg hn]
    cases hR : isRep d with
    | true =>
      rw [if_pos rfl]
      obtain ⟨f1, f2, f3, f4⟩ := fits_rep hF hR
      have hx := x_range hR
      rw [List.length_drop] at f2
      have P := part_of (plan := plan) (i := i) (x := xOf d) (by omega) hx.2
      have hlen : ((plan.drop (i + 1)).take (xOf d)).length = xOf d := by rw [List.length_take, List.length_drop]; omega
      have hP := hrc _ (by rw [hlen]; omega) k (by rw [hlen]; omega) f3
      have hRest := ih (i + 1 + xOf d) (by omega) (by omega) (by rw [← List.drop_drop]; exact f4)
      have lp := rep_loop (i := i) (x := xOf d) (by omega) hP hRest
      rw [List.drop_drop]
      by_cases hy : yOf d = 0
      · rw [if_pos hy]
        rcases d1 D (show s.1 < 5000 by omega) g4 with ⟨y, q', c1, c2⟩ | ⟨c1, c2⟩
        · rw [c1]
          obtain ⟨kp, ky⟩ := (dec_keeps (bitAt_bit data) (NN data)).cnt (show s.1 < 5000 by omega) g4 c1
          obtain ⟨r, r1, r2⟩ := lp y (s.1 + 1, s.2.1, s.2.2.1, q') (by omega) ⟨by simp only; omega, g2, g3, kp⟩
          refine ⟨r, fun m hm => ?_, r2⟩
          apply ev_succ
          simp only [impl_goer_through_L2, show (i : Int) < (plan.length : Int) by omega, decide_true, cond_true, e1, e2, show ¬ (((s.1 + 1 : Nat) : Int) > 5000) by omega, decide_false, cond_false, show (0 : Int) ≤ (i : Int) by omega, repeats_yes hR, Option.bind_some,
            show ((xOf d : Nat) : Int) > 0 by omega, hy, Int.natCast_zero, beq_self_eq_true, c2, bneI, Bool.not_true, P.a, P.b, show (0 : Int) ≤ ((i + 1 + xOf d : Nat) : Int) by omega, show ((i + 1 + xOf d : Nat) : Int) ≤ (plan.length : Int) by omega, show (0 : Int) ≤ ((i + 1 : Nat) : Int) by omega,
            show ((i + 1 : Nat) : Int) ≤ ((i + 1 + xOf d : Nat) : Int) by omega, Bool.and_self, Int.toNat_natCast, part_eq]
          exact r1 m hm
        · rw [c1]
          refine ⟨(3, t, ((s.1 + 1 : Nat) : Int), s.2.1, s.2.2.1, data, (s.2.2.2.1 : Int), s.2.2.2.2), fun m hm => ?_, ⟨rfl, by decide⟩⟩
          apply ev_succ
          simp only [impl_goer_through_L2, show (i : Int) < (plan.length : Int) by omega, decide_true, cond_true, e1, e2, show ¬ (((s.1 + 1 : Nat) : Int) > 5000) by omega, decide_false, cond_false, show (0 : Int) ≤ (i : Int) by omega, repeats_yes hR, Option.bind_some,
            show ((xOf d : Nat) : Int) > 0 by omega, hy, Int.natCast_zero, beq_self_eq_true, c2, bneI, show ¬ ((3 : Int) = 0) by omega, Bool.not_false]
          exact ev_now _
      · rw [if_neg hy]
        obtain ⟨r, r1, r2⟩ := lp (yOf d) (s.1 + 1, s.2.1, s.2.2.1, s.2.2.2) (by omega) ⟨by simp only; omega, g2, g3, (dec_keeps (bitAt_bit data) (NN data)).next g4⟩
        refine ⟨r, fun m hm => ?_, r2⟩
        apply ev_succ
        simp only [impl_goer_through_L2, show (i : Int) < (plan.length : Int) by omega, decide_true, cond_true, e1, e2, show ¬ (((s.1 + 1 : Nat) : Int) > 5000) by omega, decide_false, cond_false, show (0 : Int) ≤ (i : Int) by omega, repeats_yes hR, Option.bind_some,
          show ((xOf d : Nat) : Int) > 0 by omega, beqI, show ¬ ((yOf d : Nat) : Int) = 0 by omega, P.a, P.b, show (0 : Int) ≤ ((i + 1 + xOf d : Nat) : Int) by omega, show ((i + 1 + xOf d : Nat) : Int) ≤ (plan.length : Int) by omega, show (0 : Int) ≤ ((i + 1 : Nat) : Int) by omega,
          show ((i + 1 : Nat) : Int) ≤ ((i + 1 + xOf d : Nat) : Int) by omega, Bool.and_self, Int.toNat_natCast, part_eq]
        exact r1 m hm
    | false =>
      rw [if_neg Bool.false_ne_true]
      have nx := fun f => ih (i + 1) (by omega) (by omega) f
      cases hO : isOp d with
      | true =>
        rw [if_pos rfl]
        have hr := op_range2 hO
        have hs := shf_range hO
        have nx := nx (fits_op hF hR hO)
        have a3 : d.tmod 1000 = d % 1000 := Int.tmod_eq_emod_of_nonneg (by omega)
        have a4 : IntKind.i64.wrap (d % 1000 - 128) = d % 1000 - 128 := w64 (by omega) (by omega)
        rcases hr with hr | hr
        · rw [if_pos (show d < 202000 by omega)]
          obtain ⟨r, r1, r2⟩ := nx (s.1 + 1, shf d, s.2.2.1, s.2.2.2) ⟨by simp only; omega, hs, g3, (dec_keeps (bitAt_bit data) (NN data)).next g4⟩
          refine ⟨r, fun m hm => ?_, r2⟩
          have a1 : d.tdiv 1000 = 201 := by rw [Int.tdiv_eq_ediv_of_nonneg (by omega)]; omega
          have a2 : IntKind.i64.wrap 201 = 201 := w64 (by omega) (by omega)
          have q := r1 m hm
          simp only at q
          apply ev_succ
          simp only [impl_goer_through_L2, show (i : Int) < (plan.length : Int) by omega, decide_true, cond_true, e1, e2, show ¬ (((s.1 + 1 : Nat) : Int) > 5000) by omega, decide_false, cond_false, show (0 : Int) ≤ (i : Int) by omega, repeats_no hR, Option.bind_some,
            show ¬ ((0 : Int) > 0) by omega, a1, a2, a3, a4, beq_self_eq_true, wsucc (show i < 9223372036854775807 by omega)]
          unfold shf at q
          by_cases h0 : d % 1000 = 0
          · rw [if_pos h0] at q
            simp only [h0, show ¬ ((0 : Int) > 0) by omega, decide_false, cond_false]
            exact q
          · rw [if_neg h0] at q
            simp only [show d % 1000 > 0 by omega, decide_true, cond_true]
            exact q
        · rw [if_neg (show ¬ d < 202000 by omega)]
          obtain ⟨r, r1, r2⟩ := nx (s.1 + 1, s.2.1, shf d, s.2.2.2) ⟨by simp only; omega, g2, hs, (dec_keeps (bitAt_bit data) (NN data)).next g4⟩
          refine ⟨r, fun m hm => ?_, r2⟩
          have a1 : d.tdiv 1000 = 202 := by rw [Int.tdiv_eq_ediv_of_nonneg (by omega)]; omega
          have a2 : IntKind.i64.wrap 202 = 202 := w64 (by omega) (by omega)
          have q := r1 m hm
          simp only at q
          apply ev_succ
          simp only [impl_goer_through_L2, show (i : Int) < (plan.length : Int) by omega, decide_true, cond_true, e1, e2, show ¬ (((s.1 + 1 : Nat) : Int) > 5000) by omega, decide_false, cond_false, show (0 : Int) ≤ (i : Int) by omega, repeats_no hR, Option.bind_some,
            show ¬ ((0 : Int) > 0) by omega, a1, a2, a3, a4, beqI, show ¬ ((202 : Int) = 201) by omega, wsucc (show i < 9223372036854775807 by omega)]
          unfold shf at q
          by_cases h0 : d % 1000 = 0
          · rw [if_pos h0] at q
            simp only [h0, show ¬ ((0 : Int) > 0) by omega, decide_false, cond_false]
            exact q
          · rw [if_neg h0] at q
            simp only [show d % 1000 > 0 by omega, decide_true, cond_true]
            exact q
      | false =>
        rw [if_neg Bool.false_ne_true]
        obtain ⟨⟨e, he⟩, l1, l2, l3⟩ := fits_el hF hR hO
        have nx := nx l3
        obtain ⟨o1, o2, o3, o4⟩ := hT.2 e (look_mem he)
        rw [elAt_some he]
        have a1 : d.tdiv 1000 = d / 1000 := Int.tdiv_eq_ediv_of_nonneg (by omega)
        have a2 : IntKind.i64.wrap (d / 1000) = d / 1000 := w64 (by omega) (by omega)
        have b1 : IntKind.i64.wrap (e.2.1 + s.2.1) = e.2.1 + s.2.1 := w64 (by omega) (by omega)
        have b2 : IntKind.i64.wrap (e.2.2.1 + s.2.2.1) = e.2.2.1 + s.2.2.1 := w64 (by omega) (by omega)
        have hel : elOk (e.1, e.2.1 + s.2.1, e.2.2.1 + s.2.2.1, e.2.2.2) = (inB (e.2.1 + s.2.1) 1 32 && inB (e.2.2.1 + s.2.2.1) (-10) 10) := rfl
        have hlk : impl_elemOf t d = some (e.1, e.2.1, e.2.2.1, e.2.2.2, true) := by rw [impl_el (by omega), he]; rfl
        cases hE : elOk (e.1, e.2.1 + s.2.1, e.2.2.1 + s.2.2.1, e.2.2.2) with
        | true =>
          rw [if_pos rfl]
          have hE' := hE
          rw [hel, Bool.and_eq_true] at hE'
          rcases d2 D (show s.1 < 5000 by omega) g4 hE with ⟨q', c1, c2⟩ | ⟨c1, c2⟩
          · rw [c1]
            have kp := (dec_keeps (bitAt_bit data) (NN data)).val (show s.1 < 5000 by omega) g4 hE c1
            obtain ⟨r, r1, r2⟩ := nx (s.1 + 1, s.2.1, s.2.2.1, q') ⟨by simp only; omega, g2, g3, kp⟩
            refine ⟨r, fun m hm => ?_, r2⟩
            simp only at c2
            apply ev_succ
            simp only [impl_goer_through_L2, show (i : Int) < (plan.length : Int) by omega, decide_true, cond_true, e1, e2, show ¬ (((s.1 + 1 : Nat) : Int) > 5000) by omega, decide_false, cond_false, show (0 : Int) ≤ (i : Int) by omega, repeats_no hR, Option.bind_some,
              show ¬ ((0 : Int) > 0) by omega, a1, a2, beqI, show ¬ (d / 1000 = 201) by omega, show ¬ (d / 1000 = 202) by omega, hlk, b1, b2, in_eq, hE'.1, hE'.2, Bool.not_true, c2, bneI, wsucc (show i < 9223372036854775807 by omega)]
            exact r1 m hm
          · rw [c1]
            refine ⟨(3, t, ((s.1 + 1 : Nat) : Int), s.2.1, s.2.2.1, data, (s.2.2.2.1 : Int), s.2.2.2.2), fun m hm => ?_, ⟨rfl, by decide⟩⟩
            simp only at c2
            apply ev_succ
            simp only [impl_goer_through_L2, show (i : Int) < (plan.length : Int) by omega, decide_true, cond_true, e1, e2, show ¬ (((s.1 + 1 : Nat) : Int) > 5000) by omega, decide_false, cond_false, show (0 : Int) ≤ (i : Int) by omega, repeats_no hR, Option.bind_some,
              show ¬ ((0 : Int) > 0) by omega, a1, a2, beqI, show ¬ (d / 1000 = 201) by omega, show ¬ (d / 1000 = 202) by omega, hlk, b1, b2, in_eq, hE'.1, hE'.2, Bool.not_true, c2, bneI, show ¬ ((3 : Int) = 0) by omega, Bool.not_false]
            exact ev_now _
        | false =>
          rw [if_neg Bool.false_ne_true]
          rw [hel] at hE
          refine ⟨(4, t, ((s.1 + 1 : Nat) : Int), s.2.1, s.2.2.1, data, (s.2.2.2.1 : Int), s.2.2.2.2), fun m hm => ?_, ⟨rfl, by decide⟩⟩
          apply ev_succ
          simp only [impl_goer_through_L2, show (i : Int) < (plan.length : Int) by omega, decide_true, cond_true, e1, e2, show ¬ (((s.1 + 1 : Nat) : Int) > 5000) by omega, decide_false, cond_false, show (0 : Int) ≤ (i : Int) by omega, repeats_no hR, Option.bind_some,
            show ¬ ((0 : Int) > 0) by omega, a1, a2, beqI, show ¬ (d / 1000 = 201) by omega, show ¬ (d / 1000 = 202) by omega, hlk, b1, b2, in_eq]
          cases hb1 : inB (e.2.1 + s.2.1) 1 32 with
          | false => exact ev_now _
          | true =>
            rw [hb1] at hE
            simp only [Bool.true_and] at hE
            rw [hE]
            exact ev_now _
theorem thr_R {t : LE} {data : List Int} (hT : t.length ≤ 200 ∧ ∀ e ∈ t, EOk e) (D : DataOk data) : ∀ (n : Nat) (plan : List Int), plan.length ≤ n → plan.length ≤ 100 → ∀ k, plan.length ≤ k → fits t k plan = true → PartOk t data (plan.length + 1) k plan := by
  intro n
  induction n with
  | zero =>
    intro plan h0 hp k hk hF s hg
    have h := thr_loop hT D hp (fun part h1 => by omega) k 0 (by omega) (by omega) hF s hg
    obtain ⟨y, h1, h2⟩ := h
    refine ⟨y, fun m hm => ?_, h2⟩
    obtain ⟨m', rfl⟩ : ∃ m', m = m' + 1 := ⟨m - 1, by omega⟩
    exact evF_eq (h1 m' (by omega))
  | succ n ih =>
    intro plan h0 hp k hk hF s hg
    have h := thr_loop hT D hp (fun part h1 k' h2 h3 s' hg' => by
      obtain ⟨y, a, b⟩ := ih part (by omega) (by omega) k' h2 h3 s' hg'
      exact ⟨y, fun m hm => a m (by omega), b⟩) k 0 (by omega) (by omega) hF s hg
    obtain ⟨y, h1, h2⟩ := h
    refine ⟨y, fun m hm => ?_, h2⟩
    obtain ⟨m', rfl⟩ : ∃ m', m = m' + 1 := ⟨m - 1, by omega⟩
    exact evF_eq (h1 m' (by omega))
theorem through_eq {t : LE} {data : List Int} (hT : t.length ≤ 200 ∧ ∀ e ∈ t, EOk e) (D : DataOk data) {plan : List Int} (hp : plan.length ≤ 100) (hF : fits t plan.length plan = true) :
    ∃ y : TR, impl_goer_through plan t 0 0 0 data 0 [] = some y ∧ Out t data y (thr (dev data) t plan.length plan (0, 0, 0, (0, []))) := by
  obtain ⟨y, h1, h2⟩ := thr_R hT D plan.length plan (by omega) hp plan.length (by omega) hF (0, 0, 0, (0, [])) ⟨by simp, by simp, by simp, by simp [DI]⟩
  exact ⟨y, evF_eq ⟨plan.length + 1, fun m hm => h1 m hm⟩, h2⟩
end Go.Proofs.Ytgkejafaggaocaa.DE

namespace Go.Proofs.Ytgkejafaggaocaa.DE
open Go Go.Eng Go.TB Go.FT Go.Proofs.Ytgkejafaggaocaa.EX Go.Proofs.Ytgkejafaggaocaa.PO
abbrev SpL := List (Bool × El)
abbrev SR := LE × List Int × Bool × Int × Int × Int × Int × Int × SpL × List Nat
/-- The bits that the reference reads. -/
structure BitsOk (data b : List Int) : Prop where
  len : b.length = NN data
  says : Says b (bitAt data)
theorem BitsOk.short {data b : List Int} (B : BitsOk data b) : b.length ≤ 2000000 := by rw [B.len]; unfold NN; omega
/-- What was read up to a fault. -/
def Fine (y : SR) : Prop := y.2.2.2.2.2.2.2.2.1.length ≤ 5000 ∧ y.2.2.2.2.2.2.2.2.2.length ≤ 5000 ∧ ∀ x ∈ y.2.2.2.2.2.2.2.2.2, x < 2 ^ 64
def OutS (t : LE) (b : List Int) (y : SR) : Except Int (St (Nat × List Nat)) → Prop
  | .ok s => ∃ sp : SpL, sp.length ≤ s.1 ∧ y = (t, b, true, (s.2.2.2.1 : Int), (s.1 : Int), s.2.1, s.2.2.1, 0, sp, s.2.2.2.2)
  | .error e => y.2.2.2.2.2.2.2.1 = e ∧ e ≠ 0 ∧ Fine y
theorem val_lt (w : Nat) (s ref n : Int) : valV w s ref n < 2 ^ 64 := by
  unfold valV
  split
  · decide
  · split
    · exact fdiv_lt _ _
    · exact fmul_lt _ _
def DIW (n : Nat) (q : Nat × List Nat) : Prop := DI n q ∧ ∀ x ∈ q.2, x < 2 ^ 64
theorem decw_keeps {f : Nat → Int} (hf : ∀ q, f q = 0 ∨ f q = 1) (N : Nat) : Keeps (decDev f N) DIW where
  next := fun h => ⟨(dec_keeps hf N).next h.1, h.2⟩
  cnt := fun {n q y q'} hn h e => by
    obtain ⟨k1, k2⟩ := (dec_keeps hf N).cnt hn h.1 e
    refine ⟨⟨k1, ?_⟩, k2⟩
    by_cases c : q.1 + 8 ≤ N
    · rw [cnt_yes c] at e; cases e
      intro x hx
      rcases List.mem_append.1 hx with hx | hx
      · exact h.2 x hx
      · rw [List.mem_singleton] at hx; rw [hx]; exact fofi_word _
    · rw [cnt_no c] at e; cases e
  val := fun {n e q q'} hn h he hh => by
    refine ⟨(dec_keeps hf N).val hn h.1 he hh, ?_⟩
    obtain ⟨hww, hs⟩ := elOk_iff.1 he
    obtain ⟨w, hwe⟩ : ∃ w : Nat, e.2.1 = (w : Int) := ⟨e.2.1.toNat, by omega⟩
    by_cases c : q.1 + w ≤ N
    · rw [val_yes hwe c] at hh; cases hh
      intro x hx
      rcases List.mem_append.1 hx with hx | hx
      · exact h.2 x hx
      · rw [List.mem_singleton] at hx; rw [hx]; exact val_lt _ _ _ _
    · rw [val_no hwe c] at hh; cases hh
theorem max40 : 100000 ≤ maxBytes / 40 := by decide
theorem s1 {data b : List Int} (B : BitsOk data b) {n : Nat} {q : Nat × List Nat} (hn : n < 5000) (h : DI n q) (t : LE) (c1 c2 c3 : Int) {sp : SpL} (hsp : sp.length ≤ n) :
    (∃ y q', (dev data).cnt q = .ok (y, q') ∧ spec_l7Walk_spot true 0 8 0 0 t b true (q.1 : Int) c1 c2 c3 0 sp q.2 = some ((y : Int), t, b, true, (q'.1 : Int), c1, c2, c3, 0, sp ++ [(true, 0, 8, 0, 0)], q'.2)) ∨
    ((dev data).cnt q = .error 3 ∧ spec_l7Walk_spot true 0 8 0 0 t b true (q.1 : Int) c1 c2 c3 0 sp q.2 = some (0, t, b, true, (q.1 : Int), c1, c2, c3, 3, sp, q.2)) := by
  have hm := max8
  have hm' := max40
  have h1 := h.1
  have h2 := h.2
  have hbl := B.short
  have hw : IntKind.i64.wrap ((b.length : Int) - (q.1 : Int)) = (b.length : Int) - (q.1 : Int) := w64 (by omega) (by omega)
  unfold spec_l7Walk_spot
  by_cases hc : q.1 + 8 ≤ NN data
  · left
    have hb : q.1 + 8 ≤ b.length := by rw [B.len]; exact hc
    have hv := numF_small (bitAt_bit data) q.1 (w := 8) (by omega)
    have hg : spec_l7Walk_get 8 t b true (q.1 : Int) c1 c2 c3 0 (sp ++ [(true, 0, 8, 0, 0)]) q.2 = some (numF (bitAt data) q.1 8, t, b, true, ((q.1 + 8 : Nat) : Int), c1, c2, c3, 0, sp ++ [(true, 0, 8, 0, 0)], q.2) := get_eq (bitAt_bit data) B.says hbl t true c1 c2 c3 0 _ q.2 (w := 8) (by omega) hb
    refine ⟨_, _, cnt_yes hc, ?_⟩
    simp only [cond_true, hw, show ¬ ((b.length : Int) - (q.1 : Int) < 8) by omega, decide_false, cond_false, List.length_singleton, show sp.length + 1 ≤ maxBytes / 40 by omega, decide_true, hg, Option.bind_some, Bool.not_true, show q.2.length + 1 ≤ maxBytes / 8 by omega]
    rw [Int.toNat_of_nonneg (by omega)]
  · right
    have hb : ¬ q.1 + 8 ≤ b.length := by rw [B.len]; exact hc
    refine ⟨cnt_no hc, ?_⟩
    simp only [cond_true, hw, show ((b.length : Int) - (q.1 : Int) < 8) by omega, decide_true]
theorem s2 {data b : List Int} (B : BitsOk data b) {n : Nat} {q : Nat × List Nat} (hn : n < 5000) (h : DI n q) (t : LE) (c1 c2 c3 : Int) {sp : SpL} (hsp : sp.length ≤ n) {e : El} (he : elOk e = true) :
    (∃ q', (dev data).val e q = .ok q' ∧ ∃ y, spec_l7Walk_spot false e.1 e.2.1 e.2.2.1 e.2.2.2 t b true (q.1 : Int) c1 c2 c3 0 sp q.2 = some (y, t, b, true, (q'.1 : Int), c1, c2, c3, 0, sp ++ [(false, e.1, e.2.1, e.2.2.1, e.2.2.2)], q'.2)) ∨
    ((dev data).val e q = .error 3 ∧ spec_l7Walk_spot false e.1 e.2.1 e.2.2.1 e.2.2.2 t b true (q.1 : Int) c1 c2 c3 0 sp q.2 = some (0, t, b, true, (q.1 : Int), c1, c2, c3, 3, sp, q.2)) := by
  have hm := max8
  have hm' := max40
  have h1 := h.1
  have h2 := h.2
  have hbl := B.short
  obtain ⟨hww, hs⟩ := elOk_iff.1 he
  obtain ⟨w, hwe⟩ : ∃ w : Nat, e.2.1 = (w : Int) := ⟨e.2.1.toNat, by omega⟩
  have hw : IntKind.i64.wrap ((b.length : Int) - (q.1 : Int)) = (b.length : Int) - (q.1 : Int) := w64 (by omega) (by omega)
  unfold spec_l7Walk_spot
  by_cases hc : q.1 + w ≤ NN data
  · left
    have hb : q.1 + w ≤ b.length := by rw [B.len]; exact hc
    have hv := numF_lt (bitAt_bit data) q.1 w
    have hg := get_eq (bitAt_bit data) B.says hbl t true c1 c2 c3 0 (sp ++ [(false, e.1, (w : Int), e.2.2.1, e.2.2.2)]) q.2 (w := w) (by omega) hb
    refine ⟨_, val_yes hwe hc, numF (bitAt data) q.1 w, ?_⟩
    simp only [hwe, cond_true, hw, show ¬ ((b.length : Int) - (q.1 : Int) < (w : Int)) by omega, decide_false, cond_false, List.length_singleton, show sp.length + 1 ≤ maxBytes / 40 by omega, decide_true, hg, Option.bind_some, Bool.not_false, spec_val (show w ≤ 32 by omega) hs e.1 e.2.2.2 hv, show q.2.length + 1 ≤ maxBytes / 8 by omega]
  · right
    have hb : ¬ q.1 + w ≤ b.length := by rw [B.len]; exact hc
    refine ⟨val_no hwe hc, ?_⟩
    simp only [hwe, cond_true, hw, show ((b.length : Int) - (q.1 : Int) < (w : Int)) by omega, decide_true]
noncomputable abbrev RS := spec_l7Walk_run_R
noncomputable abbrev L1 := spec_l7Walk_run_L1
noncomputable abbrev L23 := spec_l7Walk_run_L23
def PartS (t : LE) (data b : List Int) (M k : Nat) (part : List Int) : Prop :=
  ∀ (s : St (Nat × List Nat)) (sp : SpL), GoodS DIW s → sp.length ≤ s.1 → ∃ y : SR, (∀ m, M ≤ m → RS m part t b true (s.2.2.2.1 : Int) (s.1 : Int) s.2.1 s.2.2.1 0 sp s.2.2.2.2 = some y) ∧ OutS t b y (thr (dev data) t k part s)
def RestS (t : LE) (data b : List Int) (M k : Nat) (plan : List Int) (i : Nat) : Prop :=
  ∀ (s : St (Nat × List Nat)) (sp : SpL), GoodS DIW s → sp.length ≤ s.1 → ∃ y : SR, (∀ m, M ≤ m → Ev (fun z => spec_l7Walk_run_L1 (RS m) z plan (i : Int) t b true (s.2.2.2.1 : Int) (s.1 : Int) s.2.1 s.2.2.1 0 sp s.2.2.2.2) y) ∧ OutS t b y (thr (dev data) t k (plan.drop i) s)
/-- Behind a fault nothing more is done. -/
theorem err_L1 (rc : List Int → LE → List Int → Bool → Int → Int → Int → Int → Int → SpL → List Nat → Option SR) (plan : List Int) (i : Int) (y : SR) (h : y.2.2.2.2.2.2.2.1 ≠ 0) :
    Ev (fun z => spec_l7Walk_run_L1 rc z plan i y.1 y.2.1 y.2.2.1 y.2.2.2.1 y.2.2.2.2.1 y.2.2.2.2.2.1 y.2.2.2.2.2.2.1 y.2.2.2.2.2.2.2.1 y.2.2.2.2.2.2.2.2.1 y.2.2.2.2.2.2.2.2.2) y := by
  apply ev_succ
  have hb : (y.2.2.2.2.2.2.2.1 == 0) = false := by rw [beqI]; exact decide_eq_false h
  simp only [spec_l7Walk_run_L1, hb, cond_false]
  by_cases hi : i < (plan.length : Int)
  · simp only [hi, decide_true, cond_true]; exact ev_now _
  · simp only [hi, decide_false, cond_false]; exact ev_now _
theorem err_L23 (rc : List Int → LE → List Int → Bool → Int → Int → Int → Int → Int → SpL → List Nat → Option SR) (plan : List Int) (i x c j : Int) (y : SR) (h : y.2.2.2.2.2.2.2.1 ≠ 0) :
    Ev (fun z => spec_l7Walk_run_L23 rc z plan i x c j y.1 y.2.1 y.2.2.1 y.2.2.2.1 y.2.2.2.2.1 y.2.2.2.2.2.1 y.2.2.2.2.2.2.1 y.2.2.2.2.2.2.2.1 y.2.2.2.2.2.2.2.2.1 y.2.2.2.2.2.2.2.2.2) y := by
  apply ev_succ
  have hb : (y.2.2.2.2.2.2.2.1 == 0) = false := by rw [beqI]; exact decide_eq_false h
  simp only [spec_l7Walk_run_L23, hb, cond_false]
  by_cases hi : j < c
  · simp only [hi, decide_true, cond_true]; exact err_L1 rc plan _ y h
  · simp only [hi, decide_false, cond_false]; exact err_L1 rc plan _ y h
theorem rep_loopS {t : LE} {data b plan : List Int} (B : BitsOk data b) {M k i x : Nat} (hi : i + 1 + x ≤ plan.length) (hx : x ≤ 99) (hl : plan.length ≤ 1000) (hP : PartS t data b M k ((plan.drop (i + 1)).take x)) (hR : RestS t data b M k plan (i + 1 + x)) (c : Nat) (hc : c ≤ 1000) :
    ∀ (y j : Nat) (s : St (Nat × List Nat)) (sp : SpL), j + y = c → GoodS DIW s → sp.length ≤ s.1 → ∃ r : SR, (∀ m, M ≤ m → Ev (fun z => spec_l7Walk_run_L23 (RS m) z plan (i : Int) (x : Int) (c : Int) (j : Int) t b true (s.2.2.2.1 : Int) (s.1 : Int) s.2.1 s.2.2.1 0 sp s.2.2.2.2) r) ∧
      OutS t b r ((rep (thr (dev data) t k ((plan.drop (i + 1)).take x)) y s).bind fun s => thr (dev data) t k (plan.drop (i + 1 + x)) s) := by
  have P := part_of (plan := plan) (i := i) (x := x) (by omega) hx
  intro y
  induction y with
  | zero =>
    intro j s sp hj hg hsp
    obtain ⟨r, h1, h2⟩ := hR s sp hg hsp
    refine ⟨r, fun m hm => ?_, h2⟩
    apply ev_succ
    simp only [spec_l7Walk_run_L23, show ¬ ((j : Int) < (c : Int)) by omega, decide_false, cond_false, P.c, P.d]
    exact h1 m hm
  | succ y ih =>
    intro j s sp hj hg hsp
    obtain ⟨r, h1, h2⟩ := hP s sp hg hsp
    have step : ∀ (m : Nat) (r' : SR), M ≤ m → Ev (fun z => spec_l7Walk_run_L23 (RS m) z plan (i : Int) (x : Int) (c : Int) ((j + 1 : Nat) : Int) r.1 r.2.1 r.2.2.1 r.2.2.2.1 r.2.2.2.2.1 r.2.2.2.2.2.1 r.2.2.2.2.2.2.1 r.2.2.2.2.2.2.2.1 r.2.2.2.2.2.2.2.2.1 r.2.2.2.2.2.2.2.2.2) r' →
        Ev (fun z => spec_l7Walk_run_L23 (RS m) z plan (i : Int) (x : Int) (c : Int) (j : Int) t b true (s.2.2.2.1 : Int) (s.1 : Int) s.2.1 s.2.2.1 0 sp s.2.2.2.2) r' := fun m r' hm hv => by
      apply ev_succ
      simp only [spec_l7Walk_run_L23, show (j : Int) < (c : Int) by omega, decide_true, cond_true, beq_self_eq_true, P.a, P.b, show (0 : Int) ≤ ((i + 1 + x : Nat) : Int) by omega, show ((i + 1 + x : Nat) : Int) ≤ (plan.length : Int) by omega, show (0 : Int) ≤ ((i + 1 : Nat) : Int) by omega,
        show ((i + 1 : Nat) : Int) ≤ ((i + 1 + x : Nat) : Int) by omega, Bool.and_self, Int.toNat_natCast, part_eq, h1 m hm, Option.bind_some, wsucc (show j < 9223372036854775807 by omega)]
      exact hv
    cases hq : thr (dev data) t k ((plan.drop (i + 1)).take x) s with
    | error e =>
      rw [hq] at h2
      obtain ⟨a, b', c'⟩ : r.2.2.2.2.2.2.2.1 = e ∧ e ≠ 0 ∧ Fine r := h2
      refine ⟨r, fun m hm => step m r hm (err_L23 _ plan _ _ _ _ r (by rw [a]; exact b')), ?_⟩
      unfold rep
      rw [hq]
      exact ⟨a, b', c'⟩
    | ok s' =>
      rw [hq] at h2
      obtain ⟨sp', hsp', rfl⟩ := h2
      have hg' := thr_keeps (decw_keeps (bitAt_bit data) (NN data)) t k _ s s' hg hq
      obtain ⟨r', h3, h4⟩ := ih (j + 1) s' sp' (by omega) hg' hsp'
      refine ⟨r', fun m hm => step m r' hm (h3 m hm), ?_⟩
      unfold rep
      rw [hq]
      exact h4
end Go.Proofs.Ytgkejafaggaocaa.DE

namespace Go.Proofs.Ytgkejafaggaocaa.DE
open Go Go.Eng Go.TB Go.FT Go.Proofs.Ytgkejafaggaocaa.EX Go.Proofs.Ytgkejafaggaocaa.PO
theorem run_loop {t : LE} {data b : List Int} (hT : t.length ≤ 200 ∧ ∀ e ∈ t, EOk e) (B : BitsOk data b) {plan : List Int} (hp : plan.length ≤ 100)
    (hrc : ∀ part : List Int, part.length < plan.length → ∀ k, part.length ≤ k → fits t k part = true → PartS t data b plan.length k part) :
    ∀ k i : Nat, plan.length - i ≤ k → i ≤ plan.length → fits t k (plan.drop i) = true → RestS t data b plan.length k plan i := by
  have fin : ∀ (k i : Nat), ¬ i < plan.length → RestS t data b plan.length k plan i := fun k i hi s sp hg hsp => by
    have : plan.drop i = [] := List.drop_eq_nil_of_le (by omega)
    refine ⟨_, fun m hm => ?_, by rw [this, thr_nil]; exact ⟨sp, hsp, rfl⟩⟩
    apply ev_succ
    simp only [spec_l7Walk_run_L1, show ¬ ((i : Int) < (plan.length : Int)) by omega, decide_false, cond_false]
    exact ev_now _
  intro k
  induction k with
  | zero => exact fun i h1 h2 _ => fin 0 i (by omega)
  | succ k ih =>
    intro i h1 h2 hF
    by_cases hi : i < plan.length
    rotate_left
    · exact fin _ i hi
    intro s sp hg hsp
    obtain ⟨g1, g2, g3, g4⟩ := hg
    have e1 : rd (.int .i64) plan (i : Int) = plan[i] := rd_nat hi
    rw [List.drop_eq_getElem_cons hi] at hF ⊢
    generalize hd : plan[i] = d at e1 hF
    have e2 : IntKind.i64.wrap ((s.1 : Int) + 1) = ((s.1 + 1 : Nat) : Int) := by rw [w64 (by omega) (by omega)]; omega
    rw [thr_cons]
    by_cases hn : 5000 < s.1 + 1
    · refine ⟨(t, b, true, (s.2.2.2.1 : Int), ((s.1 + 1 : Nat) : Int), s.2.1, s.2.2.1, 2, sp, s.2.2.2.2), fun m hm => ?_, ?_⟩
      · apply ev_succ
        simp only [spec_l7Walk_run_L1, show (i : Int) < (plan.length : Int) by omega, show (0 : Int) ≤ (i : Int) by omega, beq_self_eq_true, decide_true, cond_true, e2, show (((s.1 + 1 : Nat) : Int) > 5000) by omega]
        exact ev_now _
      · rw [if_pos hn]; exact ⟨rfl, by decide, Nat.le_trans hsp g1, Nat.le_trans g4.1.2 g1, g4.2⟩
    rw [if_neg hn]
    cases hR : isRep d with
    | true =>
      rw [if_pos rfl]
      have hr := rep_range.1 hR
      obtain ⟨f1, f2, f3, f4⟩ := fits_rep hF hR
      have hx := x_range hR
      rw [List.length_drop] at f2
      have hlen : ((plan.drop (i + 1)).take (xOf d)).length = xOf d := by rw [List.length_take, List.length_drop]; omega
      have hP := hrc _ (by rw [hlen]; omega) k (by rw [hlen]; omega) f3
      have hRest := ih (i + 1 + xOf d) (by omega) (by omega) (by rw [← List.drop_drop]; exact f4)
      have a1 : IntKind.i64.wrap (d - 100000) = d - 100000 := w64 (by omega) (by omega)
      have a2 : IntKind.i64.wrap ((d - 100000).tdiv 1000) = (xOf d : Int) := by
        have : (d - 100000).tdiv 1000 = (xOf d : Int) := by unfold xOf; rw [Int.tdiv_eq_ediv_of_nonneg (by omega)]; omega
        rw [this, w64 (by omega) (by omega)]
      have a3 : d.tmod 1000 = ((yOf d : Nat) : Int) := by unfold yOf; rw [Int.tmod_eq_emod_of_nonneg (by omega)]; omega
      rw [List.drop_drop]
      by_cases hy : yOf d = 0
      · rw [if_pos hy]
        rcases s1 B (show s.1 < 5000 by omega) g4.1 t ((s.1 + 1 : Nat) : Int) s.2.1 s.2.2.1 hsp with ⟨y, q', c1, c2⟩ | ⟨c1, c2⟩
        · rw [c1]
          obtain ⟨kp, ky⟩ := (decw_keeps (bitAt_bit data) (NN data)).cnt (show s.1 < 5000 by omega) g4 c1
          obtain ⟨r, r1, r2⟩ := rep_loopS B (by omega) hx.2 (by omega) hP hRest y (by omega) y 0 (s.1 + 1, s.2.1, s.2.2.1, q') (sp ++ [(true, 0, 8, 0, 0)]) (by omega) ⟨by simp only; omega, g2, g3, kp⟩ (by simp only [List.length_append, List.length_singleton]; omega)
          refine ⟨r, fun m hm => ?_, r2⟩
          have q := r1 m hm
          simp only at q
          apply ev_succ
          simp only [spec_l7Walk_run_L1, show (i : Int) < (plan.length : Int) by omega, show (0 : Int) ≤ (i : Int) by omega, beq_self_eq_true, decide_true, cond_true, e1, e2, show ¬ (((s.1 + 1 : Nat) : Int) > 5000) by omega, decide_false, cond_false, show ¬ d < 100000 by omega, show d < 200000 by omega,
            a1, a2, a3, hy, Int.natCast_zero, c2, Option.bind_some]
          exact q
        · rw [c1]
          refine ⟨(t, b, true, (s.2.2.2.1 : Int), ((s.1 + 1 : Nat) : Int), s.2.1, s.2.2.1, 3, sp, s.2.2.2.2), fun m hm => ?_, ⟨rfl, by decide, Nat.le_trans hsp g1, Nat.le_trans g4.1.2 g1, g4.2⟩⟩
          apply ev_succ
          simp only [spec_l7Walk_run_L1, show (i : Int) < (plan.length : Int) by omega, show (0 : Int) ≤ (i : Int) by omega, beq_self_eq_true, decide_true, cond_true, e1, e2, show ¬ (((s.1 + 1 : Nat) : Int) > 5000) by omega, decide_false, cond_false, show ¬ d < 100000 by omega, show d < 200000 by omega,
            a1, a2, a3, hy, Int.natCast_zero, c2, Option.bind_some]
          exact err_L23 (RS m) plan _ _ _ _ (t, b, true, (s.2.2.2.1 : Int), ((s.1 + 1 : Nat) : Int), s.2.1, s.2.2.1, 3, sp, s.2.2.2.2) (by simp only; decide)
      · rw [if_neg hy]
        obtain ⟨r, r1, r2⟩ := rep_loopS B (by omega) hx.2 (by omega) hP hRest (yOf d) (by omega) (yOf d) 0 (s.1 + 1, s.2.1, s.2.2.1, s.2.2.2) sp (by omega) ⟨by simp only; omega, g2, g3, (decw_keeps (bitAt_bit data) (NN data)).next g4⟩ (by simp only; omega)
        refine ⟨r, fun m hm => ?_, r2⟩
        have q := r1 m hm
        simp only at q
        apply ev_succ
        simp only [spec_l7Walk_run_L1, show (i : Int) < (plan.length : Int) by omega, show (0 : Int) ≤ (i : Int) by omega, beqI, decide_true, cond_true, e1, e2, show ¬ (((s.1 + 1 : Nat) : Int) > 5000) by omega, decide_false, cond_false, show ¬ d < 100000 by omega, show d < 200000 by omega,
          a1, a2, a3, show ¬ ((yOf d : Nat) : Int) = 0 by omega]
        exact q
    | false =>
      rw [if_neg Bool.false_ne_true]
      have nx := fun f => ih (i + 1) (by omega) (by omega) f
      cases hO : isOp d with
      | true =>
        rw [if_pos rfl]
        have hr := op_range2 hO
        have hs := shf_range hO
        have nx := nx (fits_op hF hR hO)
        have a3 : d.tmod 1000 = d % 1000 := Int.tmod_eq_emod_of_nonneg (by omega)
        have a4 : IntKind.i64.wrap (d % 1000 - 128) = d % 1000 - 128 := w64 (by omega) (by omega)
        rcases hr with hr | hr
        · rw [if_pos (show d < 202000 by omega)]
          obtain ⟨r, r1, r2⟩ := nx (s.1 + 1, shf d, s.2.2.1, s.2.2.2) sp ⟨by simp only; omega, hs, g3, (decw_keeps (bitAt_bit data) (NN data)).next g4⟩ (by simp only; omega)
          refine ⟨r, fun m hm => ?_, r2⟩
          have q := r1 m hm
          simp only at q
          apply ev_succ
          simp only [spec_l7Walk_run_L1, show (i : Int) < (plan.length : Int) by omega, show (0 : Int) ≤ (i : Int) by omega, beqI, decide_true, cond_true, e1, e2, show ¬ (((s.1 + 1 : Nat) : Int) > 5000) by omega, decide_false, cond_false, show ¬ d < 100000 by omega, show ¬ d < 200000 by omega, show d < 202000 by omega,
            a3, a4, wsucc (show i < 9223372036854775807 by omega)]
          unfold shf at q
          by_cases h0 : d % 1000 = 0
          · rw [if_pos h0] at q
            simp only [h0, decide_true, cond_true]
            exact q
          · rw [if_neg h0] at q
            simp only [h0, decide_false, cond_false]
            exact q
        · rw [if_neg (show ¬ d < 202000 by omega)]
          obtain ⟨r, r1, r2⟩ := nx (s.1 + 1, s.2.1, shf d, s.2.2.2) sp ⟨by simp only; omega, g2, hs, (decw_keeps (bitAt_bit data) (NN data)).next g4⟩ (by simp only; omega)
          refine ⟨r, fun m hm => ?_, r2⟩
          have q := r1 m hm
          simp only at q
          apply ev_succ
          simp only [spec_l7Walk_run_L1, show (i : Int) < (plan.length : Int) by omega, show (0 : Int) ≤ (i : Int) by omega, beqI, decide_true, cond_true, e1, e2, show ¬ (((s.1 + 1 : Nat) : Int) > 5000) by omega, decide_false, cond_false, show ¬ d < 100000 by omega, show ¬ d < 200000 by omega, show ¬ d < 202000 by omega,
            a3, a4, wsucc (show i < 9223372036854775807 by omega)]
          unfold shf at q
          by_cases h0 : d % 1000 = 0
          · rw [if_pos h0] at q
            simp only [h0, decide_true, cond_true]
            exact q
          · rw [if_neg h0] at q
            simp only [h0, decide_false, cond_false]
            exact q
      | false =>
        rw [if_neg Bool.false_ne_true]
        obtain ⟨⟨e, he⟩, l1, l2, l3⟩ := fits_el hF hR hO
        have nx := nx l3
        obtain ⟨o1, o2, o3, o4⟩ := hT.2 e (look_mem he)
        rw [elAt_some he]
        have b1 : IntKind.i64.wrap (e.2.1 + s.2.1) = e.2.1 + s.2.1 := w64 (by omega) (by omega)
        have b2 : IntKind.i64.wrap (e.2.2.1 + s.2.2.1) = e.2.2.1 + s.2.2.1 := w64 (by omega) (by omega)
        have hel : elOk (e.1, e.2.1 + s.2.1, e.2.2.1 + s.2.2.1, e.2.2.2) = (inB (e.2.1 + s.2.1) 1 32 && inB (e.2.2.1 + s.2.2.1) (-10) 10) := rfl
        have hlk : spec_l7Elem t d = some (e.1, e.2.1, e.2.2.1, e.2.2.2, true) := by rw [spec_el (by omega), he]; rfl
        cases hE : elOk (e.1, e.2.1 + s.2.1, e.2.2.1 + s.2.2.1, e.2.2.2) with
        | true =>
          rw [if_pos rfl]
          have hE' := hE
          rw [hel, Bool.and_eq_true] at hE'
          rcases s2 B (show s.1 < 5000 by omega) g4.1 t ((s.1 + 1 : Nat) : Int) s.2.1 s.2.2.1 hsp hE with ⟨q', c1, y, c2⟩ | ⟨c1, c2⟩
          · rw [c1]
            have kp := (decw_keeps (bitAt_bit data) (NN data)).val (show s.1 < 5000 by omega) g4 hE c1
            obtain ⟨r, r1, r2⟩ := nx (s.1 + 1, s.2.1, s.2.2.1, q') (sp ++ [(false, e.1, e.2.1 + s.2.1, e.2.2.1 + s.2.2.1, e.2.2.2)]) ⟨by simp only; omega, g2, g3, kp⟩ (by simp only [List.length_append, List.length_singleton]; omega)
            refine ⟨r, fun m hm => ?_, r2⟩
            simp only at c2
            have q := r1 m hm
            simp only at q
            apply ev_succ
            simp only [spec_l7Walk_run_L1, show (i : Int) < (plan.length : Int) by omega, show (0 : Int) ≤ (i : Int) by omega, beq_self_eq_true, decide_true, cond_true, e1, e2, show ¬ (((s.1 + 1 : Nat) : Int) > 5000) by omega, decide_false, cond_false, show d < 100000 by omega,
              hlk, b1, b2, l2In_eq, hE'.1, hE'.2, Option.bind_some, Bool.not_true, c2, wsucc (show i < 9223372036854775807 by omega)]
            exact q
          · rw [c1]
            refine ⟨(t, b, true, (s.2.2.2.1 : Int), ((s.1 + 1 : Nat) : Int), s.2.1, s.2.2.1, 3, sp, s.2.2.2.2), fun m hm => ?_, ⟨rfl, by decide, Nat.le_trans hsp g1, Nat.le_trans g4.1.2 g1, g4.2⟩⟩
            simp only at c2
            apply ev_succ
            simp only [spec_l7Walk_run_L1, show (i : Int) < (plan.length : Int) by omega, show (0 : Int) ≤ (i : Int) by omega, beq_self_eq_true, decide_true, cond_true, e1, e2, show ¬ (((s.1 + 1 : Nat) : Int) > 5000) by omega, decide_false, cond_false, show d < 100000 by omega,
              hlk, b1, b2, l2In_eq, hE'.1, hE'.2, Option.bind_some, Bool.not_true, c2, wsucc (show i < 9223372036854775807 by omega)]
            exact err_L1 (RS m) plan _ (t, b, true, (s.2.2.2.1 : Int), ((s.1 + 1 : Nat) : Int), s.2.1, s.2.2.1, 3, sp, s.2.2.2.2) (by simp only; decide)
        | false =>
          rw [if_neg Bool.false_ne_true]
          rw [hel] at hE
          refine ⟨(t, b, true, (s.2.2.2.1 : Int), ((s.1 + 1 : Nat) : Int), s.2.1, s.2.2.1, 4, sp, s.2.2.2.2), fun m hm => ?_, ⟨rfl, by decide, Nat.le_trans hsp g1, Nat.le_trans g4.1.2 g1, g4.2⟩⟩
          apply ev_succ
          simp only [spec_l7Walk_run_L1, show (i : Int) < (plan.length : Int) by omega, show (0 : Int) ≤ (i : Int) by omega, beq_self_eq_true, decide_true, cond_true, e1, e2, show ¬ (((s.1 + 1 : Nat) : Int) > 5000) by omega, decide_false, cond_false, show d < 100000 by omega,
            hlk, b1, b2, l2In_eq, Option.bind_some]
          cases hb1 : inB (e.2.1 + s.2.1) 1 32 with
          | false => exact ev_now _
          | true =>
            rw [hb1] at hE
            simp only [Bool.true_and] at hE
            rw [hE]
            exact ev_now _
theorem run_R {t : LE} {data b : List Int} (hT : t.length ≤ 200 ∧ ∀ e ∈ t, EOk e) (B : BitsOk data b) : ∀ (n : Nat) (plan : List Int), plan.length ≤ n → plan.length ≤ 100 → ∀ k, plan.length ≤ k → fits t k plan = true → PartS t data b (plan.length + 1) k plan := by
  intro n
  induction n with
  | zero =>
    intro plan h0 hp k hk hF s sp hg hsp
    have h := run_loop hT B hp (fun part h1 => by omega) k 0 (by omega) (by omega) hF s sp hg hsp
    obtain ⟨y, h1, h2⟩ := h
    refine ⟨y, fun m hm => ?_, h2⟩
    obtain ⟨m', rfl⟩ : ∃ m', m = m' + 1 := ⟨m - 1, by omega⟩
    exact evF_eq (h1 m' (by omega))
  | succ n ih =>
    intro plan h0 hp k hk hF s sp hg hsp
    have h := run_loop hT B hp (fun part h1 k' h2 h3 s' sp' hg' hsp' => by
      obtain ⟨y, a, b⟩ := ih part (by omega) (by omega) k' h2 h3 s' sp' hg' hsp'
      exact ⟨y, fun m hm => a m (by omega), b⟩) k 0 (by omega) (by omega) hF s sp hg hsp
    obtain ⟨y, h1, h2⟩ := h
    refine ⟨y, fun m hm => ?_, h2⟩
    obtain ⟨m', rfl⟩ : ∃ m', m = m' + 1 := ⟨m - 1, by omega⟩
    exact evF_eq (h1 m' (by omega))
theorem run_eq {t : LE} {data b : List Int} (hT : t.length ≤ 200 ∧ ∀ e ∈ t, EOk e) (B : BitsOk data b) {plan : List Int} (hp : plan.length ≤ 100) (hF : fits t plan.length plan = true) :
    ∃ y : SR, spec_l7Walk_run plan t b true 0 0 0 0 0 [] [] = some y ∧ OutS t b y (thr (dev data) t plan.length plan (0, 0, 0, (0, []))) := by
  obtain ⟨y, h1, h2⟩ := run_R hT B plan.length plan (by omega) hp plan.length (by omega) hF (0, 0, 0, (0, [])) [] ⟨by simp, by simp, by simp, by simp [DI, DIW]⟩ (by simp)
  exact ⟨y, evF_eq ⟨plan.length + 1, fun m hm => h1 m hm⟩, h2⟩
end Go.Proofs.Ytgkejafaggaocaa.DE

namespace Go.Proofs.Ytgkejafaggaocaa.DE
open Go Go.Eng Go.TB Go.FT Go.Proofs.Ytgkejafaggaocaa.EX Go.Proofs.Ytgkejafaggaocaa.PO
def allZ (f : Nat → Int) : Nat → Nat → Bool
  | _, 0 => true
  | p, m + 1 => decide (f p = 0) && allZ f (p + 1) m
/-- Is nothing left but filling? -/
def restV (f : Nat → Int) (p N : Nat) : Bool := decide (N ≤ p + 7) && allZ f p (N - p)
theorem bits_take {data : List Int} (D : DataOk data) : BitsOk data (bitsB (data.take 20008)) := by
  refine ⟨?_, fun q hq => ?_⟩
  · rw [bitsB_length, List.length_take]; unfold NN; omega
  · rw [bitsB_length, List.length_take] at hq
    rw [bitsB_get _ q (by rw [List.length_take]; exact hq)]
    unfold bitAt
    have : (data.take 20008).getD (q / 8) 0 = data.getD (q / 8) 0 := by
      rw [List.getD_eq_getElem?_getD, List.getD_eq_getElem?_getD, List.getElem?_take_of_lt (by omega)]
    rw [this]
theorem impl_rest_loop {data : List Int} (D : DataOk data) : ∀ (m p : Nat), 8 * data.length - p = m → p ≤ 20000000 → ∃ n', Ev (fun k => impl_bits_rest_L3 k data (p : Int)) (allZ (bitAt data) p m, data, n')
  | 0, p, hm, hp => by
    have hl := D.len
    have e2 : IntKind.i64.wrap (8 * (data.length : Int)) = 8 * (data.length : Int) := w64 (by omega) (by omega)
    refine ⟨(p : Int), ?_⟩
    apply ev_succ
    simp only [impl_bits_rest_L3, e2, show ¬ ((p : Int) < 8 * (data.length : Int)) by omega, decide_false, cond_false]
    exact ev_now _
  | m + 1, p, hm, hp => by
    have hl := D.len
    have e2 : IntKind.i64.wrap (8 * (data.length : Int)) = 8 * (data.length : Int) := w64 (by omega) (by omega)
    have ht : impl_bits_take 1 data (p : Int) = some (numF (bitAt data) p 1, true, data, ((p + 1 : Nat) : Int)) := take_yes D.len D.byte (w := 1) (by omega) (by omega)
    have hv : numF (bitAt data) p 1 = bitAt data p := by simp [numF]
    rw [hv] at ht
    by_cases h0 : bitAt data p = 0
    · obtain ⟨n', ih⟩ := impl_rest_loop D m (p + 1) (by omega) (by omega)
      refine ⟨n', ?_⟩
      apply ev_succ
      simp only [impl_bits_rest_L3, e2, show ((p : Int) < 8 * (data.length : Int)) by omega, decide_true, cond_true, ht, Option.bind_some, bneI, h0, Bool.not_true, cond_false, allZ, Bool.true_and]
      exact ih
    · refine ⟨((p + 1 : Nat) : Int), ?_⟩
      apply ev_succ
      simp only [impl_bits_rest_L3, e2, show ((p : Int) < 8 * (data.length : Int)) by omega, decide_true, decide_false, cond_true, ht, Option.bind_some, bneI, h0, Bool.not_false, allZ, Bool.false_and]
      exact ev_now _
theorem impl_rest {data : List Int} (D : DataOk data) {p : Nat} (hp : p ≤ 160000) : ∃ n', impl_bits_rest data (p : Int) = some (restV (bitAt data) p (NN data), data, n') := by
  have hl := D.len
  have e2 : IntKind.i64.wrap (8 * (data.length : Int)) = 8 * (data.length : Int) := w64 (by omega) (by omega)
  have e3 : IntKind.i64.wrap (8 * (data.length : Int) - (p : Int)) = 8 * (data.length : Int) - (p : Int) := w64 (by omega) (by omega)
  by_cases h : 8 * (data.length : Int) - (p : Int) > 7
  · refine ⟨(p : Int), evF_eq ?_⟩
    unfold impl_bits_rest_F
    have : restV (bitAt data) p (NN data) = false := by
      unfold restV
      rw [show decide (NN data ≤ p + 7) = false from decide_eq_false (by unfold NN; omega), Bool.false_and]
    simp only [e2, e3, h, decide_true, cond_true, this]
    exact ev_now _
  · have hN : NN data = 8 * data.length := by unfold NN; omega
    obtain ⟨n', ih⟩ := impl_rest_loop D (8 * data.length - p) p rfl (by omega)
    refine ⟨n', evF_eq ?_⟩
    unfold impl_bits_rest_F
    simp only [e2, e3, h, decide_false, cond_false]
    refine ev_eq ih ?_
    unfold restV
    rw [hN, show decide (8 * data.length ≤ p + 7) = true from decide_eq_true (by omega), Bool.true_and]
theorem spec_rest_loop {data b : List Int} (B : BitsOk data b) (t : LE) (sp : SpL) (o : List Nat) (c0 c1 c2 c3 c4 : Int) : ∀ (m p : Nat), b.length - p = m → p ≤ 20000000 →
    Ev (fun k => spec_l7Walk_rest_L4 k (p : Int) t sp o b true c0 c1 c2 c3 c4) (allZ (bitAt data) p m, t, sp, o, b, true, c0, c1, c2, c3, c4)
  | 0, p, hm, hp => by
    apply ev_succ
    simp only [spec_l7Walk_rest_L4, show ¬ ((p : Int) < (b.length : Int)) by omega, decide_false, cond_false]
    exact ev_now _
  | m + 1, p, hm, hp => by
    have hbl := B.short
    have hn : p < b.length := by omega
    have ih := spec_rest_loop B t sp o c0 c1 c2 c3 c4 m (p + 1) (by omega) (by omega)
    have e4 : rd (.int .u8) b (p : Int) = bitAt data p := by
      rw [rd_nat hn, ← B.says _ hn, List.getD_eq_getElem?_getD, List.getElem?_eq_getElem hn, Option.getD_some]
    have hbit := bitAt_bit data p
    apply ev_succ
    by_cases h0 : bitAt data p = 0
    · simp only [spec_l7Walk_rest_L4, show ((p : Int) < (b.length : Int)) by omega, show (0 : Int) ≤ (p : Int) by omega, decide_true, cond_true, e4, beqI, h0, show ¬ ((0 : Int) = 1) by omega, decide_false, cond_false, wsucc (show p < 9223372036854775807 by omega), allZ, Bool.true_and]
      exact ih
    · simp only [spec_l7Walk_rest_L4, show ((p : Int) < (b.length : Int)) by omega, show (0 : Int) ≤ (p : Int) by omega, decide_true, cond_true, e4, beqI, h0, show (bitAt data p = 1) by omega, decide_false, allZ, Bool.false_and]
      exact ev_now _
theorem spec_rest {data b : List Int} (B : BitsOk data b) (t : LE) (sp : SpL) (o : List Nat) (c1 c2 c3 c4 : Int) {p : Nat} (hp : p ≤ 160000) :
    spec_l7Walk_rest t sp o b true (p : Int) c1 c2 c3 c4 = some (restV (bitAt data) p (NN data), t, sp, o, b, true, (p : Int), c1, c2, c3, c4) := by
  have hbl := B.short
  have e3 : IntKind.i64.wrap ((b.length : Int) - (p : Int)) = (b.length : Int) - (p : Int) := w64 (by omega) (by omega)
  refine evF_eq ?_
  unfold spec_l7Walk_rest_F restV
  rw [← B.len, e3]
  by_cases h : (b.length : Int) - (p : Int) > 7
  · simp only [h, decide_true, cond_true, show ¬ (b.length ≤ p + 7) by omega, decide_false, Bool.false_and]
    exact ev_now _
  · simp only [h, decide_false, cond_false, show (b.length ≤ p + 7) by omega, decide_true, Bool.true_and]
    exact spec_rest_loop B t sp o (p : Int) c1 c2 c3 c4 _ p rfl (by omega)
/-- What is decoded. -/
noncomputable def decV (t : LE) (plan data : List Int) : List Nat × Int :=
  bif planV t plan then (match thr (dev data) t plan.length plan (0, 0, 0, (0, [])) with
    | .error e => ([], e)
    | .ok s => bif restV (bitAt data) s.2.2.2.1 (NN data) then (s.2.2.2.2, 0) else ([], 6)) else ([], 1)
theorem good0 : GoodS DI (0, 0, 0, (0, [])) := ⟨by simp, by simp, by simp, by simp [DI]⟩
theorem impl_dec (t : LE) (plan : List Int) {data : List Int} (D : DataOk data) : impl_Decode t plan data = some ((decV t plan data).2, (decV t plan data).1) := by
  unfold impl_Decode decV
  rw [impl_planV, Option.bind_some]
  cases h : planV t plan with
  | false => rfl
  | true =>
    have h' := h
    simp only [planV, Bool.and_eq_true, decide_eq_true_eq] at h'
    obtain ⟨y, y1, y2⟩ := through_eq (tblV_ok h'.1) D h'.2.1 h'.2.2
    simp only [Bool.not_true, cond_false, cond_true, y1, Option.bind_some]
    cases hq : thr (dev data) t plan.length plan (0, 0, 0, (0, [])) with
    | error e =>
      rw [hq] at y2
      obtain ⟨a, b⟩ := out_err y2
      have b0 : (e == 0) = false := by rw [beqI]; exact decide_eq_false b
      simp only [a, b0, cond_false, bne_err rfl b, cond_true]
    | ok s =>
      rw [hq] at y2
      have hy : y = (0, t, (s.1 : Int), s.2.1, s.2.2.1, data, (s.2.2.2.1 : Int), s.2.2.2.2) := y2
      subst hy
      have hg := thr_keeps (dec_keeps (bitAt_bit data) (NN data)) t _ _ _ s good0 hq
      have hp : s.2.2.2.1 ≤ 160000 := by have := hg.2.2.2.1; have := hg.1; omega
      obtain ⟨n', hr⟩ := impl_rest D hp
      simp only [beq_self_eq_true, cond_true, hr, Option.bind_some, bneI, decide_true, Bool.not_true, cond_false]
      cases restV (bitAt data) s.2.2.2.1 (NN data) <;> rfl
theorem spec_dec (t : LE) (plan : List Int) {data : List Int} (D : DataOk data) : spec_Decode t plan data = some (decV t plan data) := by
  have hl := D.len
  unfold spec_Decode decV
  rw [spec_planV, Option.bind_some]
  cases h : planV t plan with
  | false => rfl
  | true =>
    have h' := h
    simp only [planV, Bool.and_eq_true, decide_eq_true_eq] at h'
    have hm : (if 20008 < (data.length : Int) then (20008 : Int) else (data.length : Int)) = ((min data.length 20008 : Nat) : Int) := by split <;> omega
    have htk : List.drop (Int.toNat 0) (List.take (min data.length 20008) data) = data.take 20008 := by
      show List.drop 0 _ = _
      rw [List.drop_zero]
      by_cases hc : data.length ≤ 20008
      · rw [Nat.min_eq_left hc, List.take_of_length_le (Nat.le_refl _), List.take_of_length_le hc]
      · rw [Nat.min_eq_right (by omega)]
    have B := bits_take D
    have hb : spec_l7Bits (data.take 20008) = some (bitsB (data.take 20008)) := bits_eq (by rw [List.length_take]; omega) (fun x hx => D.byte x (List.mem_of_mem_take hx))
    obtain ⟨y, y1, y2⟩ := run_eq (tblV_ok h'.1) B h'.2.1 h'.2.2
    simp only [Bool.not_true, cond_false, cond_true, hm, show (0 : Int) ≤ ((min data.length 20008 : Nat) : Int) by omega, show ((min data.length 20008 : Nat) : Int) ≤ (data.length : Int) by omega, decide_true, Bool.and_self, Int.toNat_natCast, htk, hb, y1, Option.bind_some]
    cases hq : thr (dev data) t plan.length plan (0, 0, 0, (0, [])) with
    | error e =>
      rw [hq] at y2
      obtain ⟨a, b, _⟩ : y.2.2.2.2.2.2.2.1 = e ∧ e ≠ 0 ∧ Fine y := y2
      have b0 : (e == 0) = false := by rw [beqI]; exact decide_eq_false b
      simp only [a, b0, cond_false, bne_err rfl b, cond_true]
    | ok s =>
      rw [hq] at y2
      obtain ⟨sp, _, rfl⟩ := y2
      have hg := thr_keeps (dec_keeps (bitAt_bit data) (NN data)) t _ _ _ s good0 hq
      have hp : s.2.2.2.1 ≤ 160000 := by have := hg.2.2.2.1; have := hg.1; omega
      have hr := spec_rest B t sp s.2.2.2.2 (s.1 : Int) s.2.1 s.2.2.1 0 hp
      simp only [beq_self_eq_true, cond_true, hr, Option.bind_some, bneI, decide_true, Bool.not_true, cond_false]
      cases restV (bitAt data) s.2.2.2.1 (NN data) <;> rfl
end Go.Proofs.Ytgkejafaggaocaa.DE
