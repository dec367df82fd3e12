/-
  Part of a proof by the engine: texts that a program of ours printed, or plain lemmas on them. No condition but what each theorem says.
-/
import Derived.Test.YtgkejafaggaocaaEN
import Derived.Test.YtgkejafaggaocaaPOPlain
set_option linter.unusedVariables false
set_option linter.unusedSimpArgs false
namespace Go.Proofs.Ytgkejafaggaocaa.EN
open Go Go.Eng Go.TB Go.FT Go.Proofs.Ytgkejafaggaocaa.EX Go.Proofs.Ytgkejafaggaocaa.PO
theorem and64u (x : Int) : (((BitVec.ofInt IntKind.u64.bits x &&& BitVec.ofInt IntKind.u64.bits 1).toNat : Nat) : Int) = x % 2 := and_one (by decide) x
theorem fdiv_cast (n : Int) (w : Nat) : n.fdiv ((2 ^ w : Nat) : Int) = n / ((2 ^ w : Nat) : Int) := by rw [← fdiv_pow, pow_cast]
theorem put_loop (v : Int) : ∀ (w : Nat) (b : List Int), w ≤ 60 → b.length + w ≤ 50000000 → Bits b → Ev (fun k => impl_bits_put_L1 k v ((w : Int) - 1) (b.length : Int) (bytesB b)) (((b.length + w : Nat) : Int), bytesB (b ++ nbits v w))
  | 0, b, hw, hl, hb => by
    apply ev_succ
    simp only [impl_bits_put_L1, show ¬ (((0 : Nat) : Int) - 1 ≥ 0) by omega, decide_false, cond_false, nbits, List.append_nil]
    exact ev_now _
  | w + 1, b, hw, hl, hb => by
    have hx : (v / ((2 ^ w : Nat) : Int)) % 2 = 0 ∨ (v / ((2 ^ w : Nat) : Int)) % 2 = 1 := by omega
    have hnb : nbits v (w + 1) = (v / ((2 ^ w : Nat) : Int)) % 2 :: nbits v w := rfl
    generalize hxx : (v / ((2 ^ w : Nat) : Int)) % 2 = x at hx hnb
    have ih := put_loop v w (b ++ [x]) (by omega) (by simp; omega) (bits_append hb (fun y hy => by rw [List.mem_singleton] at hy; rw [hy]; exact hx))
    have hres : (((b.length + (w + 1) : Nat) : Int), bytesB (b ++ nbits v (w + 1))) = ((((b ++ [x]).length + w : Nat) : Int), bytesB (b ++ [x] ++ nbits v w)) := by
      rw [hnb, List.append_assoc]
      simp only [List.length_append, List.length_singleton, List.singleton_append]
      congr 1
      omega
    rw [hres]
    generalize (((((b ++ [x]).length + w : Nat) : Int)), bytesB (b ++ [x] ++ nbits v w)) = res at ih ⊢
    have hlx : (((b ++ [x]).length : Nat) : Int) = ((b.length + 1 : Nat) : Int) := by simp
    rw [hlx] at ih
    generalize hn : b.length = n at *
    have e0 : ((w + 1 : Nat) : Int) - 1 = (w : Int) := by omega
    have e01 : IntKind.i64.wrap ((w : Int) - 1) = (w : Int) - 1 := w64 (by omega) (by omega)
    have e1 : IntKind.i64.wrap ((n : Int).tdiv 8) = ((n / 8 : Nat) : Int) := by rw [Int.tdiv_eq_ediv_of_nonneg (by omega), w64 (by omega) (by omega)]; omega
    have e2 : (n : Int).tmod 8 = ((n % 8 : Nat) : Int) := by rw [Int.tmod_eq_emod_of_nonneg (by omega)]; omega
    have e3 : IntKind.i64.wrap (7 - ((n % 8 : Nat) : Int)) = ((7 - n % 8 : Nat) : Int) := by rw [w64 (by omega) (by omega)]; omega
    have e5 : min (7 - n % 8) IntKind.u8.bits = 7 - n % 8 := by have : IntKind.u8.bits = 8 := rfl; omega
    have e51 : min w IntKind.u64.bits = w := by have : IntKind.u64.bits = 64 := rfl; omega
    have hol := openB_length b
    rw [hn] at hol
    have hk : n / 8 < (openB b).length := by omega
    have e6 : rd (.int .u8) (openB b) ((n / 8 : Nat) : Int) = byteAt b (n / 8) := (rd_nat hk).trans (openB_get _ hk)
    have e61 : IntKind.u64.wrap x = x := wu64 (by omega) (by omega)
    have e7 := or_at hb (x := x) hx
    rw [hn] at e7
    have e8 := bytes_step b x
    rw [hn] at e8
    have e9 : setW (openB b) ((n / 8 : Nat) : Int) (byteAt b (n / 8) + x * ((2 ^ (7 - n % 8) : Nat) : Int)) = some (bytesB (b ++ [x])) := by rw [setW_nat hk, e8]
    have hmax := maxB
    have hbl := bytesB_length b
    rw [hn] at hbl
    apply ev_succ
    by_cases h0 : n % 8 = 0
    · have ho : openB b = bytesB b ++ [0] := by unfold openB; rw [hn, if_pos h0]
      have e2' : (n : Int).tmod 8 = 0 := by rw [e2, h0]; rfl
      have e3'' : IntKind.i64.wrap (7 - 0) = ((7 - n % 8 : Nat) : Int) := by rw [h0]; rfl
      rcases hx with h | h
      · have e10 : openB b = bytesB (b ++ [x]) := by
          rw [← e8, h, Int.zero_mul, Int.add_zero, ← openB_get b hk, List.set_getElem_self]
        rw [ho] at e10
        simp only [impl_bits_put_L1, e0, e01, e1, e2', e3'', e51, Int.toNat_natCast, fdiv_pow, and64u, hxx, e61, beqI, h, show ¬ ((0 : Int) = 1) by omega, beq_self_eq_true, show (w : Int) ≥ 0 by omega, show (0 : Int) ≤ (w : Int) by omega, decide_true, decide_false, cond_true, cond_false, List.length_singleton, show (bytesB b).length + 1 ≤ maxBytes / 1 by omega,
          wsucc (show n < 9223372036854775807 by omega)]
        rw [e10]
        exact ih
      · rw [ho] at e6 e9
        have hlen : (bytesB b ++ [0]).length = n / 8 + 1 := by rw [← ho]; exact hol
        rw [h] at e7 e9
        simp only [impl_bits_put_L1, e0, e01, e1, e2', e3'', e5, e51, Int.toNat_natCast, fdiv_pow, and64u, hxx, e61, beqI, h, pow_cast_eq, fdiv_cast, e6, e7, e9, hlen, beq_self_eq_true, show (w : Int) ≥ 0 by omega, show (0 : Int) ≤ (w : Int) by omega, decide_true, cond_true, List.length_singleton, show (bytesB b).length + 1 ≤ maxBytes / 1 by omega,
          show (0 : Int) ≤ ((n / 8 : Nat) : Int) by omega, show ((n / 8 : Nat) : Int) < ((n / 8 + 1 : Nat) : Int) by omega, show (0 : Int) ≤ ((7 - n % 8 : Nat) : Int) by omega, Option.bind_some, wsucc (show n < 9223372036854775807 by omega)]
        rw [h] at ih
        exact ih
    · have ho : openB b = bytesB b := by unfold openB; rw [hn, if_neg h0]
      have hb0 : (((n % 8 : Nat) : Int) == 0) = false := by rw [beqI]; exact decide_eq_false (by omega)
      rcases hx with h | h
      · have e10 : openB b = bytesB (b ++ [x]) := by
          rw [← e8, h, Int.zero_mul, Int.add_zero, ← openB_get b hk, List.set_getElem_self]
        rw [ho] at e10
        have hb1 : ((0 : Int) == 1) = false := rfl
        simp only [impl_bits_put_L1, e0, e01, e1, e2, e3, e51, hb0, Int.toNat_natCast, fdiv_pow, and64u, hxx, e61, h, hb1, show (w : Int) ≥ 0 by omega, show (0 : Int) ≤ (w : Int) by omega, decide_true, cond_true, cond_false, wsucc (show n < 9223372036854775807 by omega)]
        rw [e10]
        exact ih
      · rw [ho] at e6 e9
        have hlen : (bytesB b).length = n / 8 + 1 := by rw [← ho]; exact hol
        rw [h] at e7 e9
        simp only [impl_bits_put_L1, e0, e01, e1, e2, e3, e5, e51, hb0, Int.toNat_natCast, fdiv_pow, and64u, hxx, e61, h, pow_cast_eq, fdiv_cast, e6, e7, e9, hlen, beq_self_eq_true, show (w : Int) ≥ 0 by omega, show (0 : Int) ≤ (w : Int) by omega, decide_true, cond_true, cond_false,
          show (0 : Int) ≤ ((n / 8 : Nat) : Int) by omega, show ((n / 8 : Nat) : Int) < ((n / 8 + 1 : Nat) : Int) by omega, show (0 : Int) ≤ ((7 - n % 8 : Nat) : Int) by omega, Option.bind_some, wsucc (show n < 9223372036854775807 by omega)]
        rw [h] at ih
        exact ih
theorem put_eq (v : Int) {w : Nat} {b : List Int} (hw : w ≤ 60) (hl : b.length + w ≤ 50000000) (hb : Bits b) : impl_bits_put v (w : Int) (b.length : Int) (bytesB b) = some (((b.length + w : Nat) : Int), bytesB (b ++ nbits v w)) := by
  refine evF_eq ?_
  unfold impl_bits_put_F
  rw [w64 (n := (w : Int) - 1) (by omega) (by omega)]
  exact put_loop v w b hw hl hb
end Go.Proofs.Ytgkejafaggaocaa.EN

namespace Go.Proofs.Ytgkejafaggaocaa.EN
open Go Go.Eng Go.TB Go.FT Go.Proofs.Ytgkejafaggaocaa.EX Go.Proofs.Ytgkejafaggaocaa.PO
abbrev Q := Nat × List Int
theorem elOk_iff {e : El} : elOk e = true ↔ (1 ≤ e.2.1 ∧ e.2.1 ≤ 32) ∧ (-10 ≤ e.2.2.1 ∧ e.2.2.1 ≤ 10) := by
  unfold elOk; simp [Bool.and_eq_true]
/-! ### the device that writes -/
noncomputable def encDev (vs : List Nat) : Dev Q where
  cnt q := if q.1 = vs.length then .error 3 else match wholeV (vs.getD q.1 0) with
    | none => .error 5
    | some n => .ok (n, (q.1 + 1, q.2 ++ nbits (n : Int) 8))
  val e q := if q.1 = vs.length then .error 3 else match numB e.2.1.toNat e.2.2.1 e.2.2.2 (vs.getD q.1 0) with
    | none => .error 5
    | some n => .ok (q.1 + 1, q.2 ++ nbits n e.2.1.toNat)
/-- Values are words. -/
def Words (vs : List Nat) : Prop := ∀ x ∈ vs, x < 2 ^ 64
def EI (vs : List Nat) (n : Nat) (q : Q) : Prop := q.1 ≤ vs.length ∧ q.2.length ≤ 32 * n ∧ Bits q.2
theorem wholeV_le {x n : Nat} (h : wholeV x = some n) : n ≤ 255 := by
  have := List.mem_range.1 (List.mem_of_find?_eq_some h)
  omega
theorem enc_cnt {vs : List Nat} {q : Q} {y : Nat} {q' : Q} (h : (encDev vs).cnt q = .ok (y, q')) : q.1 ≠ vs.length ∧ wholeV (vs.getD q.1 0) = some y ∧ q' = (q.1 + 1, q.2 ++ nbits (y : Int) 8) := by
  unfold encDev at h
  simp only at h
  split at h
  · cases h
  rename_i h0
  split at h
  · cases h
  · rename_i n hn
    cases h
    exact ⟨h0, hn, rfl⟩
theorem enc_val {vs : List Nat} {q : Q} {e : El} {q' : Q} (h : (encDev vs).val e q = .ok q') : q.1 ≠ vs.length ∧ ∃ n, numB e.2.1.toNat e.2.2.1 e.2.2.2 (vs.getD q.1 0) = some n ∧ q' = (q.1 + 1, q.2 ++ nbits n e.2.1.toNat) := by
  unfold encDev at h
  simp only at h
  split at h
  · cases h
  rename_i h0
  split at h
  · cases h
  · rename_i n hn
    cases h
    exact ⟨h0, n, hn, rfl⟩
theorem enc_keeps (vs : List Nat) : Keeps (encDev vs) (EI vs) where
  next := fun h => ⟨h.1, by have := h.2.1; omega, h.2.2⟩
  cnt := fun {n q y q'} hn h e => by
    obtain ⟨h0, h1, rfl⟩ := enc_cnt e
    refine ⟨⟨by have := h.1; simp only; omega, by have := h.2.1; simp only [List.length_append, nbits_length]; omega, bits_append h.2.2 (nbits_bit _ _)⟩, wholeV_le h1⟩
  val := fun {n e q q'} hn h he hh => by
    obtain ⟨h0, m, h1, rfl⟩ := enc_val hh
    have := elOk_iff.1 he
    refine ⟨by have := h.1; simp only; omega, by have := h.2.1; simp only [List.length_append, nbits_length]; omega, bits_append h.2.2 (nbits_bit _ _)⟩
abbrev TR := Int × LE × Int × Int × Int × Int × List Nat × Int × List Int × List El × List Int
def Out (t : LE) (vs : List Nat) (y : TR) : Except Int (St Q) → Prop
  | .ok s => ∃ nu el, nu.length ≤ s.1 ∧ el.length ≤ s.1 ∧ y = (0, t, (s.1 : Int), s.2.1, s.2.2.1, (s.2.2.2.1 : Int), vs, (s.2.2.2.2.length : Int), nu, el, bytesB s.2.2.2.2)
  | .error e => y.1 = e ∧ e ≠ 0
theorem max8 : 100000 ≤ maxBytes / 8 := by decide
theorem max32 : 100000 ≤ maxBytes / 32 := by decide
theorem rd_flt {vs : List Nat} {n : Nat} (h : n < vs.length) : rd .flt vs (n : Int) = vs.getD n 0 := by
  rw [rd_nat h, List.getD_eq_getElem?_getD, List.getElem?_eq_getElem h, Option.getD_some]
theorem getD_mem {vs : List Nat} {n : Nat} (h : n < vs.length) : vs.getD n 0 ∈ vs := by
  rw [List.getD_eq_getElem?_getD, List.getElem?_eq_getElem h, Option.getD_some]; exact List.getElem_mem h
theorem d1 {vs : List Nat} (W : Words vs) (hl : vs.length ≤ 2000000) {n : Nat} {q : Q} (hn : n < 5000) (h : EI vs n q) :
    (∃ y q', (encDev vs).cnt q = .ok (y, q') ∧ impl_encode_1 (q.1 : Int) vs (q.2.length : Int) (bytesB q.2) = some ((y : Int), 0, (q'.1 : Int), vs, (q'.2.length : Int), bytesB q'.2)) ∨
    (∃ c z, (encDev vs).cnt q = .error c ∧ c ≠ 0 ∧ impl_encode_1 (q.1 : Int) vs (q.2.length : Int) (bytesB q.2) = some z ∧ z.2.1 = c) := by
  obtain ⟨h1, h2, h3⟩ := h
  unfold impl_encode_1 encDev
  simp only [beqI]
  by_cases h0 : q.1 = vs.length
  · right
    simp only [h0, if_true, decide_true, cond_true]
    exact ⟨3, _, rfl, by decide, rfl, rfl⟩
  · have hlt : q.1 < vs.length := by omega
    simp only [h0, if_false, show ¬ ((q.1 : Int) = (vs.length : Int)) by omega, decide_false, cond_false, show (0 : Int) ≤ (q.1 : Int) by omega, show (q.1 : Int) < (vs.length : Int) by omega, decide_true, cond_true, rd_flt hlt]
    rcases whole_both (W _ (getD_mem hlt)) with ⟨m, m0, m1, m2, _⟩ | ⟨m1, a, _, m2, _⟩
    · left
      have hp := put_eq (m : Int) (w := 8) (b := q.2) (by omega) (by omega) h3
      have hp' : impl_bits_put (m : Int) 8 (q.2.length : Int) (bytesB q.2) = some (((q.2.length + 8 : Nat) : Int), bytesB (q.2 ++ nbits (m : Int) 8)) := hp
      refine ⟨m, (q.1 + 1, q.2 ++ nbits (m : Int) 8), by simp only [m1], ?_⟩
      simp only [m2, Option.bind_some, Bool.not_true, cond_false, wu64 (n := (m : Int)) (by omega) (by omega), hp', wsucc (show q.1 < 9223372036854775807 by omega), List.length_append, nbits_length]
    · right
      refine ⟨5, (0, 5, ((q.1 + 1 : Nat) : Int), vs, (q.2.length : Int), bytesB q.2), by simp only [m1], by decide, ?_, rfl⟩
      simp only [m2, Option.bind_some, Bool.not_false, cond_true, wsucc (show q.1 < 9223372036854775807 by omega)]
theorem d2 {vs : List Nat} (hl : vs.length ≤ 2000000) {n : Nat} {q : Q} (hn : n < 5000) (h : EI vs n q) {e : El} (he : elOk e = true) {nu : List Int} {el : List El} (hnu : nu.length ≤ n) (hel : el.length ≤ n) :
    (∃ q' m, (encDev vs).val e q = .ok q' ∧ impl_encode_2 e.1 e.2.1 e.2.2.1 e.2.2.2 (q.1 : Int) vs (q.2.length : Int) nu el (bytesB q.2) = some (0, (q'.1 : Int), vs, (q'.2.length : Int), nu ++ [m], el ++ [(e.1, e.2.1, e.2.2.1, e.2.2.2)], bytesB q'.2)) ∨
    (∃ c z, (encDev vs).val e q = .error c ∧ c ≠ 0 ∧ impl_encode_2 e.1 e.2.1 e.2.2.1 e.2.2.2 (q.1 : Int) vs (q.2.length : Int) nu el (bytesB q.2) = some z ∧ z.1 = c) := by
  obtain ⟨h1, h2, h3⟩ := h
  obtain ⟨hw, hs⟩ := elOk_iff.1 he
  have hm8 := max8
  have hm32 := max32
  obtain ⟨w, hwe⟩ : ∃ w : Nat, e.2.1 = (w : Int) := ⟨e.2.1.toNat, by omega⟩
  unfold impl_encode_2 encDev
  simp only [hwe, beqI, Int.toNat_natCast]
  by_cases h0 : q.1 = vs.length
  · right
    simp only [h0, if_true, decide_true, cond_true]
    exact ⟨3, _, rfl, by decide, rfl, rfl⟩
  · have hlt : q.1 < vs.length := by omega
    simp only [h0, if_false, show ¬ ((q.1 : Int) = (vs.length : Int)) by omega, decide_false, cond_false, show (0 : Int) ≤ (q.1 : Int) by omega, show (q.1 : Int) < (vs.length : Int) by omega, decide_true, cond_true, rd_flt hlt]
    rcases impl_num (w := w) (by omega) hs e.1 e.2.2.2 (vs.getD q.1 0) with ⟨m, m1, m2⟩ | ⟨m1, a, m2⟩
    · left
      have hp := put_eq m (w := w) (b := q.2) (by omega) (by omega) h3
      refine ⟨(q.1 + 1, q.2 ++ nbits m w), m, by simp only [m1], ?_⟩
      simp only [m2, Option.bind_some, Bool.not_true, cond_false, hp, wsucc (show q.1 < 9223372036854775807 by omega), List.length_append, nbits_length, List.length_singleton, show nu.length + 1 ≤ maxBytes / 8 by omega, show el.length + 1 ≤ maxBytes / 32 by omega, decide_true, cond_true]
    · right
      refine ⟨5, (5, ((q.1 + 1 : Nat) : Int), vs, (q.2.length : Int), nu, el, bytesB q.2), by simp only [m1], by decide, ?_, rfl⟩
      simp only [m2, Option.bind_some, Bool.not_false, cond_true, wsucc (show q.1 < 9223372036854775807 by omega)]
theorem elAt_some {t : LE} {d w c : Int} {e : El} (h : lookE t d = some e) : elAt t d w c = (e.1, e.2.1 + w, e.2.2.1 + c, e.2.2.2) := by unfold elAt; rw [h]; rfl
noncomputable abbrev R := impl_goer_through_R
def PartOk (t : LE) (vs : List Nat) (M k : Nat) (part : List Int) : Prop :=
  ∀ (s : St Q) (nu : List Int) (el : List El), GoodS (EI vs) s → nu.length ≤ s.1 → el.length ≤ s.1 → ∃ y : TR, (∀ m, M ≤ m → R m part t (s.1 : Int) s.2.1 s.2.2.1 (s.2.2.2.1 : Int) vs (s.2.2.2.2.length : Int) nu el (bytesB s.2.2.2.2) = some y) ∧ Out t vs y (thr (encDev vs) t k part s)
def RestOk (t : LE) (vs : List Nat) (M k : Nat) (plan : List Int) (i : Nat) : Prop :=
  ∀ (s : St Q) (nu : List Int) (el : List El), GoodS (EI vs) s → nu.length ≤ s.1 → el.length ≤ s.1 → ∃ y : TR, (∀ m, M ≤ m → Ev (fun z => impl_goer_through_L2 (R m) z plan (i : Int) t (s.1 : Int) s.2.1 s.2.2.1 (s.2.2.2.1 : Int) vs (s.2.2.2.2.length : Int) nu el (bytesB s.2.2.2.2)) y) ∧ Out t vs y (thr (encDev vs) t k (plan.drop i) s)
theorem rep_loop {t : LE} {vs : List Nat} {plan part : List Int} {M k i x : Nat} (hi : i + 1 + x ≤ 1000) (hP : PartOk t vs M k part) (hR : RestOk t vs M k plan (i + 1 + x)) :
    ∀ (y : Nat) (s : St Q) (nu : List Int) (el : List El), y ≤ 1000 → GoodS (EI vs) s → nu.length ≤ s.1 → el.length ≤ s.1 → ∃ r : TR, (∀ m, M ≤ m → Ev (fun z => impl_goer_through_L16 (R m) z plan (i : Int) (x : Int) (y : Int) part t (s.1 : Int) s.2.1 s.2.2.1 (s.2.2.2.1 : Int) vs (s.2.2.2.2.length : Int) nu el (bytesB s.2.2.2.2)) r) ∧
      Out t vs r ((rep (thr (encDev vs) t k part) y s).bind fun s => thr (encDev vs) t k (plan.drop (i + 1 + x)) s)
  | 0, s, nu, el, hy, hg, hnu, hel => by
    obtain ⟨r, h1, h2⟩ := hR s nu el hg hnu hel
    refine ⟨r, fun m hm => ?_, h2⟩
    have e1 : IntKind.i64.wrap (IntKind.i64.wrap ((i : Int) + (x : Int)) + 1) = ((i + 1 + x : Nat) : Int) := by rw [w64 (n := (i : Int) + (x : Int)) (by omega) (by omega), w64 (by omega) (by omega)]; omega
    apply ev_succ
    simp only [impl_goer_through_L16, show ¬ (((0 : Nat) : Int) > 0) by omega, decide_false, cond_false, e1]
    exact h1 m hm
  | y + 1, s, nu, el, hy, hg, hnu, hel => by
    obtain ⟨r, h1, h2⟩ := hP s nu el hg hnu hel
    have e1 : IntKind.i64.wrap (((y + 1 : Nat) : Int) - 1) = (y : Int) := by rw [w64 (by omega) (by omega)]; omega
    cases hq : thr (encDev vs) t k part s with
    | error e =>
      rw [hq] at h2
      obtain ⟨a, b⟩ : r.1 = e ∧ e ≠ 0 := h2
      refine ⟨r, fun m hm => ?_, ?_⟩
      · apply ev_succ
        have hb : (r.1 != 0) = true := by rw [bneI]; simp [a, b]
        simp only [impl_goer_through_L16, show (((y + 1 : Nat) : Int) > 0) by omega, decide_true, cond_true, h1 m hm, Option.bind_some, hb]
        exact ev_now _
      · unfold rep
        rw [hq]
        exact ⟨a, b⟩
    | ok s' =>
      rw [hq] at h2
      obtain ⟨nu', el', hnu', hel', rfl⟩ := h2
      have hg' := thr_keeps (enc_keeps vs) t k part s s' hg hq
      obtain ⟨r', h3, h4⟩ := rep_loop hi hP hR y s' nu' el' (by omega) hg' hnu' hel'
      refine ⟨r', fun m hm => ?_, ?_⟩
      · apply ev_succ
        simp only [impl_goer_through_L16, show (((y + 1 : Nat) : Int) > 0) by omega, decide_true, cond_true, h1 m hm, Option.bind_some, bneI, decide_true, Bool.not_true, cond_false, e1]
        exact h3 m hm
      · unfold rep
        rw [hq]
        exact h4
end Go.Proofs.Ytgkejafaggaocaa.EN

namespace Go.Proofs.Ytgkejafaggaocaa.EN
open Go Go.Eng Go.TB Go.FT Go.Proofs.Ytgkejafaggaocaa.EX Go.Proofs.Ytgkejafaggaocaa.PO
theorem thr_nil {D : Type} (dv : Dev D) (t : LE) (k : Nat) (s : St D) : thr dv t k [] s = .ok s := by cases k <;> rfl
theorem thr_cons {D : Type} (dv : Dev D) (t : LE) (k : Nat) (d : Int) (r : List Int) (s : St D) : thr dv t (k + 1) (d :: r) s =
    if 5000 < s.1 + 1 then .error 2
    else if isRep d then
      (if yOf d = 0 then dv.cnt s.2.2.2 else .ok (yOf d, s.2.2.2)).bind fun z => (rep (thr dv t k (r.take (xOf d))) z.1 (s.1 + 1, s.2.1, s.2.2.1, z.2)).bind fun s => thr dv t k (r.drop (xOf d)) s
    else if isOp d then
      (if d < 202000 then thr dv t k r (s.1 + 1, shf d, s.2.2.1, s.2.2.2) else thr dv t k r (s.1 + 1, s.2.1, shf d, s.2.2.2))
    else if elOk (elAt t d s.2.1 s.2.2.1) then (dv.val (elAt t d s.2.1 s.2.2.1) s.2.2.2).bind fun q => thr dv t k r (s.1 + 1, s.2.1, s.2.2.1, q)
    else .error 4 := rfl
/-- What a plan that is right says of its first descriptor. -/
theorem fits_rep {t : LE} {k : Nat} {d : Int} {r : List Int} (h : fits t (k + 1) (d :: r) = true) (hR : isRep d = true) : yOf d ≤ 255 ∧ xOf d ≤ r.length ∧ fits t k (r.take (xOf d)) = true ∧ fits t k (r.drop (xOf d)) = true := by
  rw [fits_cons, if_pos hR] at h
  simp only [Bool.and_eq_true, decide_eq_true_eq] at h
  have := rep_range.1 hR
  refine ⟨by unfold yOf; omega, h.2.1, h.2.2.1, h.2.2.2⟩
theorem fits_op {t : LE} {k : Nat} {d : Int} {r : List Int} (h : fits t (k + 1) (d :: r) = true) (hR : isRep d = false) (hO : isOp d = true) : fits t k r = true := by
  rw [fits_cons, if_neg (by rw [hR]; exact Bool.false_ne_true), if_pos hO] at h; exact h
theorem fits_el {t : LE} {k : Nat} {d : Int} {r : List Int} (h : fits t (k + 1) (d :: r) = true) (hR : isRep d = false) (hO : isOp d = false) : (∃ e, lookE t d = some e) ∧ 1 ≤ d ∧ d ≤ 99999 ∧ fits t k r = true := by
  rw [fits_cons, if_neg (by rw [hR]; exact Bool.false_ne_true), if_neg (by rw [hO]; exact Bool.false_ne_true)] at h
  simp only [Bool.and_eq_true, decide_eq_true_eq] at h
  exact ⟨Option.isSome_iff_exists.1 h.1, h.2.1, h.2.2.1, h.2.2.2⟩
theorem op_range2 {d : Int} (h : isOp d = true) : (201000 ≤ d ∧ d ≤ 201255) ∨ (202000 ≤ d ∧ d ≤ 202255) := by
  unfold isOp at h
  simpa [Bool.or_eq_true, Bool.and_eq_true, decide_eq_true_eq] using h
theorem bne_err {a e : Int} (h : a = e) (he : e ≠ 0) : (a != 0) = true := by rw [bneI]; simp [h, he]
theorem thr_loop {t : LE} {vs : List Nat} (hT : t.length ≤ 200 ∧ ∀ e ∈ t, EOk e) (W : Words vs) (hl : vs.length ≤ 2000000) {plan : List Int} (hp : plan.length ≤ 100)
    (hrc : ∀ part : List Int, part.length < plan.length → ∀ k, part.length ≤ k → fits t k part = true → PartOk t vs plan.length k part) :
    ∀ k i : Nat, plan.length - i ≤ k → i ≤ plan.length → fits t k (plan.drop i) = true → RestOk t vs plan.length k plan i := by
  have fin : ∀ (k i : Nat), ¬ i < plan.length → RestOk t vs plan.length k plan i := fun k i hi s nu el hg hnu hel => by
    have : plan.drop i = [] := List.drop_eq_nil_of_le (by omega)
    refine ⟨_, fun m hm => ?_, by rw [this, thr_nil]; exact ⟨nu, el, hnu, hel, rfl⟩⟩
    apply ev_succ
    simp only [impl_goer_through_L2, show ¬ ((i : Int) < (plan.length : Int)) by omega, decide_false, cond_false]
    exact ev_now _
  intro k
  induction k with
  | zero => exact fun i h1 h2 _ => fin 0 i (by omega)
  | succ k ih =>
    intro i h1 h2 hF
    by_cases hi : i < plan.length
    rotate_left
    · exact fin _ i hi
    intro s nu el hg hnu hel
    obtain ⟨g1, g2, g3, g4⟩ := hg
    have e1 : rd (.int .i64) plan (i : Int) = plan[i] := rd_nat hi
    rw [List.drop_eq_getElem_cons hi] at hF ⊢
    generalize hd : plan[i] = d at e1 hF
    have e2 : IntKind.i64.wrap ((s.1 : Int) + 1) = ((s.1 + 1 : Nat) : Int) := by rw [w64 (by omega) (by omega)]; omega
    rw [thr_cons]
    by_cases hn : 5000 < s.1 + 1
    · refine ⟨(2, t, ((s.1 + 1 : Nat) : Int), s.2.1, s.2.2.1, (s.2.2.2.1 : Int), vs, (s.2.2.2.2.length : Int), nu, el, bytesB s.2.2.2.2), fun m hm => ?_, ?_⟩
      · apply ev_succ
        simp only [impl_goer_through_L2, show (i : Int) < (plan.length : Int) by omega, decide_true, cond_true, e2, show (((s.1 + 1 : Nat) : Int) > 5000) by omega]
        exact ev_now _
      · rw [if_pos hn]; exact ⟨rfl, by decide⟩
    rw [if_neg hn]
    cases hR : isRep d with
    | true =>
      rw [if_pos rfl]
      obtain ⟨f1, f2, f3, f4⟩ := fits_rep hF hR
      have hx := x_range hR
      rw [List.length_drop] at f2
      have P := part_of (plan := plan) (i := i) (x := xOf d) (by omega) hx.2
      have hlen : ((plan.drop (i + 1)).take (xOf d)).length = xOf d := by rw [List.length_take, List.length_drop]; omega
      have hP := hrc _ (by rw [hlen]; omega) k (by rw [hlen]; omega) f3
      have hRest := ih (i + 1 + xOf d) (by omega) (by omega) (by rw [← List.drop_drop]; exact f4)
      have lp := rep_loop (i := i) (x := xOf d) (by omega) hP hRest
      rw [List.drop_drop]
      by_cases hy : yOf d = 0
      · rw [if_pos hy]
        rcases d1 W hl (show s.1 < 5000 by omega) g4 with ⟨y, q', c1, c2⟩ | ⟨c, z, c1, c0, c2, c3⟩
        · rw [c1]
          obtain ⟨kp, ky⟩ := (enc_keeps vs).cnt (show s.1 < 5000 by omega) g4 c1
          obtain ⟨r, r1, r2⟩ := lp y (s.1 + 1, s.2.1, s.2.2.1, q') nu el (by omega) ⟨by simp only; omega, g2, g3, kp⟩ (by simp only; omega) (by simp only; omega)
          refine ⟨r, fun m hm => ?_, r2⟩
          apply ev_succ
          simp only [impl_goer_through_L2, show (i : Int) < (plan.length : Int) by omega, decide_true, cond_true, e1, e2, show ¬ (((s.1 + 1 : Nat) : Int) > 5000) by omega, decide_false, cond_false, show (0 : Int) ≤ (i : Int) by omega, repeats_yes hR, Option.bind_some,
            show ((xOf d : Nat) : Int) > 0 by omega, hy, Int.natCast_zero, beq_self_eq_true, c2, bneI, Bool.not_true, P.a, P.b, show (0 : Int) ≤ ((i + 1 + xOf d : Nat) : Int) by omega, show ((i + 1 + xOf d : Nat) : Int) ≤ (plan.length : Int) by omega, show (0 : Int) ≤ ((i + 1 : Nat) : Int) by omega,
            show ((i + 1 : Nat) : Int) ≤ ((i + 1 + xOf d : Nat) : Int) by omega, Bool.and_self, Int.toNat_natCast, part_eq]
          exact r1 m hm
        · rw [c1]
          refine ⟨(z.2.1, t, ((s.1 + 1 : Nat) : Int), s.2.1, s.2.2.1, z.2.2.1, z.2.2.2.1, z.2.2.2.2.1, nu, el, z.2.2.2.2.2), fun m hm => ?_, ⟨c3, c0⟩⟩
          have hb := bne_err c3 c0
          apply ev_succ
          simp only [impl_goer_through_L2, show (i : Int) < (plan.length : Int) by omega, decide_true, cond_true, e1, e2, show ¬ (((s.1 + 1 : Nat) : Int) > 5000) by omega, decide_false, cond_false, show (0 : Int) ≤ (i : Int) by omega, repeats_yes hR, Option.bind_some,
            show ((xOf d : Nat) : Int) > 0 by omega, hy, Int.natCast_zero, beq_self_eq_true, c2, hb]
          exact ev_now _
      · rw [if_neg hy]
        obtain ⟨r, r1, r2⟩ := lp (yOf d) (s.1 + 1, s.2.1, s.2.2.1, s.2.2.2) nu el (by omega) ⟨by simp only; omega, g2, g3, (enc_keeps vs).next g4⟩ (by simp only; omega) (by simp only; omega)
        refine ⟨r, fun m hm => ?_, r2⟩
        apply ev_succ
        simp only [impl_goer_through_L2, show (i : Int) < (plan.length : Int) by omega, decide_true, cond_true, e1, e2, show ¬ (((s.1 + 1 : Nat) : Int) > 5000) by omega, decide_false, cond_false, show (0 : Int) ≤ (i : Int) by omega, repeats_yes hR, Option.bind_some,
          show ((xOf d : Nat) : Int) > 0 by omega, beqI, show ¬ ((yOf d : Nat) : Int) = 0 by omega, P.a, P.b, show (0 : Int) ≤ ((i + 1 + xOf d : Nat) : Int) by omega, show ((i + 1 + xOf d : Nat) : Int) ≤ (plan.length : Int) by omega, show (0 : Int) ≤ ((i + 1 : Nat) : Int) by omega,
          show ((i + 1 : Nat) : Int) ≤ ((i + 1 + xOf d : Nat) : Int) by omega, Bool.and_self, Int.toNat_natCast, part_eq]
        exact r1 m hm
    | false =>
      rw [if_neg Bool.false_ne_true]
      have nx := fun f => ih (i + 1) (by omega) (by omega) f
      cases hO : isOp d with
      | true =>
        rw [if_pos rfl]
        have hr := op_range2 hO
        have hs := shf_range hO
        have nx := nx (fits_op hF hR hO)
        have a3 : d.tmod 1000 = d % 1000 := Int.tmod_eq_emod_of_nonneg (by omega)
        have a4 : IntKind.i64.wrap (d % 1000 - 128) = d % 1000 - 128 := w64 (by omega) (by omega)
        rcases hr with hr | hr
        · rw [if_pos (show d < 202000 by omega)]
          obtain ⟨r, r1, r2⟩ := nx (s.1 + 1, shf d, s.2.2.1, s.2.2.2) nu el ⟨by simp only; omega, hs, g3, (enc_keeps vs).next g4⟩ (by simp only; omega) (by simp only; omega)
          refine ⟨r, fun m hm => ?_, r2⟩
          have a1 : d.tdiv 1000 = 201 := by rw [Int.tdiv_eq_ediv_of_nonneg (by omega)]; omega
          have a2 : IntKind.i64.wrap 201 = 201 := w64 (by omega) (by omega)
          have q := r1 m hm
          simp only at q
          apply ev_succ
          simp only [impl_goer_through_L2, show (i : Int) < (plan.length : Int) by omega, decide_true, cond_true, e1, e2, show ¬ (((s.1 + 1 : Nat) : Int) > 5000) by omega, decide_false, cond_false, show (0 : Int) ≤ (i : Int) by omega, repeats_no hR, Option.bind_some,
            show ¬ ((0 : Int) > 0) by omega, a1, a2, a3, a4, beq_self_eq_true, wsucc (show i < 9223372036854775807 by omega)]
          unfold shf at q
          by_cases h0 : d % 1000 = 0
          · rw [if_pos h0] at q
            simp only [h0, show ¬ ((0 : Int) > 0) by omega, decide_false, cond_false]
            exact q
          · rw [if_neg h0] at q
            simp only [show d % 1000 > 0 by omega, decide_true, cond_true]
            exact q
        · rw [if_neg (show ¬ d < 202000 by omega)]
          obtain ⟨r, r1, r2⟩ := nx (s.1 + 1, s.2.1, shf d, s.2.2.2) nu el ⟨by simp only; omega, g2, hs, (enc_keeps vs).next g4⟩ (by simp only; omega) (by simp only; omega)
          refine ⟨r, fun m hm => ?_, r2⟩
          have a1 : d.tdiv 1000 = 202 := by rw [Int.tdiv_eq_ediv_of_nonneg (by omega)]; omega
          have a2 : IntKind.i64.wrap 202 = 202 := w64 (by omega) (by omega)
          have q := r1 m hm
          simp only at q
          apply ev_succ
          simp only [impl_goer_through_L2, show (i : Int) < (plan.length : Int) by omega, decide_true, cond_true, e1, e2, show ¬ (((s.1 + 1 : Nat) : Int) > 5000) by omega, decide_false, cond_false, show (0 : Int) ≤ (i : Int) by omega, repeats_no hR, Option.bind_some,
            show ¬ ((0 : Int) > 0) by omega, a1, a2, a3, a4, beqI, show ¬ ((202 : Int) = 201) by omega, wsucc (show i < 9223372036854775807 by omega)]
          unfold shf at q
          by_cases h0 : d % 1000 = 0
          · rw [if_pos h0] at q
            simp only [h0, show ¬ ((0 : Int) > 0) by omega, decide_false, cond_false]
            exact q
          · rw [if_neg h0] at q
            simp only [show d % 1000 > 0 by omega, decide_true, cond_true]
            exact q
      | false =>
        rw [if_neg Bool.false_ne_true]
        obtain ⟨⟨e, he⟩, l1, l2, l3⟩ := fits_el hF hR hO
        have nx := nx l3
        obtain ⟨o1, o2, o3, o4⟩ := hT.2 e (look_mem he)
        rw [elAt_some he]
        have a1 : d.tdiv 1000 = d / 1000 := Int.tdiv_eq_ediv_of_nonneg (by omega)
        have a2 : IntKind.i64.wrap (d / 1000) = d / 1000 := w64 (by omega) (by omega)
        have b1 : IntKind.i64.wrap (e.2.1 + s.2.1) = e.2.1 + s.2.1 := w64 (by omega) (by omega)
        have b2 : IntKind.i64.wrap (e.2.2.1 + s.2.2.1) = e.2.2.1 + s.2.2.1 := w64 (by omega) (by omega)
        have helq : elOk (e.1, e.2.1 + s.2.1, e.2.2.1 + s.2.2.1, e.2.2.2) = (inB (e.2.1 + s.2.1) 1 32 && inB (e.2.2.1 + s.2.2.1) (-10) 10) := rfl
        have hlk : impl_elemOf t d = some (e.1, e.2.1, e.2.2.1, e.2.2.2, true) := by rw [impl_el (by omega), he]; rfl
        cases hE : elOk (e.1, e.2.1 + s.2.1, e.2.2.1 + s.2.2.1, e.2.2.2) with
        | true =>
          rw [if_pos rfl]
          have hE' := hE
          rw [helq, Bool.and_eq_true] at hE'
          rcases d2 hl (show s.1 < 5000 by omega) g4 hE hnu hel with ⟨q', m0, c1, c2⟩ | ⟨c, z, c1, c0, c2, c3⟩
          · rw [c1]
            have kp := (enc_keeps vs).val (show s.1 < 5000 by omega) g4 hE c1
            obtain ⟨r, r1, r2⟩ := nx (s.1 + 1, s.2.1, s.2.2.1, q') (nu ++ [m0]) (el ++ [(e.1, e.2.1 + s.2.1, e.2.2.1 + s.2.2.1, e.2.2.2)]) ⟨by simp only; omega, g2, g3, kp⟩ (by simp only [List.length_append, List.length_singleton]; omega) (by simp only [List.length_append, List.length_singleton]; omega)
            refine ⟨r, fun m hm => ?_, r2⟩
            simp only at c2
            apply ev_succ
            simp only [impl_goer_through_L2, show (i : Int) < (plan.length : Int) by omega, decide_true, cond_true, e1, e2, show ¬ (((s.1 + 1 : Nat) : Int) > 5000) by omega, decide_false, cond_false, show (0 : Int) ≤ (i : Int) by omega, repeats_no hR, Option.bind_some,
              show ¬ ((0 : Int) > 0) by omega, a1, a2, beqI, show ¬ (d / 1000 = 201) by omega, show ¬ (d / 1000 = 202) by omega, hlk, b1, b2, in_eq, hE'.1, hE'.2, Bool.not_true, c2, bneI, wsucc (show i < 9223372036854775807 by omega)]
            exact r1 m hm
          · rw [c1]
            refine ⟨(z.1, t, ((s.1 + 1 : Nat) : Int), s.2.1, s.2.2.1, z.2.1, z.2.2.1, z.2.2.2.1, z.2.2.2.2.1, z.2.2.2.2.2.1, z.2.2.2.2.2.2), fun m hm => ?_, ⟨c3, c0⟩⟩
            simp only at c2
            have hb := bne_err c3 c0
            apply ev_succ
            simp only [impl_goer_through_L2, show (i : Int) < (plan.length : Int) by omega, decide_true, cond_true, e1, e2, show ¬ (((s.1 + 1 : Nat) : Int) > 5000) by omega, decide_false, cond_false, show (0 : Int) ≤ (i : Int) by omega, repeats_no hR, Option.bind_some,
              show ¬ ((0 : Int) > 0) by omega, a1, a2, beqI, show ¬ (d / 1000 = 201) by omega, show ¬ (d / 1000 = 202) by omega, hlk, b1, b2, in_eq, hE'.1, hE'.2, Bool.not_true, c2, hb]
            exact ev_now _
        | false =>
          rw [if_neg Bool.false_ne_true]
          rw [helq] at hE
          refine ⟨(4, t, ((s.1 + 1 : Nat) : Int), s.2.1, s.2.2.1, (s.2.2.2.1 : Int), vs, (s.2.2.2.2.length : Int), nu, el, bytesB s.2.2.2.2), fun m hm => ?_, ⟨rfl, by decide⟩⟩
          apply ev_succ
          simp only [impl_goer_through_L2, show (i : Int) < (plan.length : Int) by omega, decide_true, cond_true, e1, e2, show ¬ (((s.1 + 1 : Nat) : Int) > 5000) by omega, decide_false, cond_false, show (0 : Int) ≤ (i : Int) by omega, repeats_no hR, Option.bind_some,
            show ¬ ((0 : Int) > 0) by omega, a1, a2, beqI, show ¬ (d / 1000 = 201) by omega, show ¬ (d / 1000 = 202) by omega, hlk, b1, b2, in_eq]
          cases hb1 : inB (e.2.1 + s.2.1) 1 32 with
          | false => exact ev_now _
          | true =>
            rw [hb1] at hE
            simp only [Bool.true_and] at hE
            rw [hE]
            exact ev_now _
theorem thr_R {t : LE} {vs : List Nat} (hT : t.length ≤ 200 ∧ ∀ e ∈ t, EOk e) (W : Words vs) (hl : vs.length ≤ 2000000) : ∀ (n : Nat) (plan : List Int), plan.length ≤ n → plan.length ≤ 100 → ∀ k, plan.length ≤ k → fits t k plan = true → PartOk t vs (plan.length + 1) k plan := by
  intro n
  induction n with
  | zero =>
    intro plan h0 hp k hk hF s nu el hg hnu hel
    have h := thr_loop hT W hl hp (fun part h1 => by omega) k 0 (by omega) (by omega) hF s nu el hg hnu hel
    obtain ⟨y, h1, h2⟩ := h
    refine ⟨y, fun m hm => ?_, h2⟩
    obtain ⟨m', rfl⟩ : ∃ m', m = m' + 1 := ⟨m - 1, by omega⟩
    exact evF_eq (h1 m' (by omega))
  | succ n ih =>
    intro plan h0 hp k hk hF s nu el hg hnu hel
    have h := thr_loop hT W hl hp (fun part h1 k' h2 h3 s' nu' el' hg' hnu' hel' => by
      obtain ⟨y, a, b⟩ := ih part (by omega) (by omega) k' h2 h3 s' nu' el' hg' hnu' hel'
      exact ⟨y, fun m hm => a m (by omega), b⟩) k 0 (by omega) (by omega) hF s nu el hg hnu hel
    obtain ⟨y, h1, h2⟩ := h
    refine ⟨y, fun m hm => ?_, h2⟩
    obtain ⟨m', rfl⟩ : ∃ m', m = m' + 1 := ⟨m - 1, by omega⟩
    exact evF_eq (h1 m' (by omega))
theorem good0 (vs : List Nat) : GoodS (EI vs) (0, 0, 0, (0, [])) := ⟨by simp, by simp, by simp, by simp [EI, Bits]⟩
theorem through_eq {t : LE} {vs : List Nat} (hT : t.length ≤ 200 ∧ ∀ e ∈ t, EOk e) (W : Words vs) (hl : vs.length ≤ 2000000) {plan : List Int} (hp : plan.length ≤ 100) (hF : fits t plan.length plan = true) :
    ∃ y : TR, impl_goer_through plan t 0 0 0 0 vs 0 [] [] [] = some y ∧ Out t vs y (thr (encDev vs) t plan.length plan (0, 0, 0, (0, []))) := by
  obtain ⟨y, h1, h2⟩ := thr_R hT W hl plan.length plan (by omega) hp plan.length (by omega) hF (0, 0, 0, (0, [])) [] [] (good0 vs) (by simp) (by simp)
  exact ⟨y, evF_eq ⟨plan.length + 1, fun m hm => h1 m hm⟩, h2⟩
end Go.Proofs.Ytgkejafaggaocaa.EN
