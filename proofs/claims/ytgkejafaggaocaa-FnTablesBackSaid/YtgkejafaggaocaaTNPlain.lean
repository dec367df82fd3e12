/-
  Part of a proof by the engine: texts that a program of ours printed, or plain lemmas on them. No condition but what each theorem says.
-/
import Derived.Test.YtgkejafaggaocaaTKPlain
import Derived.Test.YtgkejafaggaocaaTN
import Derived.Test.YtgkejafaggaocaaTLPlain
set_option linter.unusedVariables false
set_option linter.unusedSimpArgs false
namespace Go.Proofs.Ytgkejafaggaocaa.TK
open Go Go.Eng Go.TB Go.FT Go.Proofs.Ytgkejafaggaocaa.EX Go.Proofs.Ytgkejafaggaocaa.PO
open Go.Proofs.Ytgkejafaggaocaa.DE (decDev DI dev NN DataOk restV allZ decV cnt_yes cnt_no val_yes val_no dec_keeps)
open Go.Proofs.Ytgkejafaggaocaa.EN (Q encDev Words EI enc_keeps enc_cnt enc_val)
open Go.Proofs.Ytgkejafaggaocaa.EU (encV)
theorem num_back (x : Int) {f : Nat → Int} {p W : Nat} (hf : ∀ j, j < W → f (p + j) = (x / ((2 ^ (W - 1 - j) : Nat) : Int)) % 2) : ∀ w, w ≤ W → numF f p w = (x / ((2 ^ (W - w) : Nat) : Int)) % ((2 ^ w : Nat) : Int)
  | 0, _ => by
    simp only [numF]
    have : ((2 ^ 0 : Nat) : Int) = 1 := rfl
    rw [this]; omega
  | w + 1, h => by
    have ih := num_back x hf w (by omega)
    simp only [numF]
    rw [ih, hf w (by omega)]
    have e1 : (2 : Nat) ^ (W - w) = 2 ^ (W - 1 - w) * 2 := by rw [show W - w = (W - 1 - w) + 1 by omega, Nat.pow_succ]
    rw [show W - (w + 1) = W - 1 - w by omega, e1, Int.natCast_mul, ← Int.ediv_ediv_of_nonneg (by omega), Nat.pow_succ, Int.natCast_mul]
    have c2 : ((2 : Nat) : Int) = 2 := rfl
    rw [c2]
    generalize x / ((2 ^ (W - 1 - w) : Nat) : Int) = y
    have hp : (0 : Int) < ((2 ^ w : Nat) : Int) := by have := Nat.two_pow_pos w; omega
    generalize ((2 ^ w : Nat) : Int) = P at hp
    have h1 : y % (P * 2) = y % (2 * P) := by rw [Int.mul_comm]
    have h2 : y % (2 * P) = 2 * (y / 2 % P) + y % 2 := by
      have a1 := Int.mul_ediv_add_emod y 2
      have a2 := Int.mul_ediv_add_emod (y / 2) P
      have a3 := Int.emod_nonneg (y / 2) (show P ≠ 0 by omega)
      have a4 := Int.emod_lt_of_pos (y / 2) hp
      have a5 : y = 2 * (y / 2 % P) + y % 2 + 2 * P * (y / 2 / P) := by
        rw [Int.mul_assoc]; omega
      have a6 : (2 * (y / 2 % P) + y % 2) % (2 * P) = 2 * (y / 2 % P) + y % 2 := Int.emod_eq_of_lt (by omega) (by omega)
      rw [← a6]
      conv => lhs; rw [a5]
      rw [Int.add_mul_emod_self_left]
    rw [h1, h2]
    omega
/-- The bits that were written are read as the number. -/
theorem num_prefix {A B : List Int} {n : Int} {w : Nat} (hn : 0 ≤ n ∧ n < ((2 ^ w : Nat) : Int)) (h : A ++ nbits n w <+: B) : numF (fB B) A.length w = n := by
  obtain ⟨C, rfl⟩ := h
  have := num_back n (f := fB (A ++ nbits n w ++ C)) (p := A.length) (W := w) (fun j hj => by
    rw [← nbits_get n w j hj]
    unfold fB
    rw [List.getD_eq_getElem?_getD, List.getD_eq_getElem?_getD, List.append_assoc, List.getElem?_append_right (by omega), Nat.add_sub_cancel_left, List.getElem?_append_left (by rw [nbits_length]; exact hj)]) w (Nat.le_refl _)
  rw [this, Nat.sub_self]
  have e1 : ((2 ^ 0 : Nat) : Int) = 1 := rfl
  rw [e1, Int.ediv_one, Int.emod_eq_of_lt hn.1 hn.2]
/-- Missing or not. -/
def Alike (x y : Nat) : Prop := feq x x = feq y y
theorem alike_val {w : Nat} (hw : w ≤ 32) {s ref n : Int} {x : Nat} (hs : -10 ≤ s ∧ s ≤ 10) (hr : RefOk ref) (h : numB w s ref x = some n) : Alike (valV w s ref n) x := by
  have hp := pow_small hw
  have hnr := numB_range h
  unfold numB at h
  unfold Alike
  cases hf : feq x x with
  | false =>
    rw [hf] at h
    have hn := (Option.some.inj h).symm
    unfold valV
    rw [if_pos hn, nan_self]
  | true =>
    rw [hf] at h
    simp only [cond_true] at h
    unfold numV at h
    cases hq : nearO (scaleV s x) with
    | none => rw [hq] at h; cases h
    | some k =>
      rw [hq] at h
      have hlt := inW_range h
      unfold valV
      rw [if_neg (by omega)]
      have e1 : IntKind.i64.wrap (n + ref) = n + ref := w64 (by have := hr.1; omega) (by have := hr.2; omega)
      have hm : (n + ref).natAbs ≤ 17179869184 := by have := hr.1; have := hr.2; omega
      rw [e1]
      by_cases h1 : 0 ≤ s
      · rw [if_pos h1]
        have hb := ten_fin (k := s.toNat) (by omega)
        have ht := ten_bound s.toNat (by omega)
        obtain ⟨⟨X, hX⟩, _⟩ := trip_div (T := 10 ^ s.toNat) hm hb ⟨Nat.pos_of_ne_zero (by have := Nat.pow_pos (n := s.toNat) (show 0 < 10 by omega); omega), by omega⟩
        rw [self_fin hX]
      · rw [if_neg h1]
        have hb := ten_fin (k := (-s).toNat) (by omega)
        have ht := ten_bound (-s).toNat (by omega)
        obtain ⟨⟨X, hX⟩, _⟩ := trip_mul (T := 10 ^ (-s).toNat) hm hb ⟨Nat.pos_of_ne_zero (by have := Nat.pow_pos (n := (-s).toNat) (show 0 < 10 by omega); omega), by omega⟩
        rw [self_fin hX]
/-- What was read so far is missing where what is written is. -/
def AlikeL (o vs : List Nat) : Prop := ∀ i, i < o.length → Alike (o.getD i 0) (vs.getD i 0)
theorem alike_snoc {o vs : List Nat} {x : Nat} (h : AlikeL o vs) (hx : Alike x (vs.getD o.length 0)) : AlikeL (o ++ [x]) vs := fun i hi => by
  simp only [List.length_append, List.length_singleton] at hi
  by_cases e : i < o.length
  · have : (o ++ [x]).getD i 0 = o.getD i 0 := by
      rw [List.getD_eq_getElem?_getD, List.getD_eq_getElem?_getD, List.getElem?_append_left e]
    rw [this]; exact h i e
  · obtain rfl : i = o.length := by omega
    have : (o ++ [x]).getD o.length 0 = x := by
      rw [List.getD_eq_getElem?_getD, List.getElem?_append_right (Nat.le_refl _)]; simp
    rw [this]; exact hx
theorem whole_of {x y : Nat} (h : wholeV x = some y) : x = fofi (y : Int) := by
  have := List.find?_some h
  rwa [beq_iff_eq] at this
theorem numF_bits {f g : Nat → Int} {p w : Nat} (h : ∀ q, q < p + w → f q = g q) : numF f p w = numF g p w := numF_congr fun j hj => h _ (by omega)
/-- Reading what was written. -/
theorem write_read {vs : List Nat} {B : List Int} {f : Nat → Int} {N : Nat} (hN : B.length ≤ N) (hf : ∀ q, q < B.length → f q = fB B q) :
    Sim (encDev vs) (decDev f N) (fun q => q.2 <+: B) (EI vs) (fun q r => r.1 = q.2.length ∧ r.2.length = q.1 ∧ AlikeL r.2 vs) RefOk where
  keeps := enc_keeps vs
  backC := fun {q y q'} h hp => by
    obtain ⟨_, _, rfl⟩ := enc_cnt h
    exact (List.prefix_append _ _).trans hp
  backV := fun {e q q'} h hp => by
    obtain ⟨_, _, _, rfl⟩ := enc_val h
    exact (List.prefix_append _ _).trans hp
  cnt := fun {n q y q' r} hn hI h hp hr => by
    obtain ⟨r1, r2, r3⟩ := hr
    obtain ⟨h0, h1, rfl⟩ := enc_cnt h
    simp only at hp
    have hy := EN.wholeV_le h1
    have h8 : ((2 ^ 8 : Nat) : Int) = 256 := by decide
    have hlen : q.2.length + 8 ≤ B.length := by
      have := hp.length_le
      simpa [nbits_length] using this
    have hnum : numF f q.2.length 8 = (y : Int) := by
      rw [numF_bits (g := fB B) (fun k hk => hf k (by omega))]
      exact num_prefix ⟨by omega, by omega⟩ hp
    refine ⟨(r.1 + 8, r.2 ++ [fofi (y : Int)]), ?_, ?_, ?_, ?_⟩
    · rw [cnt_yes (by rw [r1]; omega), r1, hnum]; rfl
    · simp only [List.length_append, nbits_length]; omega
    · simp only [List.length_append, List.length_singleton]; omega
    · refine alike_snoc r3 ?_
      rw [r2, whole_of h1]
      rfl
  val := fun {n e q q' r} hn hI he hR h hp hr => by
    obtain ⟨r1, r2, r3⟩ := hr
    obtain ⟨h0, m, h1, rfl⟩ := enc_val h
    simp only at hp
    obtain ⟨hww, hs⟩ := EN.elOk_iff.1 he
    obtain ⟨w, hwe⟩ : ∃ w : Nat, e.2.1 = (w : Int) := ⟨e.2.1.toNat, by omega⟩
    have ew : e.2.1.toNat = w := by rw [hwe]; rfl
    rw [ew] at h1 hp ⊢
    have hlen : q.2.length + w ≤ B.length := by
      have := hp.length_le
      simpa [nbits_length] using this
    have hnum : numF f q.2.length w = m := by
      rw [numF_bits (g := fB B) (fun k hk => hf k (by omega))]
      exact num_prefix (numB_range h1) hp
    refine ⟨(r.1 + w, r.2 ++ [valV w e.2.2.1 e.2.2.2 m]), ?_, ?_, ?_, ?_⟩
    · rw [val_yes hwe (by rw [r1]; omega), r1, hnum]
    · simp only [List.length_append, nbits_length]; omega
    · simp only [List.length_append, List.length_singleton]; omega
    · refine alike_snoc r3 ?_
      rw [r2]
      exact alike_val (by omega) hs hR h1
theorem allZ_of {f : Nat → Int} : ∀ {m p : Nat}, (∀ q, p ≤ q → q < p + m → f q = 0) → allZ f p m = true
  | 0, p, _ => rfl
  | m + 1, p, h => by
    simp only [allZ, Bool.and_eq_true, decide_eq_true_eq]
    exact ⟨h p (by omega) (by omega), allZ_of fun q h1 h2 => h q (by omega) (by omega)⟩
/-- What was encoded is decoded, as many, missing where they were. -/
theorem read_back {t : LE} {plan : List Int} {vs : List Nat} (W : Words vs) (hl : vs.length ≤ 2000000) (h : (encV t plan vs).1 = 0) :
    DataOk (encV t plan vs).2 ∧ (decV t plan (encV t plan vs).2).2 = 0 ∧ (decV t plan (encV t plan vs).2).1.length = vs.length ∧ AlikeL (decV t plan (encV t plan vs).2).1 vs := by
  have hb := EU.encV_bytes t plan vs
  refine ⟨⟨by omega, hb.2⟩, ?_⟩
  unfold encV at h ⊢
  cases hP : planV t plan with
  | false => rw [hP] at h; cases h
  | true =>
    rw [hP] at h
    have hP' := hP
    simp only [planV, Bool.and_eq_true, decide_eq_true_eq] at hP'
    simp only [cond_true] at h ⊢
    cases hq : thr (encDev vs) t plan.length plan (0, 0, 0, (0, [])) with
    | error e =>
      exfalso
      rw [hq] at h
      obtain ⟨y, y1, y2⟩ := EN.through_eq (tblV_ok hP'.1) W hl hP'.2.1 hP'.2.2
      rw [hq] at y2
      exact y2.2 h
    | ok s =>
      rw [hq] at h
      simp only at h ⊢
      by_cases c : s.2.2.2.1 < vs.length
      · rw [decide_eq_true c] at h; cases h
      · rw [decide_eq_false c]
        simp only [cond_false]
        have hg := thr_keeps (enc_keeps vs) t _ _ _ s (EN.good0 vs) hq
        have hB : Bits s.2.2.2.2 := hg.2.2.2.2.2
        have hlen : s.2.2.2.2.length ≤ 160000 := by have := hg.2.2.2.2.1; have := hg.1; omega
        have hnext : s.2.2.2.1 = vs.length := by have := hg.2.2.2.1; omega
        have hNN : NN (bytesB s.2.2.2.2) = 8 * ((s.2.2.2.2.length + 7) / 8) := by unfold NN; rw [bytesB_length]; omega
        obtain ⟨r, g1, r1, r2, r3⟩ := thr_sim (write_read (vs := vs) (B := s.2.2.2.2) (f := bitAt (bytesB s.2.2.2.2)) (N := NN (bytesB s.2.2.2.2)) (by omega) (fun q hq => bitAt_bytes hB (by omega))) t (ref_ok (tblV_ok hP'.1).2) plan.length plan 0 0 0 (0, []) s (0, []) (EN.good0 vs) hq (List.prefix_refl _) ⟨rfl, rfl, fun i hi => by simp at hi⟩
        unfold decV
        rw [hP]
        simp only [cond_true]
        rw [show DE.dev (bytesB s.2.2.2.2) = decDev (bitAt (bytesB s.2.2.2.2)) (NN (bytesB s.2.2.2.2)) from rfl, g1]
        simp only
        have hrest : restV (bitAt (bytesB s.2.2.2.2)) r.1 (NN (bytesB s.2.2.2.2)) = true := by
          unfold restV
          rw [Bool.and_eq_true]
          refine ⟨decide_eq_true (by omega), allZ_of fun q h1 h2 => ?_⟩
          rw [bitAt_bytes hB (by omega)]
          exact fB_out (by omega)
        rw [hrest]
        simp only [cond_true]
        exact ⟨trivial, by omega, r3⟩
end Go.Proofs.Ytgkejafaggaocaa.TK

namespace Go.Proofs.Ytgkejafaggaocaa.TN
open Go Go.Eng Go.TB Go.FT Go.Proofs.Ytgkejafaggaocaa.EX Go.Proofs.Ytgkejafaggaocaa.PO Go.Proofs.Ytgkejafaggaocaa.DR Go.Proofs.Ytgkejafaggaocaa.TL
open Go.Proofs.Ytgkejafaggaocaa.EN (Words)
open Go.Proofs.Ytgkejafaggaocaa.EU (encV)
theorem fneg_lt {a : Nat} (h : a < 2 ^ 64) : fneg a < 2 ^ 64 := by
  show canonF (a ^^^ 2 ^ 63) < 2 ^ 64
  exact canonF_lt (Nat.xor_lt_two_pow h (by decide))
theorem number_good {l : List Int} {p : Int} (h : Rdr l p) : Answ (fun y => Rdr y.2.1 y.2.2) (spec_l1Rd_number l p) := by
  unfold spec_l1Rd_number
  refine good_bind (below_good 5 (by omega) h) fun y hy => good_bif (fun _ => ?_) fun _ => good_bif (fun _ => ?_) fun _ => good_bif (fun _ => ?_) fun _ => ?_
  · exact good_bind (below_good 300 (by omega) hy.1) fun z hz => ⟨_, rfl, hz.1⟩
  · refine good_bind (below_good 12 (by omega) hy.1) fun z hz => ?_
    have hz5 : z.1 < 12 := hz.2.2.2.1 (by omega)
    exact good_chk (chk_le hz.2.1) (good_chk (chk_lt hz5) (good_chk (chk_lt hz5) ⟨_, rfl, hz.1⟩))
  · refine good_bind (word_good hy.1) fun z hz => good_bind (below_good 60 (by omega) hz) fun u hu => ?_
    refine good_chk (chk_le ?_) ⟨_, rfl, hu.1⟩
    rw [w64 (n := 1 + u.1) (by omega) (by omega), wu64 (by omega) (by omega)]
    omega
  · exact good_bind (below_good 20 (by omega) hy.1) fun z hz => ⟨_, rfl, hz.1⟩
def floats : List Nat := [0, fneg 0, 4602678819172646912, 13826050856027422720, 4609434218613702656, 4612811918334230528, 13836183955189006336, 4831355200913801216, 4831355200913801224, 14054727237768577024, 1, 9214871658872686752, fmul 9214871658872686752 4621819117588971520, fmul (fneg 9214871658872686752) 4621819117588971520, 4587366580439587226, 4598175219545276416]
theorem floats_lt : ∀ x ∈ floats, x < 2 ^ 64 := by
  intro x hx
  simp only [floats, List.mem_cons, List.not_mem_nil, or_false] at hx
  rcases hx with rfl | rfl | rfl | rfl | rfl | rfl | rfl | rfl | rfl | rfl | rfl | rfl | rfl | rfl | rfl | rfl
  all_goals first | decide | exact fneg_lt (by decide) | exact fmul_lt _ _
theorem float_good {l : List Int} {p : Int} (h : Rdr l p) : Answ (fun y : Nat × List Int × Int => y.1 < 2 ^ 64 ∧ Rdr y.2.1 y.2.2) (spec_l1Rd_float l p) := by
  unfold spec_l1Rd_float
  refine good_bind (below_good 8 (by omega) h) fun y hy => good_bif (fun _ => ?_) fun _ => good_bif (fun _ => ?_) fun _ => good_bif (fun _ => ?_) fun _ => good_bif (fun _ => ?_) fun _ => ?_
  · exact good_bind (P := fun v => v = 9221120237041090560) ⟨_, none_eq, rfl⟩ fun v hv => ⟨_, rfl, by simp only [hv]; decide, hy.1⟩
  · refine good_bind (below_good 16 (by omega) hy.1) fun z hz => ?_
    have hz5 : z.1 < 16 := hz.2.2.2.1 (by omega)
    refine good_chk (chk_le hz.2.1) (good_chk (chk_lt hz5) (good_chk (chk_lt hz5) ⟨_, rfl, ?_, hz.1⟩))
    exact floats_lt _ (rd_in (k := .flt) (xs := floats) hz.2.1 (by show z.1 < 16; exact hz5))
  · exact good_bind (number_good hy.1) fun z hz => good_bind (below_good 1000 (by omega) hz) fun u hu => ⟨_, rfl, fdiv_lt _ _, hu.1⟩
  · exact good_bind (below_good 1000 (by omega) hy.1) fun z hz => ⟨_, rfl, fneg_lt (fdiv_lt _ _), hz.1⟩
  · exact good_bind (below_good 1000 (by omega) hy.1) fun z hz => ⟨_, rfl, fdiv_lt _ _, hz.1⟩
abbrev RE := LE × List Int × List Nat
def QE (y : RE) : Prop := y.2.2.length ≤ 5001 ∧ Words y.2.2
theorem words_take {vs : List Nat} (h : Words vs) (n : Nat) : Words (vs.take n) := fun x hx => h x (List.mem_of_mem_take hx)
theorem words_one {vs : List Nat} (h : Words vs) : Words (vs ++ [4607182418800017408]) := fun x hx => by
  rcases List.mem_append.1 hx with hx | hx
  · exact h x hx
  · rw [List.mem_singleton] at hx; rw [hx]; decide
theorem draw_good {l : List Int} (hl : l.length ≤ 1048576) (hb : ∀ x ∈ l, 0 ≤ x ∧ x ≤ 255) : Answ QE (spec_DrawEncode l) := by
  have hmax : 100000 ≤ maxBytes / 8 := by decide
  unfold spec_DrawEncode
  refine good_bind (open_good hl hb) fun y1 h1 => good_bind (both_good true h1) fun y2 h2 => good_bind (values_good _ _ h2) fun y3 h3 => ?_
  obtain ⟨g1, g2, g3⟩ := h3
  have last : ∀ (v : List Nat) l p, Rdr l p → v.length ≤ 5001 → Words v → Answ QE ((spec_l1Rd_once 8 l p).bind fun val_4 => bif val_4.fst then bif decide ((v.length : Int) > 0) then bif decide (0 ≤ IntKind.i64.wrap ((v.length : Int) - 1)) && decide (IntKind.i64.wrap ((v.length : Int) - 1) ≤ (v.length : Int)) then some (y2.snd.snd.fst, y2.snd.snd.snd, List.take (IntKind.i64.wrap ((v.length : Int) - 1)).toNat v) else none else some (y2.snd.snd.fst, y2.snd.snd.snd, v) else some (y2.snd.snd.fst, y2.snd.snd.snd, v)) := fun v l p hr hl hw => by
    refine good_bind (once_good 8 (by omega) hr) fun y hy => good_bif (fun _ => good_bif (fun h0 => ?_) (fun _ => ⟨_, rfl, hl, hw⟩)) (fun _ => ⟨_, rfl, hl, hw⟩)
    have h0 := of_decide_eq_true h0
    have e : IntKind.i64.wrap ((v.length : Int) - 1) = (v.length : Int) - 1 := w64 (by omega) (by omega)
    rw [e]
    exact good_chk (chk_and (chk_le (by omega)) (chk_le (by omega))) ⟨_, rfl, by simp only [List.length_take]; omega, words_take hw _⟩
  have tail : ∀ (v : List Nat) l p, Rdr l p → v.length ≤ 5000 → Words v → Answ QE ((spec_l1Rd_once 8 l p).bind fun val_3 => bif val_3.fst then bif decide (v.length + [4607182418800017408].length ≤ maxBytes / 8) then (spec_l1Rd_once 8 val_3.snd.fst val_3.snd.snd).bind fun val_4 => bif val_4.fst then bif decide (((v ++ [4607182418800017408]).length : Int) > 0) then bif decide (0 ≤ IntKind.i64.wrap (((v ++ [4607182418800017408]).length : Int) - 1)) && decide (IntKind.i64.wrap (((v ++ [4607182418800017408]).length : Int) - 1) ≤ ((v ++ [4607182418800017408]).length : Int)) then some (y2.snd.snd.fst, y2.snd.snd.snd, List.take (IntKind.i64.wrap (((v ++ [4607182418800017408]).length : Int) - 1)).toNat (v ++ [4607182418800017408])) else none else some (y2.snd.snd.fst, y2.snd.snd.snd, v ++ [4607182418800017408]) else some (y2.snd.snd.fst, y2.snd.snd.snd, v ++ [4607182418800017408]) else none
      else (spec_l1Rd_once 8 val_3.snd.fst val_3.snd.snd).bind fun val_4 => bif val_4.fst then bif decide ((v.length : Int) > 0) then bif decide (0 ≤ IntKind.i64.wrap ((v.length : Int) - 1)) && decide (IntKind.i64.wrap ((v.length : Int) - 1) ≤ (v.length : Int)) then some (y2.snd.snd.fst, y2.snd.snd.snd, List.take (IntKind.i64.wrap ((v.length : Int) - 1)).toNat v) else none else some (y2.snd.snd.fst, y2.snd.snd.snd, v) else some (y2.snd.snd.fst, y2.snd.snd.snd, v)) := fun v l p hr hl hw =>
    good_bind (once_good 8 (by omega) hr) fun y hy => good_bif (fun _ => good_chk (decide_eq_true (by simp only [List.length_singleton]; omega)) (last _ _ _ hy (by simp only [List.length_append, List.length_singleton]; omega) (words_one hw))) (fun _ => last v _ _ hy (by omega) hw)
  refine good_bind (once_good 3 (by omega) g1) fun y4 h4 => good_bif (fun _ => good_bif (fun h0 => ?_) (fun _ => tail _ _ _ h4 g3 g2)) (fun _ => tail _ _ _ h4 g3 g2)
  have h0 := of_decide_eq_true h0
  refine good_bind (below_good _ (by omega) h4) fun y5 h5 => ?_
  have g : y5.1 < (y3.2.2.length : Int) := by
    by_cases c : (1 : Int) < (y3.2.2.length : Int)
    · exact h5.2.2.2.1 c
    · have := h5.2.2.2.2 (by omega); omega
  refine good_chk (chk_le h5.2.1) (good_chk (chk_lt g) (good_chk (chk_lt g) ?_))
  refine good_bind (float_good h5.1) fun y6 h6 => good_bind (P := fun v => v = 9221120237041090560) ⟨_, none_eq, rfl⟩ fun v hv => good_bind (below_good 7 (by omega) h6.2) fun y7 h7 => ?_
  have g7 : y7.1 < 7 := h7.2.2.2.1 (by omega)
  refine good_chk (chk_le h7.2.1) (good_chk (chk_lt g7) (good_chk (chk_lt g7) (good_chk (chk_le h5.2.1) (good_chk (chk_lt g) ?_))))
  obtain ⟨n, hn⟩ : ∃ n : Nat, y5.1 = (n : Int) := ⟨y5.1.toNat, by have := h5.2.1; omega⟩
  rw [hn] at g ⊢
  have hin := rd_in (k := .flt) (xs := [fadd (rd Kind.flt y3.2.2 (n : Int)) 4585925428558828667, y6.1, v, 13830554455654793216, 4643176031446892544, 4643211215818981376, 4602678819172646912]) (i := y7.1) h7.2.1 (by show y7.1 < 7; exact g7)
  generalize rd Kind.flt [fadd (rd Kind.flt y3.2.2 (n : Int)) 4585925428558828667, y6.1, v, 13830554455654793216, 4643176031446892544, 4643211215818981376, 4602678819172646912] y7.1 = x at hin ⊢
  have hx : x < 2 ^ 64 := by
    simp only [List.mem_cons, List.not_mem_nil, or_false] at hin
    rcases hin with h | h | h | h | h | h | h
    · rw [h]; exact fadd_lt _ _
    · rw [h]; exact h6.1
    · rw [h, hv]; decide
    all_goals (rw [h]; decide)
  refine good_bind (P := fun ys : List Nat => ys = y3.2.2.set n x) ⟨_, setW_nat (by omega), rfl⟩ fun ys hys => ?_
  subst hys
  refine tail _ _ _ h7.1 (by simp; omega) (fun z hz => ?_)
  rcases List.mem_or_eq_of_mem_set hz with hz | hz
  · exact g2 z hz
  · rw [hz]; exact hx
end Go.Proofs.Ytgkejafaggaocaa.TN

namespace Go.Proofs.Ytgkejafaggaocaa.TN
open Go Go.Eng Go.TB Go.FT Go.Proofs.Ytgkejafaggaocaa.EX Go.Proofs.Ytgkejafaggaocaa.PO Go.Proofs.Ytgkejafaggaocaa.DR Go.Proofs.Ytgkejafaggaocaa.TL
open Go.Proofs.Ytgkejafaggaocaa.EN (Words)
open Go.Proofs.Ytgkejafaggaocaa.DE (DataOk decV)
open Go.Proofs.Ytgkejafaggaocaa.EU (encV)
theorem enc_err {t : LE} {plan : List Int} {vs : List Nat} (h : (encV t plan vs).1 ≠ 0) : (encV t plan vs).2 = [] := by
  unfold encV at h ⊢
  cases hP : planV t plan with
  | false => rfl
  | true =>
    rw [hP] at h
    simp only [cond_true] at h ⊢
    cases hq : thr (EN.encDev vs) t plan.length plan (0, 0, 0, (0, [])) with
    | error e => rfl
    | ok s =>
      rw [hq] at h
      simp only at h ⊢
      cases hr : decide (s.2.2.2.1 < vs.length) with
      | true => rfl
      | false => rw [hr] at h; exact absurd rfl h
theorem not_beq {a b : Bool} (h : a = b) : (!a == b) = false := by subst h; cases a <;> rfl
theorem back_loop {t : LE} {plan : List Int} {vs : List Nat} {data : List Int} {o : List Nat} (hl : o.length = vs.length) (hs : vs.length ≤ 100000) (ha : TK.AlikeL o vs) (he : EV.impl_Encode t plan o = some (0, data)) :
    ∀ (m n : Nat), o.length - n = m → n ≤ o.length → Ev (fun k => laws_FnTablesBack_L14 k t plan (n : Int) vs data o) true
  | 0, n, hm, hn => by
    apply ev_succ
    simp only [laws_FnTablesBack_L14, show ¬ ((n : Int) < (o.length : Int)) by omega, decide_false, cond_false, he, Option.bind_some, beq_self_eq_true, cond_true]
    exact ev_now _
  | m + 1, n, hm, hn => by
    have ih := back_loop hl hs ha he m (n + 1) (by omega) (by omega)
    have hal := ha n (by omega)
    unfold TK.Alike at hal
    have e1 : rd .flt o (n : Int) = o.getD n 0 := EN.rd_flt (by omega)
    have e2 : rd .flt vs (n : Int) = vs.getD n 0 := EN.rd_flt (by omega)
    apply ev_succ
    simp only [laws_FnTablesBack_L14, e1, e2, not_beq hal, show ((n : Int) < (o.length : Int)) by omega, show ((n : Int) < (vs.length : Int)) by omega, show (0 : Int) ≤ (n : Int) by omega, decide_true, cond_true, cond_false, wsucc (show n < 9223372036854775807 by omega)]
    exact ih
theorem law {l : List Int} (hb : ∀ x ∈ l, 0 ≤ x ∧ x ≤ 255) : laws_FnTablesBack l = some true := by
  refine evF_eq ?_
  unfold laws_FnTablesBack_F laws_big
  simp only [Option.bind_some]
  by_cases h1 : (l.length : Int) > 1048576
  · simp only [h1, decide_true, cond_true]; exact ev_now _
  obtain ⟨⟨t, plan, vs⟩, e, v1, W⟩ := draw_good (l := l) (by omega) hb
  simp only at v1 W
  have s1 : EV.spec_Encode t plan vs = some (encV t plan vs) := EU.spec_enc t plan W (by omega)
  have s2 : EV.impl_Encode t plan vs = some (encV t plan vs) := EU.impl_enc t plan W (by omega)
  simp only [h1, decide_false, cond_false, e, Option.bind_some, s1, s2, bne_self_eq_false]
  by_cases h0 : (encV t plan vs).1 = 0
  · obtain ⟨D, d1, d2, d3⟩ := TK.read_back W (by omega) h0
    obtain ⟨w1, w2, w3⟩ := TK.write_back D d1
    have e3 : EV.impl_Encode t plan (decV t plan (encV t plan vs).2).1 = some (0, (encV t plan vs).2) := by
      have : EU.impl_Encode t plan (decV t plan (encV t plan vs).2).1 = some (0, (encV t plan vs).2) := by rw [EU.impl_enc t plan w1 (by omega), w3]
      exact this
    have e4 := DE.impl_dec t plan D
    rw [d1] at e4
    have e5 : (((decV t plan (encV t plan vs).2).1.length : Int) != (vs.length : Int)) = false := by rw [bneI]; simp [d2]
    simp only [h0, bne_self_eq_false, cond_false, e4, Option.bind_some, e5]
    exact back_loop d2 (by omega) d3 e3 _ 0 rfl (by omega)
  · have e1 : ((encV t plan vs).1 != 0) = true := by rw [bneI]; simp [h0]
    simp only [e1, cond_true, enc_err h0, List.length_nil, Int.natCast_zero, beq_self_eq_true]
    exact ev_now _
theorem pure (z0 : denKs [.sl (.int .u8)]) (h0 : wfKs [.sl (.int .u8)] z0) : g_laws_FnTablesBack.fn ((z0.1, ()), ()) = some true := by
  obtain ⟨w0, _⟩ := h0
  exact law (fun x hx => wf_u8.1 ((wf_sl.1 w0).2 x hx))
end Go.Proofs.Ytgkejafaggaocaa.TN
