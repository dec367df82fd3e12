/-
  Part of a proof by the engine: texts that a program of ours printed, or plain lemmas on them. No condition but what each theorem says.
-/
import Derived.Test.YtgkejafaggaocaaDEPlain
import Derived.Test.YtgkejafaggaocaaENPlain
import Derived.Test.YtgkejafaggaocaaFT
import Derived.Test.YtgkejafaggaocaaELPlain
set_option linter.unusedVariables false
set_option linter.unusedSimpArgs false
namespace Go.Proofs.Ytgkejafaggaocaa.TK
open Go Go.Eng Go.TB Go.FT Go.Proofs.Ytgkejafaggaocaa.EX Go.Proofs.Ytgkejafaggaocaa.PO
open Go.Proofs.Ytgkejafaggaocaa.DE (decDev DI dev NN DataOk restV allZ decV cnt_yes cnt_no val_yes val_no dec_keeps)
open Go.Proofs.Ytgkejafaggaocaa.EN (Q encDev Words EI enc_keeps)
/-- The first bits. -/
def pre (f : Nat → Int) (p : Nat) : List Int := (List.range p).map f
theorem pre_length (f : Nat → Int) (p : Nat) : (pre f p).length = p := by simp [pre]
theorem nbits_numF {f : Nat → Int} (hf : ∀ q, f q = 0 ∨ f q = 1) (p w : Nat) : nbits (numF f p w) w = (List.range w).map fun j => f (p + j) := by
  apply List.ext_getElem
  · rw [nbits_length]; simp
  · intro q h1 h2
    rw [nbits_length] at h1
    have := nbits_get (numF f p w) w q h1
    rw [List.getD_eq_getElem?_getD, List.getElem?_eq_getElem (by rw [nbits_length]; exact h1), Option.getD_some] at this
    rw [this, numF_bit hf h1]
    simp
theorem pre_step {f : Nat → Int} (hf : ∀ q, f q = 0 ∨ f q = 1) (p w : Nat) : pre f p ++ nbits (numF f p w) w = pre f (p + w) := by
  rw [nbits_numF hf]
  unfold pre
  rw [List.range_add, List.map_append, List.map_map]
  rfl
/-- A power of ten, as a float. -/
theorem ten_fin {k : Nat} (h : k ≤ 10) : Fin (tenB k) (((10 ^ k : Nat) : Int) * (DD : Int)) := by
  have h1 := ten_of k (by omega)
  rw [← h1]
  have := ten_bound k (by omega)
  exact fin_of (by simp only [Int.natAbs_natCast]; have : (2 : Nat) ^ 53 = 9007199254740992 := by decide
                   omega)
theorem near_of {y : Nat} {Y m : Int} (hY : Fin y Y) (h1 : nearV Y = m) (h2 : Y.natAbs ≤ 34359738368 * DD) : nearO y = some m := by
  have hb : inBig Y = true := by
    unfold inBig big
    rw [Bool.and_eq_true, decide_eq_true_eq, decide_eq_true_eq]
    have := DD_pos
    omega
  unfold nearO
  rw [spec_in hY hb, h1]
theorem nan_self : feq 9221120237041090560 9221120237041090560 = false := by decide +kernel
/-- A number's value is of that number. -/
theorem numB_val {w : Nat} (hw : w ≤ 32) {s ref n : Int} (hs : -10 ≤ s ∧ s ≤ 10) (hr : -1000000000 ≤ ref ∧ ref ≤ 1000000000) (hn : 0 ≤ n ∧ n < ((2 ^ w : Nat) : Int)) : numB w s ref (valV w s ref n) = some n := by
  have hp := pow_small hw
  unfold numB valV
  by_cases h0 : n = ((2 ^ w : Nat) : Int) - 1
  · rw [if_pos h0, nan_self, h0]; rfl
  · rw [if_neg h0]
    have e1 : IntKind.i64.wrap (n + ref) = n + ref := w64 (by omega) (by omega)
    have hm : (n + ref).natAbs ≤ 17179869184 := by omega
    have fin : inW w ref (n + ref) = some n := by
      unfold inW
      have e2 : IntKind.i64.wrap (n + ref - ref) = n := by rw [w64 (by omega) (by omega)]; omega
      rw [e2, if_pos ⟨hn.1, by omega⟩]
    rw [e1]
    by_cases h1 : 0 ≤ s
    · rw [if_pos h1]
      have hb := ten_fin (k := s.toNat) (by omega)
      have ht := ten_bound s.toNat (by omega)
      obtain ⟨⟨X, hX⟩, Y, hY, y1, y2⟩ := trip_div (T := 10 ^ s.toNat) hm hb ⟨Nat.pos_of_ne_zero (by have := Nat.pow_pos (n := s.toNat) (show 0 < 10 by omega); omega), by omega⟩
      rw [self_fin hX]
      simp only [cond_true]
      unfold numV scaleV
      rw [if_pos h1, near_of hY y1 y2, Option.bind_some, fin]
    · rw [if_neg h1]
      have hb := ten_fin (k := (-s).toNat) (by omega)
      have ht := ten_bound (-s).toNat (by omega)
      obtain ⟨⟨X, hX⟩, Y, hY, y1, y2⟩ := trip_mul (T := 10 ^ (-s).toNat) hm hb ⟨Nat.pos_of_ne_zero (by have := Nat.pow_pos (n := (-s).toNat) (show 0 < 10 by omega); omega), by omega⟩
      rw [self_fin hX]
      simp only [cond_true]
      unfold numV scaleV
      rw [if_neg h1, near_of hY y1 y2, Option.bind_some, fin]
theorem val_lt (w : Nat) (s ref n : Int) : valV w s ref n < 2 ^ 64 := by
  unfold valV
  split
  · decide
  · split
    · exact fdiv_lt _ _
    · exact fmul_lt _ _
def RefOk (r : Int) : Prop := -1000000000 ≤ r ∧ r ≤ 1000000000
theorem prefix_get {o o' V : List Nat} {x : Nat} (h : o ++ [x] <+: V) : V.getD o.length 0 = x ∧ o.length ≠ V.length := by
  obtain ⟨r, rfl⟩ := h
  refine ⟨?_, by simp⟩
  rw [List.getD_eq_getElem?_getD, List.append_assoc, List.getElem?_append_right (Nat.le_refl _)]
  simp
/-- Writing what was read. -/
theorem read_write {f : Nat → Int} (hf : ∀ q, f q = 0 ∨ f q = 1) (N : Nat) (V : List Nat) :
    Sim (decDev f N) (encDev V) (fun q => q.2 <+: V) DI (fun q r => r = (q.2.length, pre f q.1)) RefOk where
  keeps := dec_keeps hf N
  backC := fun {q y q'} h hp => by
    by_cases c : q.1 + 8 ≤ N
    · rw [cnt_yes c] at h; cases h
      exact (List.prefix_append _ _).trans hp
    · rw [cnt_no c] at h; cases h
  backV := fun {e q q'} h hp => by
    unfold decDev at h
    simp only at h
    split at h
    · cases h; exact (List.prefix_append _ _).trans hp
    · cases h
  cnt := fun {n q y q' p} hn hI h hp hr => by
    by_cases c : q.1 + 8 ≤ N
    · rw [cnt_yes c] at h; cases h
      simp only at hp
      obtain ⟨g1, g2⟩ := prefix_get (o' := []) hp
      have hv := numF_lt hf q.1 8
      have h8 : ((2 ^ 8 : Nat) : Int) = 256 := by decide
      have e0 : (((numF f q.1 8).toNat : Nat) : Int) = numF f q.1 8 := by omega
      refine ⟨(q.2.length + 1, pre f (q.1 + 8)), ?_, by simp⟩
      subst hr
      unfold encDev
      simp only [g1, g2, if_false]
      have e1 : wholeV (fofi (numF f q.1 8)) = some (numF f q.1 8).toNat := wholeV_some (by omega) (by rw [e0])
      simp only [e1, e0, pre_step hf]
    · rw [cnt_no c] at h; cases h
  val := fun {n e q q' p} hn hI he hR h hp hr => by
    obtain ⟨hww, hs⟩ := DE.elOk_iff.1 he
    obtain ⟨w, hwe⟩ : ∃ w : Nat, e.2.1 = (w : Int) := ⟨e.2.1.toNat, by omega⟩
    by_cases c : q.1 + w ≤ N
    · rw [val_yes hwe c] at h; cases h
      simp only at hp
      obtain ⟨g1, g2⟩ := prefix_get (o' := []) hp
      have hv := numF_lt hf q.1 w
      refine ⟨(q.2.length + 1, pre f (q.1 + w)), ?_, by simp⟩
      subst hr
      unfold encDev
      simp only [g1, g2, if_false, hwe, Int.toNat_natCast, numB_val (show w ≤ 32 by omega) hs hR hv, pre_step hf]
    · rw [val_no hwe c] at h; cases h
theorem ref_ok {t : LE} (hT : ∀ e ∈ t, EOk e) (d : Int) : RefOk ((lookE t d).getD (0, 0, 0, 0)).2.2.2 := by
  cases h : lookE t d with
  | none => exact ⟨by decide, by decide⟩
  | some e => exact (hT e (look_mem h)).2.2.2
theorem write_core {t : LE} (hT : ∀ e ∈ t, EOk e) {f : Nat → Int} (hf : ∀ q, f q = 0 ∨ f q = 1) {N k : Nat} {plan : List Int} {s : St (Nat × List Nat)} (h : thr (decDev f N) t k plan (0, 0, 0, (0, [])) = .ok s) :
    thr (encDev s.2.2.2.2) t k plan (0, 0, 0, (0, [])) = .ok (s.1, s.2.1, s.2.2.1, (s.2.2.2.2.length, pre f s.2.2.2.1)) := by
  obtain ⟨p', h1, rfl⟩ := thr_sim (read_write hf N s.2.2.2.2) t (ref_ok hT) k plan 0 0 0 (0, []) s (0, []) DE.good0 h (List.prefix_refl _) (by simp [pre])
  exact h1
end Go.Proofs.Ytgkejafaggaocaa.TK

namespace Go.Proofs.Ytgkejafaggaocaa.TK
open Go Go.Eng Go.TB Go.FT Go.Proofs.Ytgkejafaggaocaa.EX Go.Proofs.Ytgkejafaggaocaa.PO
open Go.Proofs.Ytgkejafaggaocaa.DE (decDev DI dev NN DataOk restV allZ decV cnt_yes cnt_no val_yes val_no dec_keeps)
open Go.Proofs.Ytgkejafaggaocaa.EN (Q encDev Words EI enc_keeps)
open Go.Proofs.Ytgkejafaggaocaa.EU (encV)
theorem byte_numF (x : Int) {f : Nat → Int} {p : Nat} (hf : ∀ j, j < 8 → f (p + j) = (x / ((2 ^ (7 - j) : Nat) : Int)) % 2) : ∀ w, w ≤ 8 → numF f p w = (x / ((2 ^ (8 - w) : Nat) : Int)) % ((2 ^ w : Nat) : Int)
  | 0, _ => by
    simp only [numF]
    have : ((2 ^ 0 : Nat) : Int) = 1 := rfl
    rw [this]; omega
  | w + 1, h => by
    have ih := byte_numF x hf w (by omega)
    simp only [numF]
    rw [ih, hf w (by omega)]
    have e1 : (2 : Nat) ^ (8 - w) = 2 ^ (7 - w) * 2 := by rw [show 8 - w = (7 - w) + 1 by omega, Nat.pow_succ]
    rw [show 8 - (w + 1) = 7 - w by omega, e1, Int.natCast_mul, ← Int.ediv_ediv_of_nonneg (by omega), Nat.pow_succ, Int.natCast_mul]
    have c2 : ((2 : Nat) : Int) = 2 := rfl
    rw [c2]
    generalize x / ((2 ^ (7 - w) : Nat) : Int) = y
    have hp : (0 : Int) < ((2 ^ w : Nat) : Int) := by have := Nat.two_pow_pos w; omega
    generalize ((2 ^ w : Nat) : Int) = P at hp
    have h1 : y % (P * 2) = y % (2 * P) := by rw [Int.mul_comm]
    have h2 : y % (2 * P) = 2 * (y / 2 % P) + y % 2 := by
      have a1 := Int.mul_ediv_add_emod y 2
      have a2 := Int.mul_ediv_add_emod (y / 2) P
      have a3 := Int.emod_nonneg (y / 2) (show P ≠ 0 by omega)
      have a4 := Int.emod_lt_of_pos (y / 2) hp
      have a5 : y = 2 * (y / 2 % P) + y % 2 + 2 * P * (y / 2 / P) := by
        rw [Int.mul_assoc]; omega
      have a6 : (2 * (y / 2 % P) + y % 2) % (2 * P) = 2 * (y / 2 % P) + y % 2 := Int.emod_eq_of_lt (by omega) (by omega)
      rw [← a6]
      conv => lhs; rw [a5]
      rw [Int.add_mul_emod_self_left]
    rw [h1, h2]
    omega
theorem byte_back {data : List Int} (D : DataOk data) {k : Nat} (h : k < data.length) : numF (bitAt data) (8 * k) 8 = data[k] := by
  have hx := D.byte _ (List.getElem_mem h)
  have := byte_numF data[k] (f := bitAt data) (p := 8 * k) (fun j hj => by
    unfold bitAt
    rw [show (8 * k + j) / 8 = k by omega, show (8 * k + j) % 8 = j by omega, List.getD_eq_getElem?_getD, List.getElem?_eq_getElem h, Option.getD_some]) 8 (by omega)
  rw [this]
  have e1 : ((2 ^ (8 - 8) : Nat) : Int) = 1 := rfl
  have e2 : ((2 ^ 8 : Nat) : Int) = 256 := by decide
  rw [e1, e2]; omega
theorem within_keeps {f : Nat → Int} (hf : ∀ q, f q = 0 ∨ f q = 1) (N : Nat) : Keeps (decDev f N) (fun _ q => q.1 ≤ N ∧ Words q.2) where
  next := fun h => h
  cnt := fun {n q y q'} hn h e => by
    by_cases c : q.1 + 8 ≤ N
    · rw [cnt_yes c] at e; cases e
      have := numF_lt hf q.1 8
      have h8 : ((2 ^ 8 : Nat) : Int) = 256 := by decide
      refine ⟨⟨c, fun x hx => ?_⟩, by omega⟩
      rcases List.mem_append.1 hx with hx | hx
      · exact h.2 x hx
      · rw [List.mem_singleton] at hx; rw [hx]; exact fofi_word _
    · rw [cnt_no c] at e; cases e
  val := fun {n e q q'} hn h he hh => by
    obtain ⟨hww, hs⟩ := DE.elOk_iff.1 he
    obtain ⟨w, hwe⟩ : ∃ w : Nat, e.2.1 = (w : Int) := ⟨e.2.1.toNat, by omega⟩
    by_cases c : q.1 + w ≤ N
    · rw [val_yes hwe c] at hh; cases hh
      refine ⟨c, fun x hx => ?_⟩
      rcases List.mem_append.1 hx with hx | hx
      · exact h.2 x hx
      · rw [List.mem_singleton] at hx; rw [hx]; exact val_lt _ _ _ _
    · rw [val_no hwe c] at hh; cases hh
theorem within {t : LE} {f : Nat → Int} (hf : ∀ q, f q = 0 ∨ f q = 1) {N k : Nat} {plan : List Int} {s : St (Nat × List Nat)} (h : thr (decDev f N) t k plan (0, 0, 0, (0, [])) = .ok s) : s.2.2.2.1 ≤ N ∧ Words s.2.2.2.2 :=
  (thr_keeps (within_keeps hf N) t k plan (0, 0, 0, (0, [])) s ⟨by simp, by simp, by simp, by simp [Words]⟩ h).2.2.2
theorem allZ_get {f : Nat → Int} : ∀ {m p : Nat}, allZ f p m = true → ∀ q, p ≤ q → q < p + m → f q = 0
  | 0, p, _, q, h1, h2 => by omega
  | m + 1, p, h, q, h1, h2 => by
    simp only [allZ, Bool.and_eq_true, decide_eq_true_eq] at h
    by_cases e : q = p
    · rw [e]; exact h.1
    · exact allZ_get h.2 q (by omega) (by omega)
/-- Where nothing but filling is left, the bytes of the bits that were read are all. -/
theorem bytes_back {data : List Int} (D : DataOk data) {p : Nat} (hp : p ≤ 160000) (hN : p ≤ NN data) (hr : restV (bitAt data) p (NN data) = true) : bytesB (pre (bitAt data) p) = data := by
  unfold restV at hr
  rw [Bool.and_eq_true, decide_eq_true_eq] at hr
  have hlen : NN data = 8 * data.length := by unfold NN at hr ⊢; omega
  have hz := allZ_get hr.2
  apply List.ext_getElem
  · rw [bytesB_length, pre_length]; omega
  · intro k h1 h2
    have e : (bytesB (pre (bitAt data) p))[k] = byteAt (pre (bitAt data) p) k := by simp [bytesB]
    rw [e, ← byte_back D h2]
    unfold byteAt
    refine numF_congr fun j hj => ?_
    by_cases c : 8 * k + j < p
    · unfold fB
      rw [List.getD_eq_getElem?_getD, List.getElem?_eq_getElem (by rw [pre_length]; exact c), Option.getD_some]
      simp [pre]
    · rw [fB_out (by rw [pre_length]; omega), hz _ (by omega) (by omega)]
theorem write_back {t : LE} {plan data : List Int} (D : DataOk data) (h : (decV t plan data).2 = 0) : Words (decV t plan data).1 ∧ (decV t plan data).1.length ≤ 5000 ∧ encV t plan (decV t plan data).1 = (0, data) := by
  unfold decV at h ⊢
  cases hP : planV t plan with
  | false => rw [hP] at h; cases h
  | true =>
    rw [hP] at h
    simp only [cond_true] at h ⊢
    have hP' := hP
    simp only [planV, Bool.and_eq_true, decide_eq_true_eq] at hP'
    cases hq : thr (dev data) t plan.length plan (0, 0, 0, (0, [])) with
    | error e =>
      exfalso
      rw [hq] at h
      obtain ⟨y, y1, y2⟩ := DE.through_eq (tblV_ok hP'.1) D hP'.2.1 hP'.2.2
      rw [hq] at y2
      exact (DE.out_err y2).2 h
    | ok s =>
      rw [hq] at h
      simp only at h ⊢
      cases hr : restV (bitAt data) s.2.2.2.1 (NN data) with
      | false => rw [hr] at h; cases h
      | true =>
        simp only [cond_true]
        have hg := thr_keeps (dec_keeps (bitAt_bit data) (NN data)) t _ _ _ s DE.good0 hq
        obtain ⟨w1, w2⟩ := within (bitAt_bit data) hq
        refine ⟨w2, ?_, ?_⟩
        · have h1 := hg.1; have h2 := hg.2.2.2.2; omega
        · have hw := write_core (tblV_ok hP'.1).2 (bitAt_bit data) hq
          unfold encV
          rw [hP, hw]
          simp only [cond_true, Nat.lt_irrefl, decide_false, cond_false]
          rw [bytes_back D (by have := hg.2.2.2.1; have := hg.1; omega) w1 hr]
end Go.Proofs.Ytgkejafaggaocaa.TK
