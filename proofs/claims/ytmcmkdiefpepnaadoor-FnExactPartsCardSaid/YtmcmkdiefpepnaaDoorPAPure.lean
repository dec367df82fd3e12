/-
  Part of a proof by the engine: texts that a program of ours printed, or plain lemmas on them. No condition but what each theorem says.
-/
import Derived.Test.YtmcmkdiefpepnaaDoorPAP2
set_option linter.unusedVariables false
set_option linter.unusedSimpArgs false
namespace Go.Proofs.YtmcmkdiefpepnaaDoor.PA
open Go Go.Eng Go.Proofs.YtmcmkdiefpepnaaDoor.SA Go.Proofs.YtmcmkdiefpepnaaDoor.EX
theorem eqSpanS_self (xs : List (Int × Int)) (hx : xs.length ≤ 1048576) : laws_eqSpanS xs xs = some true := by
  refine evF_eq ?_
  simp only [laws_eqSpanS_F, bne_self_eq_false, cond_false]
  exact ev_upto (l := fun k n => laws_eqSpanS_L4 k xs xs (n : Int)) (N := xs.length) (fun n hn k => by
    simp only [laws_eqSpanS_L4, show (n : Int) < (xs.length : Int) by omega, show (0 : Int) ≤ (n : Int) by omega, decide_true, cond_true, rd_nat (k := K2_PA2) hn, wsucc (show n < 9223372036854775807 by omega), eqSpan_self, Option.bind_some, Bool.not_true, cond_false]) (ev_succ (by
    simp only [laws_eqSpanS_L4, Int.lt_irrefl, decide_false, cond_false]
    exact ev_now _))
def markP (k : Int) : List (Int × Int) → List (Int × Int)
  | [] => []
  | _ :: xs => (k, k + 1) :: markP (k + 2) xs
theorem markP_length (k : Int) (xs : List (Int × Int)) : (markP k xs).length = xs.length := by
  induction xs generalizing k with
  | nil => rfl
  | cons x xs ih => simp [markP, ih]
theorem markP_get (k : Int) (xs : List (Int × Int)) (n : Nat) (h : n < (markP k xs).length) : (markP k xs)[n] = (k + 2 * (n : Int), k + 2 * (n : Int) + 1) := by
  induction xs generalizing k n with
  | nil => simp [markP] at h
  | cons x xs ih =>
    cases n with
    | zero => simp [markP]
    | succ n =>
      simp only [markP, List.getElem_cons_succ]
      rw [ih]
      congr 1 <;> omega
theorem pP0 (x : Int × Int) (v : Int) : putK K2_PA2 0 [.int .i64 v] x = some (v, x.2) := rfl
theorem pP1 (x : Int × Int) (v : Int) : putK K2_PA2 1 [.int .i64 v] x = some (x.1, v) := rfl
theorem mark_step (k' : Nat) (k : Int) (n : Nat) (xs : List (Int × Int)) (hn : n < xs.length) (hx : xs.length ≤ 1048576) (hk : 0 ≤ k ∧ k ≤ 1000000000) :
    laws_markSpanS_L2 (k' + 1) k (n : Int) xs = laws_markSpanS_L2 k' (k + 2) ((n + 1 : Nat) : Int) (xs.set n (k, k + 1)) := by
  have e1 : k + 1 + 1 = k + 2 := by omega
  have e9 : (n : Int) + 1 = ((n + 1 : Nat) : Int) := by omega
  simp (disch := omega) only [laws_markSpanS_L2, w64, e1]
  have hS : ∀ (o : Nat) (cs : List Cell) (ys : List (Int × Int)) (h : n < ys.length), setO K2_PA2 o cs ys (n : Int) = (putK K2_PA2 o cs ys[n]).map fun y => ys.set n y := fun o cs ys h => setO_put h
  simp only [show (n : Int) < (xs.length : Int) by omega, show (0 : Int) ≤ (n : Int) by omega, decide_true, cond_true, hS, hn, List.length_set, pP0, pP1, Option.map_some, Option.bind_some, List.getElem_set_self, List.set_set, e9]
theorem markSpanS_eq (xs : List (Int × Int)) (hx : xs.length ≤ 3000) : laws_markSpanS 1 xs = some (1 + 2 * (xs.length : Int), markP 1 xs) := by
  refine evF_eq ?_
  have loop : ∀ (m n : Nat) (k : Int) (ys : List (Int × Int)), ys.length - n = m → n ≤ ys.length → ys.length ≤ 3000 → 0 ≤ k ∧ k ≤ 100000 - 2 * ((ys.length - n : Nat) : Int) →
      Ev (fun q => laws_markSpanS_L2 q k (n : Int) ys) (k + 2 * ((ys.length - n : Nat) : Int), ys.take n ++ markP k (ys.drop n)) := by
    intro m
    induction m with
    | zero =>
      intro n k ys hm hn hl hk
      obtain rfl : n = ys.length := by omega
      apply ev_succ
      simp only [laws_markSpanS_L2, Int.lt_irrefl, decide_false, cond_false]
      exact ev_eq (ev_now _) (by simp [markP])
    | succ m ih =>
      intro n k ys hm hn hl hk
      have hlt : n < ys.length := by omega
      refine ev_succ (ev_congr (fun q => mark_step q k n ys hlt (by omega) (by omega)) ?_)
      have := ih (n + 1) (k + 2) (ys.set n (k, k + 1)) (by simp; omega) (by simp; omega) (by simp; omega) (by simp; omega)
      refine ev_eq this ?_
      rw [List.length_set, List.drop_set_of_lt (by omega), drop_cons hlt, List.take_succ_eq_append_getElem (by simpa using hlt)]
      simp only [markP, List.getElem_set_self, List.take_set_of_le (Nat.le_refl n), List.append_assoc, List.singleton_append]
      congr 1
      omega
  have := loop xs.length 0 1 xs (by omega) (by omega) hx (by omega)
  simpa [laws_markSpanS_F] using this
theorem heldSpanS_eq (xs : List (Int × Int)) (hx : xs.length ≤ 3000) : laws_heldSpanS (markP 1 xs) 1 = some (1 + 2 * (xs.length : Int)) := by
  refine evF_eq ?_
  have hl := markP_length 1 xs
  have h0 := ev_upto (l := fun q n => laws_heldSpanS_L2 q (markP 1 xs) (1 + 2 * (n : Int)) (n : Int)) (N := xs.length) (r := 1 + 2 * (xs.length : Int)) (fun n hn q => by
    have hn' : n < (markP 1 xs).length := by omega
    have e1 : (1 + 2 * (n : Int)) + 1 + 1 = 1 + 2 * ((n + 1 : Nat) : Int) := by omega
    have e6 : (n : Int) + 1 = ((n + 1 : Nat) : Int) := by omega
    simp (disch := omega) only [laws_heldSpanS_L2, w64, e1]
    simp only [show (n : Int) < ((markP 1 xs).length : Int) by omega, show (0 : Int) ≤ (n : Int) by omega, decide_true, cond_true, rd_nat (k := K2_PA2) hn', markP_get, bne_self_eq_false, cond_false, e6]) (ev_succ (by
    simp only [laws_heldSpanS_L2, hl, Int.lt_irrefl, decide_false, cond_false]
    exact ev_now _))
  simpa [laws_heldSpanS_F] using h0
theorem law (a0 : ByteArray) (a1 a2 a3 a4 a5 a6 : Int) (a7 a8 : ByteArray) (a9 : Int) (xs : List Ch) (h0 : a0.size ≤ 9223372036854775807) (h7 : a7.size ≤ 9223372036854775807) (h8 : a8.size ≤ 9223372036854775807)
    (hx : xs.length ≤ 9223372036854775807) (hw : ∀ c ∈ xs, wfCh c) : laws_FnExactParts a0 a1 a2 a3 a4 a5 a6 a7 a8 a9 xs = some true := by
  obtain ⟨v, hv, hv2⟩ := szTaf_eq a0 a1 a2 a3 a4 a5 a6 a7 a8 a9 xs h0 h7 h8 hx hw
  unfold laws_FnExactParts
  rw [hv, Option.bind_some]
  by_cases hneg : v < 0
  · simp only [hneg, decide_true, cond_true]
  have hxl := hv2 (by omega)
  have hp := parts_len a0 a1 a2 a3 a4 a5 a6 a7 a8 a9 xs
  obtain ⟨k, ys, hk, hm⟩ := markChangeS_some xs hxl
  simp only [hneg, decide_false, cond_false, toTaf_eq a0 a1 a2 a3 a4 a5 a6 a7 a8 a9 xs hxl, Option.bind_some, spec_Parts_eq, impl_Parts_eq, eqTaf_self a0 a1 a2 a3 a4 a5 a6 a7 a8 a9 xs hxl, Bool.not_true]
  generalize partsV a0 a1 a2 a3 a4 a5 a6 a7 a8 a9 xs = r at hp ⊢
  simp only [eqSpanS_self r (by omega), laws_markTaf, hm, Option.bind_some, Bool.not_true, cond_false, show ¬ k < 0 by omega, decide_false, markSpanS_eq r (by omega), heldSpanS_eq r (by omega),
    show ¬ (1 + 2 * (r.length : Int)) < 0 by omega, bne_self_eq_false]
theorem pure (z0 : denKs [.str, .int .i64, .int .i64, .int .i64, .int .i64, .int .i64, .int .i64, .str, .str, .int .i64, .sl K9_0]) (h0 : wfKs [.str, .int .i64, .int .i64, .int .i64, .int .i64, .int .i64, .int .i64, .str, .str, .int .i64, .sl K9_0] z0) :
    g_laws_FnExactParts.fn ((z0, ()), ()) = some true := by
  obtain ⟨w0, _, _, _, _, _, _, w7, w8, _, w10, _⟩ := h0
  refine law z0.1 z0.2.1 z0.2.2.1 z0.2.2.2.1 z0.2.2.2.2.1 z0.2.2.2.2.2.1 z0.2.2.2.2.2.2.1 z0.2.2.2.2.2.2.2.1 z0.2.2.2.2.2.2.2.2.1 z0.2.2.2.2.2.2.2.2.2.1 z0.2.2.2.2.2.2.2.2.2.2.1 (wf_str.1 w0) (wf_str.1 w7) (wf_str.1 w8) (wf_sl.1 w10).1 fun c hc => ?_
  obtain ⟨_, _, _, _, _, _, e6, e7, _⟩ := (wf_sl.1 w10).2 c hc
  exact ⟨wf_str.1 e6, wf_str.1 e7⟩
end Go.Proofs.YtmcmkdiefpepnaaDoor.PA
