/-
  Part of a proof by the engine: texts that a program of ours printed, or plain lemmas on them. No condition but what each theorem says.
-/
import Derived.Test.YtmcmkdiefpepnaaDoorSAP5
set_option linter.unusedVariables false
set_option linter.unusedSimpArgs false
namespace Go.Proofs.YtmcmkdiefpepnaaDoor.SA
open Go Go.Eng
noncomputable def markL (k : Int) : List Sk → List Sk
  | [] => []
  | _ :: xs => tupS k :: markL (k + 6) xs
theorem markL_length (k : Int) (xs : List Sk) : (markL k xs).length = xs.length := by
  induction xs generalizing k with
  | nil => rfl
  | cons x xs ih => simp [markL, ih]
theorem markL_get (k : Int) (xs : List Sk) (n : Nat) (h : n < (markL k xs).length) : (markL k xs)[n] = tupS (k + 6 * (n : Int)) := by
  induction xs generalizing k n with
  | nil => simp [markL] at h
  | cons x xs ih =>
    cases n with
    | zero => simp [markL]
    | succ n =>
      simp only [markL, List.getElem_cons_succ]
      rw [ih]
      congr 1; omega
theorem markSkyS_eq (xs : List Sk) (hx : xs.length ≤ 10) : laws_markSkyS 1 xs = some (1 + 6 * (xs.length : Int), markL 1 xs) := by
  refine evF_eq ?_
  have loop : ∀ (m n : Nat) (k : Int) (ys : List Sk), ys.length - n = m → n ≤ ys.length → ys.length ≤ 10 → 0 ≤ k ∧ k ≤ 1000 - 6 * ((ys.length - n : Nat) : Int) →
      Ev (fun q => laws_markSkyS_L2 q k (n : Int) ys) (k + 6 * ((ys.length - n : Nat) : Int), ys.take n ++ markL k (ys.drop n)) := by
    intro m
    induction m with
    | zero =>
      intro n k ys hm hn hl hk
      obtain rfl : n = ys.length := by omega
      apply ev_succ
      simp only [laws_markSkyS_L2, Int.lt_irrefl, decide_false, cond_false]
      exact ev_eq (ev_now _) (by simp [markL])
    | succ m ih =>
      intro n k ys hm hn hl hk
      have hlt : n < ys.length := by omega
      refine ev_succ (ev_congr (fun q => markSky_step q k n ys hlt (by omega) (by omega)) ?_)
      have := ih (n + 1) (k + 6) (ys.set n (tupS k)) (by simp; omega) (by simp; omega) (by simp; omega) (by simp; omega)
      refine ev_eq this ?_
      rw [List.length_set, List.drop_set_of_lt (by omega), drop_cons hlt, List.take_succ_eq_append_getElem (by simpa using hlt)]
      simp only [markL, List.getElem_set_self, List.take_set_of_le (Nat.le_refl n), List.append_assoc, List.singleton_append]
      congr 1
      omega
  have := loop xs.length 0 1 xs (by omega) (by omega) hx (by omega)
  simpa [laws_markSkyS_F] using this
theorem heldSkyS_eq (xs : List Sk) (hx : xs.length ≤ 10) : laws_heldSkyS (markL 1 xs) 1 = some (1 + 6 * (xs.length : Int)) := by
  refine evF_eq ?_
  have hl := markL_length 1 xs
  have h0 := ev_upto (l := fun q n => laws_heldSkyS_L2 q (markL 1 xs) (1 + 6 * (n : Int)) (n : Int)) (N := xs.length) (r := 1 + 6 * (xs.length : Int)) (fun n hn q => by
    have hn' : n < (markL 1 xs).length := by omega
    have e1 : (1 + 6 * (n : Int)) + 1 + 1 = 1 + 6 * (n : Int) + 2 := by omega
    have e2 : (1 + 6 * (n : Int)) + 2 + 1 = 1 + 6 * (n : Int) + 3 := by omega
    have e3 : (1 + 6 * (n : Int)) + 3 + 1 = 1 + 6 * (n : Int) + 4 := by omega
    have e4 : (1 + 6 * (n : Int)) + 4 + 1 = 1 + 6 * (n : Int) + 5 := by omega
    have e5 : (1 + 6 * (n : Int)) + 5 + 1 = 1 + 6 * ((n + 1 : Nat) : Int) := by omega
    have e6 : (n : Int) + 1 = ((n + 1 : Nat) : Int) := by omega
    simp (disch := omega) only [laws_heldSkyS_L2, w64, e1, e2, e3, e4, e5, markText_eq, Option.bind_some]
    simp only [show (n : Int) < ((markL 1 xs).length : Int) by omega, show (0 : Int) ≤ (n : Int) by omega, decide_true, cond_true, rd_nat (k := K6_1) hn', markL_get, tupS, bne_self_eq_false, cond_false, beq_self_bytes, Bool.not_true, e6]) (ev_succ (by
    simp only [laws_heldSkyS_L2, hl, Int.lt_irrefl, decide_false, cond_false]
    exact ev_now _))
  simpa [laws_heldSkyS_F] using h0
noncomputable def tupC (k : Int) : Ch := (k, k + 1, k + 2, k + 3, k + 4, k + 5, mkT (k + 6), mkT (k + 7), k + 8)
theorem pC0 (x : Ch) (v : Int) : putK K9_0 0 [.int .i64 v] x = some (v, x.2) := rfl
theorem pC1 (x : Ch) (v : Int) : putK K9_0 1 [.int .i64 v] x = some (x.1, v, x.2.2) := rfl
theorem pC2 (x : Ch) (v : Int) : putK K9_0 2 [.int .i64 v] x = some (x.1, x.2.1, v, x.2.2.2) := rfl
theorem pC3 (x : Ch) (v : Int) : putK K9_0 3 [.int .i64 v] x = some (x.1, x.2.1, x.2.2.1, v, x.2.2.2.2) := rfl
theorem pC4 (x : Ch) (v : Int) : putK K9_0 4 [.int .i64 v] x = some (x.1, x.2.1, x.2.2.1, x.2.2.2.1, v, x.2.2.2.2.2) := rfl
theorem pC5 (x : Ch) (v : Int) : putK K9_0 5 [.int .i64 v] x = some (x.1, x.2.1, x.2.2.1, x.2.2.2.1, x.2.2.2.2.1, v, x.2.2.2.2.2.2) := rfl
theorem pC6 (x : Ch) (v : ByteArray) : putK K9_0 6 [.str v] x = some (x.1, x.2.1, x.2.2.1, x.2.2.2.1, x.2.2.2.2.1, x.2.2.2.2.2.1, v, x.2.2.2.2.2.2.2) := rfl
theorem pC7 (x : Ch) (v : ByteArray) : putK K9_0 7 [.str v] x = some (x.1, x.2.1, x.2.2.1, x.2.2.2.1, x.2.2.2.2.1, x.2.2.2.2.2.1, x.2.2.2.2.2.2.1, v, x.2.2.2.2.2.2.2.2) := rfl
theorem pC8 (x : Ch) (v : Int) : putK K9_0 8 [.int .i64 v] x = some (x.1, x.2.1, x.2.2.1, x.2.2.2.1, x.2.2.2.2.1, x.2.2.2.2.2.1, x.2.2.2.2.2.2.1, x.2.2.2.2.2.2.2.1, v) := rfl
theorem markCh_step (k' : Nat) (k : Int) (n : Nat) (xs : List Ch) (hn : n < xs.length) (hx : xs.length ≤ 1048576) (hk : 0 ≤ k ∧ k ≤ 1000000000) :
    laws_markChangeS_L2 (k' + 1) k (n : Int) xs = laws_markChangeS_L2 k' (k + 9) ((n + 1 : Nat) : Int) (xs.set n (tupC k)) := by
  have e1 : k + 1 + 1 = k + 2 := by omega
  have e2 : k + 2 + 1 = k + 3 := by omega
  have e3 : k + 3 + 1 = k + 4 := by omega
  have e4 : k + 4 + 1 = k + 5 := by omega
  have e5 : k + 5 + 1 = k + 6 := by omega
  have e6 : k + 6 + 1 = k + 7 := by omega
  have e7 : k + 7 + 1 = k + 8 := by omega
  have e8 : k + 8 + 1 = k + 9 := by omega
  have e9 : (n : Int) + 1 = ((n + 1 : Nat) : Int) := by omega
  simp (disch := omega) only [laws_markChangeS_L2, w64, e1, e2, e3, e4, e5, e6, e7, e8, markText_eq, Option.bind_some]
  simp only [show (n : Int) < (xs.length : Int) by omega, show (0 : Int) ≤ (n : Int) by omega, decide_true, cond_true]
  have hS : ∀ (o : Nat) (cs : List Cell) (ys : List Ch) (h : n < ys.length), setO K9_0 o cs ys (n : Int) = (putK K9_0 o cs ys[n]).map fun y => ys.set n y := fun o cs ys h => setO_put h
  simp only [hS, hn, List.length_set, pC0, pC1, pC2, pC3, pC4, pC5, pC6, pC7, pC8, Option.map_some, Option.bind_some, List.getElem_set_self, List.set_set, show (n : Int) < (xs.length : Int) by omega, decide_true, cond_true, e9]
  rfl
theorem markChangeS_some (xs : List Ch) (hx : xs.length ≤ 1048576) : ∃ k ys, 0 ≤ k ∧ laws_markChangeS 1 xs = some (k, ys) := by
  have loop : ∀ (m n : Nat) (k : Int) (ys : List Ch), ys.length - n = m → n ≤ ys.length → ys.length ≤ 1048576 → 0 ≤ k ∧ k ≤ 100000000 - 9 * ((ys.length - n : Nat) : Int) →
      ∃ k' zs, 0 ≤ k' ∧ Ev (fun q => laws_markChangeS_L2 q k (n : Int) ys) (k', zs) := by
    intro m
    induction m with
    | zero =>
      intro n k ys hm hn hl hk
      obtain rfl : n = ys.length := by omega
      refine ⟨k, ys, hk.1, ev_succ ?_⟩
      simp only [laws_markChangeS_L2, Int.lt_irrefl, decide_false, cond_false]
      exact ev_now _
    | succ m ih =>
      intro n k ys hm hn hl hk
      have hlt : n < ys.length := by omega
      obtain ⟨k', zs, h1, h2⟩ := ih (n + 1) (k + 9) (ys.set n (tupC k)) (by simp; omega) (by simp; omega) (by simp; omega) (by simp; omega)
      exact ⟨k', zs, h1, ev_succ (ev_congr (fun q => markCh_step q k n ys hlt (by omega) (by omega)) h2)⟩
  obtain ⟨k, ys, h1, h2⟩ := loop xs.length 0 1 xs (by omega) (by omega) hx (by omega)
  exact ⟨k, ys, h1, evF_eq h2⟩
theorem mayAt_length (t : Int) (s : Sk) (xs : List Ch) : (mayAt t s xs).length ≤ xs.length := by
  induction xs with
  | nil => simp [mayAt]
  | cons c cs ih =>
    simp only [mayAt]
    split <;> simp only [List.length_cons] <;> omega
theorem state_list (a0 : ByteArray) (a1 vf vt d s v : Int) (w c : ByteArray) (b : Int) (xs : List Ch) (t : Int) : (stateV a0 a1 vf vt d s v w c b xs t).2.2.2.2.2.2.2.length ≤ 10 := by
  unfold stateV
  split
  · rename_i h
    have := taf_len h.1
    have := mayAt_length t (xs.foldl (stepS t) (d, s, v, w, c, b)) xs
    show (mayAt t (xs.foldl (stepS t) (d, s, v, w, c, b)) xs).length ≤ 10
    omega
  · simp
theorem law (a0 : ByteArray) (a1 a2 a3 a4 a5 a6 : Int) (a7 a8 : ByteArray) (a9 : Int) (xs : List Ch) (t : Int) (h0 : a0.size ≤ 9223372036854775807) (h7 : a7.size ≤ 9223372036854775807) (h8 : a8.size ≤ 9223372036854775807)
    (hx : xs.length ≤ 9223372036854775807) (hw : ∀ c ∈ xs, wfCh c) : laws_FnExactStateAt a0 a1 a2 a3 a4 a5 a6 a7 a8 a9 xs t = some true := by
  obtain ⟨v, hv, hv2⟩ := szTaf_eq a0 a1 a2 a3 a4 a5 a6 a7 a8 a9 xs h0 h7 h8 hx hw
  unfold laws_FnExactStateAt
  rw [hv, Option.bind_some]
  by_cases hneg : v < 0
  · simp only [hneg, decide_true, cond_true]
  have hxl := hv2 (by omega)
  simp only [hneg, decide_false, cond_false, toTaf_eq a0 a1 a2 a3 a4 a5 a6 a7 a8 a9 xs hxl, Option.bind_some, spec_StateAt_eq, impl_StateAt_eq, eqSky_self, eqTaf_self a0 a1 a2 a3 a4 a5 a6 a7 a8 a9 xs hxl, Bool.not_true]
  have hs := state_list a0 a1 a2 a3 a4 a5 a6 a7 a8 a9 xs t
  generalize stateV a0 a1 a2 a3 a4 a5 a6 a7 a8 a9 xs t = r at hs ⊢
  obtain ⟨k, ys, hk, hm⟩ := markChangeS_some xs hxl
  have hb : ∀ b : Bool, (!b == b) = false := fun b => by cases b <;> rfl
  simp only [eqSkyS_self _ (show r.2.2.2.2.2.2.2.length ≤ 1048576 by omega), laws_markTaf, hm, Option.bind_some, Bool.not_true, cond_false, hb, show ¬ k < 0 by omega, decide_false, markSkyS_eq _ hs, heldSkyS_eq _ hs,
    show ¬ (1 + 6 * (r.2.2.2.2.2.2.2.length : Int)) < 0 by omega, bne_self_eq_false, eqSky_self]
theorem pure (z0 : denKs [.str, .int .i64, .int .i64, .int .i64, .int .i64, .int .i64, .int .i64, .str, .str, .int .i64, .sl K9_0]) (z1 : denKs [.int .i64]) (h0 : wfKs [.str, .int .i64, .int .i64, .int .i64, .int .i64, .int .i64, .int .i64, .str, .str, .int .i64, .sl K9_0] z0) (h1 : wfKs [.int .i64] z1) :
    g_laws_FnExactStateAt.fn ((z0, z1.1, ()), ()) = some true := by
  obtain ⟨w0, _, _, _, _, _, _, w7, w8, _, w10, _⟩ := h0
  refine law z0.1 z0.2.1 z0.2.2.1 z0.2.2.2.1 z0.2.2.2.2.1 z0.2.2.2.2.2.1 z0.2.2.2.2.2.2.1 z0.2.2.2.2.2.2.2.1 z0.2.2.2.2.2.2.2.2.1 z0.2.2.2.2.2.2.2.2.2.1 z0.2.2.2.2.2.2.2.2.2.2.1 z1.1 (wf_str.1 w0) (wf_str.1 w7) (wf_str.1 w8) (wf_sl.1 w10).1 fun c hc => ?_
  obtain ⟨_, _, _, _, _, _, e6, e7, _⟩ := (wf_sl.1 w10).2 c hc
  exact ⟨wf_str.1 e6, wf_str.1 e7⟩
end Go.Proofs.YtmcmkdiefpepnaaDoor.SA
