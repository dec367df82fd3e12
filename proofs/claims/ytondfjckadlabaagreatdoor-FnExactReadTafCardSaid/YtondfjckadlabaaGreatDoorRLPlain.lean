/-
  Part of a proof by the engine: texts that a program of ours printed, or plain lemmas on them. No condition but what each theorem says.
-/
import Derived.Test.YtondfjckadlabaaGreatDoorRL
import Derived.Test.YtondfjckadlabaaGreatDoorRTPlain
set_option linter.unusedVariables false
set_option linter.unusedSimpArgs false
namespace Go.Proofs.YtondfjckadlabaaGreatDoor.RL
open Go Go.Eng Go.Proofs.YtondfjckadlabaaGreatDoor.DT Go.Proofs.YtondfjckadlabaaGreatDoor.NU Go.Proofs.YtondfjckadlabaaGreatDoor.SA Go.Proofs.YtondfjckadlabaaGreatDoor.TT Go.Proofs.YtondfjckadlabaaGreatDoor.RT Go.Proofs.YtondfjckadlabaaGreatDoor.EX
theorem eqSky_self (a0 a1 a2 : Int) (a3 a4 : ByteArray) (a5 : Int) : laws_eqSky a0 a1 a2 a3 a4 a5 a0 a1 a2 a3 a4 a5 = some true := by
  simp [laws_eqSky]
theorem eqChange_self (c : Ch) : laws_eqChange c.1 c.2.1 c.2.2.1 c.2.2.2.1 c.2.2.2.2.1 c.2.2.2.2.2.1 c.2.2.2.2.2.2.1 c.2.2.2.2.2.2.2.1 c.2.2.2.2.2.2.2.2 c.1 c.2.1 c.2.2.1 c.2.2.2.1 c.2.2.2.2.1 c.2.2.2.2.2.1 c.2.2.2.2.2.2.1 c.2.2.2.2.2.2.2.1 c.2.2.2.2.2.2.2.2 = some true := by
  simp [laws_eqChange, eqSky_self]
theorem eqChangeS_self (xs : List Ch) (hx : xs.length ≤ 1048576) : laws_eqChangeS xs xs = some true := by
  refine evF_eq ?_
  simp only [laws_eqChangeS_F, bne_self_eq_false, cond_false]
  exact ev_upto (l := fun k n => laws_eqChangeS_L4 k xs xs (n : Int)) (N := xs.length) (fun n hn k => by
    simp only [laws_eqChangeS_L4, show (n : Int) < (xs.length : Int) by omega, show (0 : Int) ≤ (n : Int) by omega, decide_true, cond_true, rd_nat (k := K9_SA0) hn, wsucc (show n < 9223372036854775807 by omega), eqChange_self, Option.bind_some, Bool.not_true, cond_false]) (ev_succ (by
    simp only [laws_eqChangeS_L4, Int.lt_irrefl, decide_false, cond_false]
    exact ev_now _))
theorem eqSpan_self (a b : Int) : laws_eqSpan a b a b = some true := by simp [laws_eqSpan]
theorem eqTaf_self (a0 : ByteArray) (a1 a2 a3 a4 a5 a6 : Int) (a7 a8 : ByteArray) (a9 : Int) (xs : List Ch) (hx : xs.length ≤ 1048576) : laws_eqTaf a0 a1 a2 a3 a4 a5 a6 a7 a8 a9 xs a0 a1 a2 a3 a4 a5 a6 a7 a8 a9 xs = some true := by
  simp [laws_eqTaf, eqSky_self, eqSpan_self, eqChangeS_self xs hx]
theorem markText_some (k : Int) (hk : k ≤ 1099511627776) : ∃ s, laws_markText k = some s := by
  by_cases h0 : k ≤ 0
  · exact ⟨_, evF_eq (by simp only [laws_markText_F, h0, decide_true, cond_true]; exact ev_now _)⟩
  have loop : ∀ (m : Nat) (k : Int) (s : ByteArray), k.toNat ≤ m → 0 ≤ k → k ≤ 1099511627776 → (s.size : Int) + k ≤ 2199023255552 → ∃ r, Ev (fun n => laws_markText_L4 n k s) r := by
    intro m
    induction m with
    | zero =>
      intro k s h1 h2 h3 h4
      refine ⟨bs [109] ++ s, ev_succ ?_⟩
      simp only [laws_markText_L4, show ¬ k > 0 by omega, decide_false, cond_false, size_bs, List.length_singleton, show 1 + s.size ≤ 9223372036854775807 by omega, decide_true, cond_true]
      exact ev_now _
    | succ m ih =>
      intro k s h1 h2 h3 h4
      by_cases h : k > 0
      · have hd : k.tdiv 10 = k / 10 := Int.tdiv_eq_ediv_of_nonneg h2
        have hb : ∀ x : Int, (bytesOf [x]).size = 1 := fun x => rfl
        obtain ⟨r, hr⟩ := ih (k / 10) (bytesOf [IntKind.u8.wrap (IntKind.i64.wrap (48 + k.tmod 10))] ++ s) (by omega) (by omega) (by omega) (by rw [ByteArray.size_append, hb]; omega)
        refine ⟨r, ev_succ ?_⟩
        simp only [laws_markText_L4, h, decide_true, cond_true, hb, show 1 + s.size ≤ 9223372036854775807 by omega, hd, w64 (n := k / 10) (by omega) (by omega)]
        exact hr
      · refine ⟨bs [109] ++ s, ev_succ ?_⟩
        simp only [laws_markText_L4, h, decide_false, cond_false, size_bs, List.length_singleton, show 1 + s.size ≤ 9223372036854775807 by omega, decide_true, cond_true]
        exact ev_now _
  obtain ⟨r, hr⟩ := loop k.toNat k (bs []) (Nat.le_refl _) (by omega) hk (by simp [size_bs]; omega)
  exact ⟨r, evF_eq (by simp only [laws_markText_F, h0, decide_false, cond_false]; exact hr)⟩
noncomputable def mkT (k : Int) : ByteArray := (laws_markText k).getD (bs [])
theorem markText_eq {k : Int} (hk : k ≤ 1099511627776) : laws_markText k = some (mkT k) := by
  obtain ⟨s, h⟩ := markText_some k hk
  simp [mkT, h]
noncomputable def tupC (k : Int) : Ch := (k, k + 1, k + 2, k + 3, k + 4, k + 5, mkT (k + 6), mkT (k + 7), k + 8)
theorem pC0 (x : Ch) (v : Int) : putK K9_SA0 0 [.int .i64 v] x = some (v, x.2) := rfl
theorem pC1 (x : Ch) (v : Int) : putK K9_SA0 1 [.int .i64 v] x = some (x.1, v, x.2.2) := rfl
theorem pC2 (x : Ch) (v : Int) : putK K9_SA0 2 [.int .i64 v] x = some (x.1, x.2.1, v, x.2.2.2) := rfl
theorem pC3 (x : Ch) (v : Int) : putK K9_SA0 3 [.int .i64 v] x = some (x.1, x.2.1, x.2.2.1, v, x.2.2.2.2) := rfl
theorem pC4 (x : Ch) (v : Int) : putK K9_SA0 4 [.int .i64 v] x = some (x.1, x.2.1, x.2.2.1, x.2.2.2.1, v, x.2.2.2.2.2) := rfl
theorem pC5 (x : Ch) (v : Int) : putK K9_SA0 5 [.int .i64 v] x = some (x.1, x.2.1, x.2.2.1, x.2.2.2.1, x.2.2.2.2.1, v, x.2.2.2.2.2.2) := rfl
theorem pC6 (x : Ch) (v : ByteArray) : putK K9_SA0 6 [.str v] x = some (x.1, x.2.1, x.2.2.1, x.2.2.2.1, x.2.2.2.2.1, x.2.2.2.2.2.1, v, x.2.2.2.2.2.2.2) := rfl
theorem pC7 (x : Ch) (v : ByteArray) : putK K9_SA0 7 [.str v] x = some (x.1, x.2.1, x.2.2.1, x.2.2.2.1, x.2.2.2.2.1, x.2.2.2.2.2.1, x.2.2.2.2.2.2.1, v, x.2.2.2.2.2.2.2.2) := rfl
theorem pC8 (x : Ch) (v : Int) : putK K9_SA0 8 [.int .i64 v] x = some (x.1, x.2.1, x.2.2.1, x.2.2.2.1, x.2.2.2.2.1, x.2.2.2.2.2.1, x.2.2.2.2.2.2.1, x.2.2.2.2.2.2.2.1, v) := rfl
theorem markCh_step (k' : Nat) (k : Int) (n : Nat) (xs : List Ch) (hn : n < xs.length) (hx : xs.length ≤ 1048576) (hk : 0 ≤ k ∧ k ≤ 1000000000) :
    laws_markChangeS_L2 (k' + 1) k (n : Int) xs = laws_markChangeS_L2 k' (k + 9) ((n + 1 : Nat) : Int) (xs.set n (tupC k)) := by
  have e1 : k + 1 + 1 = k + 2 := by omega
  have e2 : k + 2 + 1 = k + 3 := by omega
  have e3 : k + 3 + 1 = k + 4 := by omega
  have e4 : k + 4 + 1 = k + 5 := by omega
  have e5 : k + 5 + 1 = k + 6 := by omega
  have e6 : k + 6 + 1 = k + 7 := by omega
  have e7 : k + 7 + 1 = k + 8 := by omega
  have e8 : k + 8 + 1 = k + 9 := by omega
  have e9 : (n : Int) + 1 = ((n + 1 : Nat) : Int) := by omega
  simp (disch := omega) only [laws_markChangeS_L2, w64, e1, e2, e3, e4, e5, e6, e7, e8, markText_eq, Option.bind_some]
  simp only [show (n : Int) < (xs.length : Int) by omega, show (0 : Int) ≤ (n : Int) by omega, decide_true, cond_true]
  have hS : ∀ (o : Nat) (cs : List Cell) (ys : List Ch) (h : n < ys.length), setO K9_SA0 o cs ys (n : Int) = (putK K9_SA0 o cs ys[n]).map fun y => ys.set n y := fun o cs ys h => setO_put h
  simp only [hS, hn, List.length_set, pC0, pC1, pC2, pC3, pC4, pC5, pC6, pC7, pC8, Option.map_some, Option.bind_some, List.getElem_set_self, List.set_set, show (n : Int) < (xs.length : Int) by omega, decide_true, cond_true, e9]
  rfl
end Go.Proofs.YtondfjckadlabaaGreatDoor.RL

namespace Go.Proofs.YtondfjckadlabaaGreatDoor.RL
open Go Go.Eng Go.Proofs.YtondfjckadlabaaGreatDoor.DT Go.Proofs.YtondfjckadlabaaGreatDoor.NU Go.Proofs.YtondfjckadlabaaGreatDoor.SA Go.Proofs.YtondfjckadlabaaGreatDoor.TT Go.Proofs.YtondfjckadlabaaGreatDoor.RT Go.Proofs.YtondfjckadlabaaGreatDoor.EX
noncomputable def markC (k : Int) : List Ch → List Ch
  | [] => []
  | _ :: r => tupC k :: markC (k + 9) r
theorem markC_length (k : Int) (xs : List Ch) : (markC k xs).length = xs.length := by
  induction xs generalizing k with
  | nil => rfl
  | cons x r ih => simp [markC, ih]
theorem markC_get (k : Int) (xs : List Ch) (n : Nat) (h : n < (markC k xs).length) : (markC k xs)[n] = tupC (k + 9 * (n : Int)) := by
  induction xs generalizing k n with
  | nil => simp [markC] at h
  | cons x r ih =>
    cases n with
    | zero => simp [markC]
    | succ n =>
      simp only [markC, List.getElem_cons_succ]
      rw [ih]
      congr 1
      omega
theorem markChangeS_eq (xs : List Ch) (hx : xs.length ≤ 10) : laws_markChangeS 1 xs = some (1 + 9 * (xs.length : Int), markC 1 xs) := by
  have hl : (markC 1 xs).length = xs.length := markC_length 1 xs
  have loop : ∀ (m n : Nat), xs.length - n = m → n ≤ xs.length →
      Ev (fun q => laws_markChangeS_L2 q (1 + 9 * (n : Int)) (n : Int) ((markC 1 xs).take n ++ xs.drop n)) (1 + 9 * (xs.length : Int), markC 1 xs) := by
    intro m
    induction m with
    | zero =>
      intro n hm hn
      obtain rfl : n = xs.length := by omega
      have e : (markC 1 xs).take xs.length ++ xs.drop xs.length = markC 1 xs := by rw [← hl, List.take_length, hl, List.drop_length, List.append_nil]
      rw [e]
      apply ev_succ
      simp only [laws_markChangeS_L2, hl, Int.lt_irrefl, decide_false, cond_false]
      exact ev_now _
    | succ m ih =>
      intro n hm hn
      have hlt : n < xs.length := by omega
      have hlt' : n < (markC 1 xs).length := by omega
      have hlen : ((markC 1 xs).take n ++ xs.drop n).length = xs.length := by simp; omega
      have hset : ((markC 1 xs).take n ++ xs.drop n).set n (tupC (1 + 9 * (n : Int))) = (markC 1 xs).take (n + 1) ++ xs.drop (n + 1) := by
        rw [List.set_append_right _ _ (by simp; omega)]
        have : n - ((markC 1 xs).take n).length = 0 := by simp; omega
        rw [this, drop_cons hlt, List.set_cons_zero, List.take_succ_eq_append_getElem hlt', List.append_assoc, markC_get]
        rfl
      have := ih (n + 1) (by omega) (by omega)
      refine ev_succ (ev_congr (fun q => markCh_step q (1 + 9 * (n : Int)) n _ (by omega) (by omega) (by omega)) ?_)
      rw [hset, show 1 + 9 * (n : Int) + 9 = 1 + 9 * ((n + 1 : Nat) : Int) by omega]
      exact this
  have := loop xs.length 0 (by omega) (by omega)
  exact evF_eq (by simpa [laws_markChangeS_F] using this)
theorem held_step (k' : Nat) (k : Int) (n : Nat) (ys : List Ch) (hn : n < ys.length) (hx : ys.length ≤ 1048576) (hk : 0 ≤ k ∧ k ≤ 1000000000) (hy : ys[n] = tupC k) :
    laws_heldChangeS_L2 (k' + 1) ys k (n : Int) = laws_heldChangeS_L2 k' ys (k + 9) ((n + 1 : Nat) : Int) := by
  have e1 : k + 1 + 1 = k + 2 := by omega
  have e2 : k + 2 + 1 = k + 3 := by omega
  have e3 : k + 3 + 1 = k + 4 := by omega
  have e4 : k + 4 + 1 = k + 5 := by omega
  have e5 : k + 5 + 1 = k + 6 := by omega
  have e6 : k + 6 + 1 = k + 7 := by omega
  have e7 : k + 7 + 1 = k + 8 := by omega
  have e8 : k + 8 + 1 = k + 9 := by omega
  have e9 : (n : Int) + 1 = ((n + 1 : Nat) : Int) := by omega
  simp (disch := omega) only [laws_heldChangeS_L2, w64, e1, e2, e3, e4, e5, e6, e7, e8, markText_eq, Option.bind_some]
  simp only [show (n : Int) < (ys.length : Int) by omega, show (0 : Int) ≤ (n : Int) by omega, decide_true, cond_true, rd_nat (k := K9_SA0) hn, hy, tupC, bne_self_eq_false, beq_self_eq_true, Bool.not_true, cond_false, e9]
theorem heldChangeS_eq (xs : List Ch) (hx : xs.length ≤ 10) : laws_heldChangeS (markC 1 xs) 1 = some (1 + 9 * (xs.length : Int)) := by
  have hl : (markC 1 xs).length = xs.length := markC_length 1 xs
  have loop : ∀ (m n : Nat), xs.length - n = m → n ≤ xs.length → Ev (fun q => laws_heldChangeS_L2 q (markC 1 xs) (1 + 9 * (n : Int)) (n : Int)) (1 + 9 * (xs.length : Int)) := by
    intro m
    induction m with
    | zero =>
      intro n hm hn
      obtain rfl : n = xs.length := by omega
      apply ev_succ
      simp only [laws_heldChangeS_L2, hl, Int.lt_irrefl, decide_false, cond_false]
      exact ev_now _
    | succ m ih =>
      intro n hm hn
      have hlt : n < (markC 1 xs).length := by omega
      have := ih (n + 1) (by omega) (by omega)
      refine ev_succ (ev_congr (fun q => held_step q (1 + 9 * (n : Int)) n _ hlt (by omega) (by omega) (markC_get 1 xs n hlt)) ?_)
      rw [show 1 + 9 * (n : Int) + 9 = 1 + 9 * ((n + 1 : Nat) : Int) by omega]
      exact this
  have := loop xs.length 0 (by omega) (by omega)
  exact evF_eq (by simpa [laws_heldChangeS_F] using this)
theorem law (t : ByteArray) (ref : Int) : laws_FnExactReadTaf t ref = some true := by
  unfold laws_FnExactReadTaf
  by_cases h : (t.size : Int) > 1048576
  · simp only [h, decide_true, cond_true]
  · obtain ⟨r, e1, e2, g⟩ := read_both (text := t) (by omega) ref
    have hlen : r.2.2.2.2.2.2.2.2.2.2.2.length ≤ 10 := by
      rcases g with rfl | ⟨c0, R, vf, vt, d, s, v, w, c, b, xs, h1, _, rfl⟩
      · simp [noI]
      · exact taf_len h1
    have hb : ∀ b : Bool, (!b == b) = false := fun b => by cases b <;> rfl
    have hself := eqTaf_self r.1 r.2.1 r.2.2.1 r.2.2.2.1 r.2.2.2.2.1 r.2.2.2.2.2.1 r.2.2.2.2.2.2.1 r.2.2.2.2.2.2.2.1 r.2.2.2.2.2.2.2.2.1 r.2.2.2.2.2.2.2.2.2.1 r.2.2.2.2.2.2.2.2.2.2.2 (by omega)
    simp only [h, decide_false, cond_false, e1, e2, toS, Option.bind_some, hself, Bool.not_true, hb, laws_markTaf, markChangeS_eq _ hlen, laws_heldTaf, heldChangeS_eq _ hlen, show ¬ (1 + 9 * (r.2.2.2.2.2.2.2.2.2.2.2.length : Int)) < 0 by omega, bne_self_eq_false]
theorem pure (z0 : denKs [.str]) (z1 : denKs [.int .i64]) (h0 : wfKs [.str] z0) (h1 : wfKs [.int .i64] z1) : g_laws_FnExactReadTaf.fn ((z0.1, z1.1, ()), ()) = some true := law z0.1 z1.1
end Go.Proofs.YtondfjckadlabaaGreatDoor.RL
