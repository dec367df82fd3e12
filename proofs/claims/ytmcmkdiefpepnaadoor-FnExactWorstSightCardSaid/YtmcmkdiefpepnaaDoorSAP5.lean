/-
  Part of a proof by the engine: texts that a program of ours printed, or plain lemmas on them. No condition but what each theorem says.
-/
import Derived.Test.YtmcmkdiefpepnaaDoorSAP4
set_option linter.unusedVariables false
set_option linter.unusedSimpArgs false
namespace Go.Proofs.YtmcmkdiefpepnaaDoor.SA
open Go Go.Eng
/-! ### sizes -/
theorem szSky_eq (a0 a1 a2 : Int) (a3 a4 : ByteArray) (a5 left : Int) (h3 : a3.size ≤ 9223372036854775807) (h4 : a4.size ≤ 9223372036854775807) (hl : 0 ≤ left ∧ left ≤ 1048576) : ∃ v, laws_szSky a0 a1 a2 a3 a4 a5 left = some v ∧ -1 ≤ v ∧ v ≤ left := by
  unfold laws_szSky
  rw [w64 (n := left - a3.size) (by omega) (by omega)]
  by_cases h : left - (a3.size : Int) < 0
  · exact ⟨-1, by simp only [h, decide_true, cond_true], by omega, by omega⟩
  · rw [w64 (n := left - a3.size - a4.size) (by omega) (by omega)]
    by_cases h' : left - (a3.size : Int) - (a4.size : Int) < 0
    · exact ⟨-1, by simp only [h, h', decide_true, decide_false, cond_true, cond_false], by omega, by omega⟩
    · exact ⟨left - a3.size - a4.size, by simp only [h, h', decide_false, cond_false], by omega, by omega⟩
theorem szChange_eq (a0 a1 a2 a3 a4 a5 : Int) (a6 a7 : ByteArray) (a8 left : Int) (h6 : a6.size ≤ 9223372036854775807) (h7 : a7.size ≤ 9223372036854775807) (hl : 0 ≤ left ∧ left ≤ 1048576) : ∃ v, laws_szChange a0 a1 a2 a3 a4 a5 a6 a7 a8 left = some v ∧ -1 ≤ v ∧ v ≤ left := by
  obtain ⟨v, h1, h2, h3⟩ := szSky_eq a3 a4 a5 a6 a7 a8 left h6 h7 hl
  unfold laws_szChange
  rw [h1]
  by_cases h : v < 0
  · exact ⟨-1, by simp [h], by omega, by omega⟩
  · exact ⟨v, by simp [h], h2, h3⟩
def wfCh (c : Ch) : Prop := c.2.2.2.2.2.2.1.size ≤ 9223372036854775807 ∧ c.2.2.2.2.2.2.2.1.size ≤ 9223372036854775807
theorem szChangeS_eq (xs : List Ch) (left : Int) (hx : xs.length ≤ 9223372036854775807) (hw : ∀ c ∈ xs, wfCh c) (hl : 0 ≤ left ∧ left ≤ 1048576) : ∃ v, laws_szChangeS xs left = some v ∧ -1 ≤ v ∧ v ≤ left ∧ (0 ≤ v → xs.length ≤ 1048576) := by
  have loop : ∀ (m n : Nat) (left : Int), xs.length - n = m → n ≤ xs.length → 0 ≤ left ∧ left ≤ 1048576 → ∃ v, -1 ≤ v ∧ v ≤ left ∧ Ev (fun k => laws_szChangeS_L5 k xs left (n : Int)) v := by
    intro m
    induction m with
    | zero =>
      intro n left hm hn hl
      obtain rfl : n = xs.length := by omega
      refine ⟨left, by omega, by omega, ev_succ ?_⟩
      simp only [laws_szChangeS_L5, Int.lt_irrefl, decide_false, cond_false]
      exact ev_now _
    | succ m ih =>
      intro n left hm hn hl
      have hlt : n < xs.length := by omega
      have hc := hw _ (List.getElem_mem hlt)
      obtain ⟨v, h1, h2, h3⟩ := szChange_eq xs[n].1 xs[n].2.1 xs[n].2.2.1 xs[n].2.2.2.1 xs[n].2.2.2.2.1 xs[n].2.2.2.2.2.1 xs[n].2.2.2.2.2.2.1 xs[n].2.2.2.2.2.2.2.1 xs[n].2.2.2.2.2.2.2.2 left hc.1 hc.2 hl
      have st : ∀ k, laws_szChangeS_L5 (k + 1) xs left (n : Int) = bif decide (v < 0) then some (-1) else laws_szChangeS_L5 k xs v ((n + 1 : Nat) : Int) := fun k => by
        simp only [laws_szChangeS_L5, show (n : Int) < (xs.length : Int) by omega, show (0 : Int) ≤ (n : Int) by omega, decide_true, cond_true, rd_nat (k := K9_0) hlt, wsucc (show n < 9223372036854775807 by omega), h1, Option.bind_some]
      by_cases h : v < 0
      · refine ⟨-1, by omega, by omega, ev_succ (ev_congr st ?_)⟩
        simp only [h, decide_true, cond_true]
        exact ev_now _
      · obtain ⟨v', e1, e2, e3⟩ := ih (n + 1) v (by omega) (by omega) (by omega)
        refine ⟨v', e1, by omega, ev_succ (ev_congr st ?_)⟩
        simp only [h, decide_false, cond_false]
        exact e3
  by_cases h : left - (xs.length : Int) < 0
  · refine ⟨-1, evF_eq ?_, by omega, by omega, by omega⟩
    simp only [laws_szChangeS_F, w64 (n := left - xs.length) (by omega) (by omega), h, decide_true, cond_true]
    exact ev_now _
  · obtain ⟨v, e1, e2, e3⟩ := loop xs.length 0 (left - xs.length) (by omega) (by omega) (by omega)
    refine ⟨v, evF_eq ?_, e1, by omega, by omega⟩
    simp only [laws_szChangeS_F, w64 (n := left - xs.length) (by omega) (by omega), h, decide_false, cond_false]
    exact e3
theorem szTaf_eq (a0 : ByteArray) (a1 a2 a3 a4 a5 a6 : Int) (a7 a8 : ByteArray) (a9 : Int) (xs : List Ch) (h0 : a0.size ≤ 9223372036854775807) (h7 : a7.size ≤ 9223372036854775807) (h8 : a8.size ≤ 9223372036854775807) (hx : xs.length ≤ 9223372036854775807) (hw : ∀ c ∈ xs, wfCh c) :
    ∃ v, laws_szTaf a0 a1 a2 a3 a4 a5 a6 a7 a8 a9 xs 1048576 = some v ∧ (0 ≤ v → xs.length ≤ 1048576) := by
  unfold laws_szTaf
  rw [w64 (n := 1048576 - a0.size) (by omega) (by omega)]
  by_cases h : 1048576 - (a0.size : Int) < 0
  · exact ⟨-1, by simp only [h, decide_true, cond_true], by omega⟩
  · obtain ⟨v, e1, e2, e3⟩ := szSky_eq a4 a5 a6 a7 a8 a9 (1048576 - a0.size) h7 h8 (by omega)
    simp only [h, decide_false, cond_false, e1, Option.bind_some]
    by_cases hv : v < 0
    · exact ⟨-1, by simp only [hv, decide_true, cond_true], by omega⟩
    · obtain ⟨v', f1, f2, f3, f4⟩ := szChangeS_eq xs v hx hw (by omega)
      simp only [hv, decide_false, cond_false, f1, Option.bind_some]
      by_cases hv' : v' < 0
      · exact ⟨-1, by simp only [hv', decide_true, cond_true], by omega⟩
      · exact ⟨v', by simp only [hv', decide_false, cond_false], f4⟩
/-! ### copies -/
theorem toSpan_eq (a b : Int) : laws_toSpan a b = some (a, b) := rfl
theorem toSky_eq (a0 a1 a2 : Int) (a3 a4 : ByteArray) (a5 : Int) : laws_toSky a0 a1 a2 a3 a4 a5 = some (a0, a1, a2, a3, a4, a5) := rfl
theorem toChange_eq (c : Ch) : laws_toChange c.1 c.2.1 c.2.2.1 c.2.2.2.1 c.2.2.2.2.1 c.2.2.2.2.2.1 c.2.2.2.2.2.2.1 c.2.2.2.2.2.2.2.1 c.2.2.2.2.2.2.2.2 = some c := rfl
theorem toChangeS_eq (xs : List Ch) (hx : xs.length ≤ 1048576) : laws_toChangeS xs = some xs := by
  refine evF_eq ?_
  have hb : maxBytes / 88 = 1599289640401 := by decide
  simp only [laws_toChangeS_F, hb, Int.le_refl, decide_true, cond_true, Int.toNat_natCast, show xs.length ≤ 1599289640401 by omega]
  have := ev_upto (l := fun k n => laws_toChangeS_L3 k xs (n : Int) (xs.take n ++ List.replicate (xs.length - n) (0, 0, 0, 0, 0, 0, bs [], bs [], 0))) (N := xs.length) (r := xs) (fun n hn k => by
    simp only [laws_toChangeS_L3, show (n : Int) < (xs.length : Int) by omega, show (0 : Int) ≤ (n : Int) by omega, decide_true, cond_true, rd_nat (k := K9_0) hn, wsucc (show n < 9223372036854775807 by omega), toChange_eq, Option.bind_some, copy_len (Nat.le_of_lt hn)]
    rw [setW_nat (by rw [copy_len (Nat.le_of_lt hn)]; exact hn)]
    simp only [Option.bind_some]
    rw [copy_step hn]) (ev_succ (by
    simp only [laws_toChangeS_L3, Int.lt_irrefl, decide_false, cond_false]
    exact ev_eq (ev_now _) (by simp)))
  simpa using this
theorem toTaf_eq (a0 : ByteArray) (a1 a2 a3 a4 a5 a6 : Int) (a7 a8 : ByteArray) (a9 : Int) (xs : List Ch) (hx : xs.length ≤ 1048576) : laws_toTaf a0 a1 a2 a3 a4 a5 a6 a7 a8 a9 xs = some (a0, a1, a2, a3, a4, a5, a6, a7, a8, a9, xs) := by
  simp only [laws_toTaf, toSpan_eq, toSky_eq, toChangeS_eq xs hx, Option.bind_some]
/-! ### the same -/
theorem eqSky_self (a0 a1 a2 : Int) (a3 a4 : ByteArray) (a5 : Int) : laws_eqSky a0 a1 a2 a3 a4 a5 a0 a1 a2 a3 a4 a5 = some true := by
  simp [laws_eqSky]
theorem eqSkyS_self (xs : List Sk) (hx : xs.length ≤ 1048576) : laws_eqSkyS xs xs = some true := by
  refine evF_eq ?_
  simp only [laws_eqSkyS_F, bne_self_eq_false, cond_false]
  exact ev_upto (l := fun k n => laws_eqSkyS_L4 k xs xs (n : Int)) (N := xs.length) (fun n hn k => by
    simp only [laws_eqSkyS_L4, show (n : Int) < (xs.length : Int) by omega, show (0 : Int) ≤ (n : Int) by omega, decide_true, cond_true, rd_nat (k := K6_1) hn, wsucc (show n < 9223372036854775807 by omega), eqSky_self, Option.bind_some, Bool.not_true, cond_false]) (ev_succ (by
    simp only [laws_eqSkyS_L4, Int.lt_irrefl, decide_false, cond_false]
    exact ev_now _))
theorem eqChange_self (c : Ch) : laws_eqChange c.1 c.2.1 c.2.2.1 c.2.2.2.1 c.2.2.2.2.1 c.2.2.2.2.2.1 c.2.2.2.2.2.2.1 c.2.2.2.2.2.2.2.1 c.2.2.2.2.2.2.2.2 c.1 c.2.1 c.2.2.1 c.2.2.2.1 c.2.2.2.2.1 c.2.2.2.2.2.1 c.2.2.2.2.2.2.1 c.2.2.2.2.2.2.2.1 c.2.2.2.2.2.2.2.2 = some true := by
  simp [laws_eqChange, eqSky_self]
theorem eqChangeS_self (xs : List Ch) (hx : xs.length ≤ 1048576) : laws_eqChangeS xs xs = some true := by
  refine evF_eq ?_
  simp only [laws_eqChangeS_F, bne_self_eq_false, cond_false]
  exact ev_upto (l := fun k n => laws_eqChangeS_L4 k xs xs (n : Int)) (N := xs.length) (fun n hn k => by
    simp only [laws_eqChangeS_L4, show (n : Int) < (xs.length : Int) by omega, show (0 : Int) ≤ (n : Int) by omega, decide_true, cond_true, rd_nat (k := K9_0) hn, wsucc (show n < 9223372036854775807 by omega), eqChange_self, Option.bind_some, Bool.not_true, cond_false]) (ev_succ (by
    simp only [laws_eqChangeS_L4, Int.lt_irrefl, decide_false, cond_false]
    exact ev_now _))
theorem eqSpan_self (a b : Int) : laws_eqSpan a b a b = some true := by simp [laws_eqSpan]
theorem eqTaf_self (a0 : ByteArray) (a1 a2 a3 a4 a5 a6 : Int) (a7 a8 : ByteArray) (a9 : Int) (xs : List Ch) (hx : xs.length ≤ 1048576) : laws_eqTaf a0 a1 a2 a3 a4 a5 a6 a7 a8 a9 xs a0 a1 a2 a3 a4 a5 a6 a7 a8 a9 xs = some true := by
  simp [laws_eqTaf, eqSky_self, eqSpan_self, eqChangeS_self xs hx]
/-! ### marks -/
theorem markText_some (k : Int) (hk : k ≤ 1099511627776) : ∃ s, laws_markText k = some s := by
  by_cases h0 : k ≤ 0
  · exact ⟨_, evF_eq (by simp only [laws_markText_F, h0, decide_true, cond_true]; exact ev_now _)⟩
  have loop : ∀ (m : Nat) (k : Int) (s : ByteArray), k.toNat ≤ m → 0 ≤ k → k ≤ 1099511627776 → (s.size : Int) + k ≤ 2199023255552 → ∃ r, Ev (fun n => laws_markText_L4 n k s) r := by
    intro m
    induction m with
    | zero =>
      intro k s h1 h2 h3 h4
      refine ⟨bs [109] ++ s, ev_succ ?_⟩
      simp only [laws_markText_L4, show ¬ k > 0 by omega, decide_false, cond_false, size_bs, List.length_singleton, show 1 + s.size ≤ 9223372036854775807 by omega, decide_true, cond_true]
      exact ev_now _
    | succ m ih =>
      intro k s h1 h2 h3 h4
      by_cases h : k > 0
      · have hd : k.tdiv 10 = k / 10 := Int.tdiv_eq_ediv_of_nonneg h2
        have hb : ∀ x : Int, (bytesOf [x]).size = 1 := fun x => rfl
        obtain ⟨r, hr⟩ := ih (k / 10) (bytesOf [IntKind.u8.wrap (IntKind.i64.wrap (48 + k.tmod 10))] ++ s) (by omega) (by omega) (by omega) (by rw [ByteArray.size_append, hb]; omega)
        refine ⟨r, ev_succ ?_⟩
        simp only [laws_markText_L4, h, decide_true, cond_true, hb, show 1 + s.size ≤ 9223372036854775807 by omega, hd, w64 (n := k / 10) (by omega) (by omega)]
        exact hr
      · refine ⟨bs [109] ++ s, ev_succ ?_⟩
        simp only [laws_markText_L4, h, decide_false, cond_false, size_bs, List.length_singleton, show 1 + s.size ≤ 9223372036854775807 by omega, decide_true, cond_true]
        exact ev_now _
  obtain ⟨r, hr⟩ := loop k.toNat k (bs []) (Nat.le_refl _) (by omega) hk (by simp [size_bs]; omega)
  exact ⟨r, evF_eq (by simp only [laws_markText_F, h0, decide_false, cond_false]; exact hr)⟩
noncomputable def mkT (k : Int) : ByteArray := (laws_markText k).getD (bs [])
theorem markText_eq {k : Int} (hk : k ≤ 1099511627776) : laws_markText k = some (mkT k) := by
  obtain ⟨s, h⟩ := markText_some k hk
  simp [mkT, h]
noncomputable def tupS (k : Int) : Sk := (k, k + 1, k + 2, mkT (k + 3), mkT (k + 4), k + 5)
theorem pS0 (x : Sk) (v : Int) : putK K6_1 0 [.int .i64 v] x = some (v, x.2) := rfl
theorem pS1 (x : Sk) (v : Int) : putK K6_1 1 [.int .i64 v] x = some (x.1, v, x.2.2) := rfl
theorem pS2 (x : Sk) (v : Int) : putK K6_1 2 [.int .i64 v] x = some (x.1, x.2.1, v, x.2.2.2) := rfl
theorem pS3 (x : Sk) (v : ByteArray) : putK K6_1 3 [.str v] x = some (x.1, x.2.1, x.2.2.1, v, x.2.2.2.2) := rfl
theorem pS4 (x : Sk) (v : ByteArray) : putK K6_1 4 [.str v] x = some (x.1, x.2.1, x.2.2.1, x.2.2.2.1, v, x.2.2.2.2.2) := rfl
theorem pS5 (x : Sk) (v : Int) : putK K6_1 5 [.int .i64 v] x = some (x.1, x.2.1, x.2.2.1, x.2.2.2.1, x.2.2.2.2.1, v) := rfl
theorem markSky_step (k' : Nat) (k : Int) (n : Nat) (xs : List Sk) (hn : n < xs.length) (hx : xs.length ≤ 1048576) (hk : 0 ≤ k ∧ k ≤ 1000000000) :
    laws_markSkyS_L2 (k' + 1) k (n : Int) xs = laws_markSkyS_L2 k' (k + 6) ((n + 1 : Nat) : Int) (xs.set n (tupS k)) := by
  have e1 : k + 1 + 1 = k + 2 := by omega
  have e2 : k + 2 + 1 = k + 3 := by omega
  have e3 : k + 3 + 1 = k + 4 := by omega
  have e4 : k + 4 + 1 = k + 5 := by omega
  have e5 : k + 5 + 1 = k + 6 := by omega
  simp (disch := omega) only [laws_markSkyS_L2, w64, e1, e2, e3, e4, e5, markText_eq, Option.bind_some]
  simp only [show (n : Int) < (xs.length : Int) by omega, show (0 : Int) ≤ (n : Int) by omega, decide_true, cond_true]
  have hS : ∀ (o : Nat) (cs : List Cell) (ys : List Sk) (h : n < ys.length), setO K6_1 o cs ys (n : Int) = (putK K6_1 o cs ys[n]).map fun y => ys.set n y := fun o cs ys h => setO_put h
  simp only [hS, hn, List.length_set, pS0, pS1, pS2, pS3, pS4, pS5, Option.map_some, Option.bind_some, List.getElem_set_self, List.set_set, show (n : Int) < (xs.length : Int) by omega, decide_true, cond_true]
  have e6 : IntKind.i64.wrap ((n : Int) + 1) = ((n + 1 : Nat) : Int) := wsucc (by omega)
  first | rw [e6] | skip
  rfl
end Go.Proofs.YtmcmkdiefpepnaaDoor.SA
