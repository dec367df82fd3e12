/-
  Part of a proof by the engine: texts that a program of ours printed, or plain lemmas on them. No condition but what each theorem says.
-/
import Derived.Test.YtgkejafaggaocaaES
import Derived.Test.YtgkejafaggaocaaENPlain
set_option linter.unusedVariables false
set_option linter.unusedSimpArgs false
namespace Go.Proofs.Ytgkejafaggaocaa.ES
open Go Go.Eng Go.TB Go.FT Go.Proofs.Ytgkejafaggaocaa.EX Go.Proofs.Ytgkejafaggaocaa.PO
open Go.Proofs.Ytgkejafaggaocaa.EN (Q encDev Words EI enc_keeps wholeV_le max8 rd_flt getD_mem elOk_iff elAt_some thr_nil thr_cons fits_rep fits_op fits_el op_range2 bne_err good0)
abbrev SpL := List (Bool × El)
abbrev SR := LE × List Nat × Bool × Int × Int × Int × Int × Int × SpL × List Int
def OutS (t : LE) (vs : List Nat) (y : SR) : Except Int (St Q) → Prop
  | .ok s => ∃ sp : SpL, sp.length ≤ s.1 ∧ y = (t, vs, false, (s.2.2.2.1 : Int), (s.1 : Int), s.2.1, s.2.2.1, 0, sp, s.2.2.2.2)
  | .error e => y.2.2.2.2.2.2.2.1 = e ∧ e ≠ 0
theorem max40 : 100000 ≤ maxBytes / 40 := by decide
theorem s1 {vs : List Nat} (W : Words vs) (hl : vs.length ≤ 2000000) {n : Nat} {q : Q} (hn : n < 5000) (h : EI vs n q) (t : LE) (c1 c2 c3 : Int) {sp : SpL} (hsp : sp.length ≤ n) :
    (∃ y q', (encDev vs).cnt q = .ok (y, q') ∧ spec_l7Walk_spot true 0 8 0 0 t vs false (q.1 : Int) c1 c2 c3 0 sp q.2 = some ((y : Int), t, vs, false, (q'.1 : Int), c1, c2, c3, 0, sp ++ [(true, 0, 8, 0, 0)], q'.2)) ∨
    (∃ c z, (encDev vs).cnt q = .error c ∧ c ≠ 0 ∧ spec_l7Walk_spot true 0 8 0 0 t vs false (q.1 : Int) c1 c2 c3 0 sp q.2 = some (0, z) ∧ z.2.2.2.2.2.2.2.1 = c) := by
  have hm' := max40
  obtain ⟨h1, h2, h3⟩ := h
  have e8 : IntKind.u64.wrap 8 = 8 := wu64 (by omega) (by omega)
  unfold spec_l7Walk_spot encDev
  simp only [beqI, cond_false]
  by_cases h0 : q.1 = vs.length
  · right
    simp only [h0, if_true, decide_true, cond_true]
    exact ⟨3, _, rfl, by decide, rfl, rfl⟩
  · have hlt : q.1 < vs.length := by omega
    simp only [h0, if_false, show ¬ ((q.1 : Int) = (vs.length : Int)) by omega, decide_false, cond_false, List.length_singleton, show sp.length + 1 ≤ maxBytes / 40 by omega, show (0 : Int) ≤ (q.1 : Int) by omega, show (q.1 : Int) < (vs.length : Int) by omega, decide_true, cond_true, rd_flt hlt, e8, show (0 : Int) ≤ 8 by omega]
    rcases whole_both (W _ (getD_mem hlt)) with ⟨m, m0, m1, _, m2⟩ | ⟨m1, _, a, _, m2⟩
    · left
      have hp : spec_l7Put (m : Int) 8 q.2 = some (q.2 ++ nbits (m : Int) 8) := put_eq (m : Int) 8 q.2 (by omega) (by omega)
      refine ⟨m, (q.1 + 1, q.2 ++ nbits (m : Int) 8), by simp only [m1], ?_⟩
      simp only [m2, Option.bind_some, Bool.not_true, cond_false, hp, wsucc (show q.1 < 9223372036854775807 by omega)]
    · right
      refine ⟨5, (t, vs, false, ((q.1 + 1 : Nat) : Int), c1, c2, c3, 5, sp ++ [(true, 0, 8, 0, 0)], q.2), by simp only [m1], by decide, ?_, rfl⟩
      simp only [m2, Option.bind_some, Bool.not_false, cond_true, wsucc (show q.1 < 9223372036854775807 by omega)]
theorem s2 {vs : List Nat} (hl : vs.length ≤ 2000000) {n : Nat} {q : Q} (hn : n < 5000) (h : EI vs n q) (t : LE) (c1 c2 c3 : Int) {sp : SpL} (hsp : sp.length ≤ n) {e : El} (he : elOk e = true) :
    (∃ q', (encDev vs).val e q = .ok q' ∧ ∃ y, spec_l7Walk_spot false e.1 e.2.1 e.2.2.1 e.2.2.2 t vs false (q.1 : Int) c1 c2 c3 0 sp q.2 = some (y, t, vs, false, (q'.1 : Int), c1, c2, c3, 0, sp ++ [(false, e.1, e.2.1, e.2.2.1, e.2.2.2)], q'.2)) ∨
    (∃ c z, (encDev vs).val e q = .error c ∧ c ≠ 0 ∧ spec_l7Walk_spot false e.1 e.2.1 e.2.2.1 e.2.2.2 t vs false (q.1 : Int) c1 c2 c3 0 sp q.2 = some (0, z) ∧ z.2.2.2.2.2.2.2.1 = c) := by
  have hm' := max40
  obtain ⟨h1, h2, h3⟩ := h
  obtain ⟨hww, hs⟩ := elOk_iff.1 he
  obtain ⟨w, hwe⟩ : ∃ w : Nat, e.2.1 = (w : Int) := ⟨e.2.1.toNat, by omega⟩
  have p1 := pow_small (w := w) (by omega)
  have p2 := Nat.two_pow_pos w
  have e8 : IntKind.u64.wrap (w : Int) = (w : Int) := wu64 (by omega) (by omega)
  have e9 : min w IntKind.i64.bits = w := by have : IntKind.i64.bits = 64 := rfl; omega
  unfold spec_l7Walk_spot encDev
  simp only [hwe, beqI, cond_false, Int.toNat_natCast]
  by_cases h0 : q.1 = vs.length
  · right
    simp only [h0, if_true, decide_true, cond_true]
    exact ⟨3, _, rfl, by decide, rfl, rfl⟩
  · have hlt : q.1 < vs.length := by omega
    simp only [h0, if_false, show ¬ ((q.1 : Int) = (vs.length : Int)) by omega, decide_false, cond_false, List.length_singleton, show sp.length + 1 ≤ maxBytes / 40 by omega, show (0 : Int) ≤ (q.1 : Int) by omega, show (q.1 : Int) < (vs.length : Int) by omega, decide_true, cond_true, rd_flt hlt, e8, show (0 : Int) ≤ (w : Int) by omega, Int.toNat_natCast, e9, one_mul_pow]
    have hput : ∀ m, spec_l7Put m (w : Int) q.2 = some (q.2 ++ nbits m w) := fun m => put_eq m w q.2 (by omega) (by omega)
    unfold numB
    cases hf : feq (vs.getD q.1 0) (vs.getD q.1 0) with
    | false =>
      left
      refine ⟨(q.1 + 1, q.2 ++ nbits (((2 ^ w : Nat) : Int) - 1) w), rfl, ((2 ^ w : Nat) : Int) - 1, ?_⟩
      simp only [cond_false, w64 (n := ((2 ^ w : Nat) : Int)) (by omega) (by omega), w64 (n := ((2 ^ w : Nat) : Int) - 1) (by omega) (by omega), hput, Option.bind_some, wsucc (show q.1 < 9223372036854775807 by omega)]
    | true =>
      simp only [cond_true]
      rcases spec_num (w := w) (by omega) hs e.1 e.2.2.2 (vs.getD q.1 0) with ⟨m, m1, m2⟩ | ⟨m1, a, m2⟩
      · left
        refine ⟨(q.1 + 1, q.2 ++ nbits m w), by simp only [m1], m, ?_⟩
        simp only [m2, Option.bind_some, Bool.not_true, cond_false, hput, wsucc (show q.1 < 9223372036854775807 by omega)]
      · right
        refine ⟨5, (t, vs, false, ((q.1 + 1 : Nat) : Int), c1, c2, c3, 5, sp ++ [(false, e.1, (w : Int), e.2.2.1, e.2.2.2)], q.2), by simp only [m1], by decide, ?_, rfl⟩
        simp only [m2, Option.bind_some, Bool.not_false, cond_true, wsucc (show q.1 < 9223372036854775807 by omega)]
noncomputable abbrev RS := spec_l7Walk_run_R
noncomputable abbrev L1 := spec_l7Walk_run_L1
noncomputable abbrev L23 := spec_l7Walk_run_L23
def PartS (t : LE) (vs : List Nat) (M k : Nat) (part : List Int) : Prop :=
  ∀ (s : St Q) (sp : SpL), GoodS (EI vs) s → sp.length ≤ s.1 → ∃ y : SR, (∀ m, M ≤ m → RS m part t vs false (s.2.2.2.1 : Int) (s.1 : Int) s.2.1 s.2.2.1 0 sp s.2.2.2.2 = some y) ∧ OutS t vs y (thr (encDev vs) t k part s)
def RestS (t : LE) (vs : List Nat) (M k : Nat) (plan : List Int) (i : Nat) : Prop :=
  ∀ (s : St Q) (sp : SpL), GoodS (EI vs) s → sp.length ≤ s.1 → ∃ y : SR, (∀ m, M ≤ m → Ev (fun z => spec_l7Walk_run_L1 (RS m) z plan (i : Int) t vs false (s.2.2.2.1 : Int) (s.1 : Int) s.2.1 s.2.2.1 0 sp s.2.2.2.2) y) ∧ OutS t vs y (thr (encDev vs) t k (plan.drop i) s)
/-- Behind a fault nothing more is done. -/
theorem err_L1 (rc : List Int → LE → List Nat → Bool → Int → Int → Int → Int → Int → SpL → List Int → Option SR) (plan : List Int) (i : Int) (y : SR) (h : y.2.2.2.2.2.2.2.1 ≠ 0) :
    Ev (fun z => spec_l7Walk_run_L1 rc z plan i y.1 y.2.1 y.2.2.1 y.2.2.2.1 y.2.2.2.2.1 y.2.2.2.2.2.1 y.2.2.2.2.2.2.1 y.2.2.2.2.2.2.2.1 y.2.2.2.2.2.2.2.2.1 y.2.2.2.2.2.2.2.2.2) y := by
  apply ev_succ
  have hb : (y.2.2.2.2.2.2.2.1 == 0) = false := by rw [beqI]; exact decide_eq_false h
  simp only [spec_l7Walk_run_L1, hb, cond_false]
  by_cases hi : i < (plan.length : Int)
  · simp only [hi, decide_true, cond_true]; exact ev_now _
  · simp only [hi, decide_false, cond_false]; exact ev_now _
theorem err_L23 (rc : List Int → LE → List Nat → Bool → Int → Int → Int → Int → Int → SpL → List Int → Option SR) (plan : List Int) (i x c j : Int) (y : SR) (h : y.2.2.2.2.2.2.2.1 ≠ 0) :
    Ev (fun z => spec_l7Walk_run_L23 rc z plan i x c j y.1 y.2.1 y.2.2.1 y.2.2.2.1 y.2.2.2.2.1 y.2.2.2.2.2.1 y.2.2.2.2.2.2.1 y.2.2.2.2.2.2.2.1 y.2.2.2.2.2.2.2.2.1 y.2.2.2.2.2.2.2.2.2) y := by
  apply ev_succ
  have hb : (y.2.2.2.2.2.2.2.1 == 0) = false := by rw [beqI]; exact decide_eq_false h
  simp only [spec_l7Walk_run_L23, hb, cond_false]
  by_cases hi : j < c
  · simp only [hi, decide_true, cond_true]; exact err_L1 rc plan _ y h
  · simp only [hi, decide_false, cond_false]; exact err_L1 rc plan _ y h
theorem rep_loopS {t : LE} {vs : List Nat} {plan : List Int} {M k i x : Nat} (hi : i + 1 + x ≤ plan.length) (hx : x ≤ 99) (hl : plan.length ≤ 1000) (hP : PartS t vs M k ((plan.drop (i + 1)).take x)) (hR : RestS t vs M k plan (i + 1 + x)) (c : Nat) (hc : c ≤ 1000) :
    ∀ (y j : Nat) (s : St Q) (sp : SpL), j + y = c → GoodS (EI vs) s → sp.length ≤ s.1 → ∃ r : SR, (∀ m, M ≤ m → Ev (fun z => spec_l7Walk_run_L23 (RS m) z plan (i : Int) (x : Int) (c : Int) (j : Int) t vs false (s.2.2.2.1 : Int) (s.1 : Int) s.2.1 s.2.2.1 0 sp s.2.2.2.2) r) ∧
      OutS t vs r ((rep (thr (encDev vs) t k ((plan.drop (i + 1)).take x)) y s).bind fun s => thr (encDev vs) t k (plan.drop (i + 1 + x)) s) := by
  have P := part_of (plan := plan) (i := i) (x := x) (by omega) hx
  intro y
  induction y with
  | zero =>
    intro j s sp hj hg hsp
    obtain ⟨r, h1, h2⟩ := hR s sp hg hsp
    refine ⟨r, fun m hm => ?_, h2⟩
    apply ev_succ
    simp only [spec_l7Walk_run_L23, show ¬ ((j : Int) < (c : Int)) by omega, decide_false, cond_false, P.c, P.d]
    exact h1 m hm
  | succ y ih =>
    intro j s sp hj hg hsp
    obtain ⟨r, h1, h2⟩ := hP s sp hg hsp
    have step : ∀ (m : Nat) (r' : SR), M ≤ m → Ev (fun z => spec_l7Walk_run_L23 (RS m) z plan (i : Int) (x : Int) (c : Int) ((j + 1 : Nat) : Int) r.1 r.2.1 r.2.2.1 r.2.2.2.1 r.2.2.2.2.1 r.2.2.2.2.2.1 r.2.2.2.2.2.2.1 r.2.2.2.2.2.2.2.1 r.2.2.2.2.2.2.2.2.1 r.2.2.2.2.2.2.2.2.2) r' →
        Ev (fun z => spec_l7Walk_run_L23 (RS m) z plan (i : Int) (x : Int) (c : Int) (j : Int) t vs false (s.2.2.2.1 : Int) (s.1 : Int) s.2.1 s.2.2.1 0 sp s.2.2.2.2) r' := fun m r' hm hv => by
      apply ev_succ
      simp only [spec_l7Walk_run_L23, show (j : Int) < (c : Int) by omega, decide_true, cond_true, beq_self_eq_true, P.a, P.b, show (0 : Int) ≤ ((i + 1 + x : Nat) : Int) by omega, show ((i + 1 + x : Nat) : Int) ≤ (plan.length : Int) by omega, show (0 : Int) ≤ ((i + 1 : Nat) : Int) by omega,
        show ((i + 1 : Nat) : Int) ≤ ((i + 1 + x : Nat) : Int) by omega, Bool.and_self, Int.toNat_natCast, part_eq, h1 m hm, Option.bind_some, wsucc (show j < 9223372036854775807 by omega)]
      exact hv
    cases hq : thr (encDev vs) t k ((plan.drop (i + 1)).take x) s with
    | error e =>
      rw [hq] at h2
      obtain ⟨a, b'⟩ : r.2.2.2.2.2.2.2.1 = e ∧ e ≠ 0 := h2
      refine ⟨r, fun m hm => step m r hm (err_L23 _ plan _ _ _ _ r (by rw [a]; exact b')), ?_⟩
      unfold rep
      rw [hq]
      exact ⟨a, b'⟩
    | ok s' =>
      rw [hq] at h2
      obtain ⟨sp', hsp', rfl⟩ := h2
      have hg' := thr_keeps (enc_keeps vs) t k _ s s' hg hq
      obtain ⟨r', h3, h4⟩ := ih (j + 1) s' sp' (by omega) hg' hsp'
      refine ⟨r', fun m hm => step m r' hm (h3 m hm), ?_⟩
      unfold rep
      rw [hq]
      exact h4
end Go.Proofs.Ytgkejafaggaocaa.ES

namespace Go.Proofs.Ytgkejafaggaocaa.ES
open Go Go.Eng Go.TB Go.FT Go.Proofs.Ytgkejafaggaocaa.EX Go.Proofs.Ytgkejafaggaocaa.PO
open Go.Proofs.Ytgkejafaggaocaa.EN (Q encDev Words EI enc_keeps wholeV_le max8 rd_flt getD_mem elOk_iff elAt_some thr_nil thr_cons fits_rep fits_op fits_el op_range2 bne_err good0)
theorem run_loop {t : LE} {vs : List Nat} (hT : t.length ≤ 200 ∧ ∀ e ∈ t, EOk e) (W : Words vs) (hl : vs.length ≤ 2000000) {plan : List Int} (hp : plan.length ≤ 100)
    (hrc : ∀ part : List Int, part.length < plan.length → ∀ k, part.length ≤ k → fits t k part = true → PartS t vs plan.length k part) :
    ∀ k i : Nat, plan.length - i ≤ k → i ≤ plan.length → fits t k (plan.drop i) = true → RestS t vs plan.length k plan i := by
  have fin : ∀ (k i : Nat), ¬ i < plan.length → RestS t vs plan.length k plan i := fun k i hi s sp hg hsp => by
    have : plan.drop i = [] := List.drop_eq_nil_of_le (by omega)
    refine ⟨_, fun m hm => ?_, by rw [this, thr_nil]; exact ⟨sp, hsp, rfl⟩⟩
    apply ev_succ
    simp only [spec_l7Walk_run_L1, show ¬ ((i : Int) < (plan.length : Int)) by omega, decide_false, cond_false]
    exact ev_now _
  intro k
  induction k with
  | zero => exact fun i h1 h2 _ => fin 0 i (by omega)
  | succ k ih =>
    intro i h1 h2 hF
    by_cases hi : i < plan.length
    rotate_left
    · exact fin _ i hi
    intro s sp hg hsp
    obtain ⟨g1, g2, g3, g4⟩ := hg
    have e1 : rd (.int .i64) plan (i : Int) = plan[i] := rd_nat hi
    rw [List.drop_eq_getElem_cons hi] at hF ⊢
    generalize hd : plan[i] = d at e1 hF
    have e2 : IntKind.i64.wrap ((s.1 : Int) + 1) = ((s.1 + 1 : Nat) : Int) := by rw [w64 (by omega) (by omega)]; omega
    rw [thr_cons]
    by_cases hn : 5000 < s.1 + 1
    · refine ⟨(t, vs, false, (s.2.2.2.1 : Int), ((s.1 + 1 : Nat) : Int), s.2.1, s.2.2.1, 2, sp, s.2.2.2.2), fun m hm => ?_, ?_⟩
      · apply ev_succ
        simp only [spec_l7Walk_run_L1, show (i : Int) < (plan.length : Int) by omega, show (0 : Int) ≤ (i : Int) by omega, beq_self_eq_true, decide_true, cond_true, e2, show (((s.1 + 1 : Nat) : Int) > 5000) by omega]
        exact ev_now _
      · rw [if_pos hn]; exact ⟨rfl, by decide⟩
    rw [if_neg hn]
    cases hR : isRep d with
    | true =>
      rw [if_pos rfl]
      have hr := rep_range.1 hR
      obtain ⟨f1, f2, f3, f4⟩ := fits_rep hF hR
      have hx := x_range hR
      rw [List.length_drop] at f2
      have hlen : ((plan.drop (i + 1)).take (xOf d)).length = xOf d := by rw [List.length_take, List.length_drop]; omega
      have hP := hrc _ (by rw [hlen]; omega) k (by rw [hlen]; omega) f3
      have hRest := ih (i + 1 + xOf d) (by omega) (by omega) (by rw [← List.drop_drop]; exact f4)
      have a1 : IntKind.i64.wrap (d - 100000) = d - 100000 := w64 (by omega) (by omega)
      have a2 : IntKind.i64.wrap ((d - 100000).tdiv 1000) = (xOf d : Int) := by
        have : (d - 100000).tdiv 1000 = (xOf d : Int) := by unfold xOf; rw [Int.tdiv_eq_ediv_of_nonneg (by omega)]; omega
        rw [this, w64 (by omega) (by omega)]
      have a3 : d.tmod 1000 = ((yOf d : Nat) : Int) := by unfold yOf; rw [Int.tmod_eq_emod_of_nonneg (by omega)]; omega
      rw [List.drop_drop]
      by_cases hy : yOf d = 0
      · rw [if_pos hy]
        rcases s1 W hl (show s.1 < 5000 by omega) g4 t ((s.1 + 1 : Nat) : Int) s.2.1 s.2.2.1 hsp with ⟨y, q', c1, c2⟩ | ⟨c, z, c1, c0, c2, c3⟩
        · rw [c1]
          obtain ⟨kp, ky⟩ := (enc_keeps vs).cnt (show s.1 < 5000 by omega) g4 c1
          obtain ⟨r, r1, r2⟩ := rep_loopS (by omega) hx.2 (by omega) hP hRest y (by omega) y 0 (s.1 + 1, s.2.1, s.2.2.1, q') (sp ++ [(true, 0, 8, 0, 0)]) (by omega) ⟨by simp only; omega, g2, g3, kp⟩ (by simp only [List.length_append, List.length_singleton]; omega)
          refine ⟨r, fun m hm => ?_, r2⟩
          have q := r1 m hm
          simp only at q
          apply ev_succ
          simp only [spec_l7Walk_run_L1, show (i : Int) < (plan.length : Int) by omega, show (0 : Int) ≤ (i : Int) by omega, beq_self_eq_true, decide_true, cond_true, e1, e2, show ¬ (((s.1 + 1 : Nat) : Int) > 5000) by omega, decide_false, cond_false, show ¬ d < 100000 by omega, show d < 200000 by omega,
            a1, a2, a3, hy, Int.natCast_zero, c2, Option.bind_some]
          exact q
        · rw [c1]
          refine ⟨z, fun m hm => ?_, ⟨c3, c0⟩⟩
          apply ev_succ
          simp only [spec_l7Walk_run_L1, show (i : Int) < (plan.length : Int) by omega, show (0 : Int) ≤ (i : Int) by omega, beq_self_eq_true, decide_true, cond_true, e1, e2, show ¬ (((s.1 + 1 : Nat) : Int) > 5000) by omega, decide_false, cond_false, show ¬ d < 100000 by omega, show d < 200000 by omega,
            a1, a2, a3, hy, Int.natCast_zero, c2, Option.bind_some]
          exact err_L23 (RS m) plan _ _ _ _ z (by rw [c3]; exact c0)
      · rw [if_neg hy]
        obtain ⟨r, r1, r2⟩ := rep_loopS (by omega) hx.2 (by omega) hP hRest (yOf d) (by omega) (yOf d) 0 (s.1 + 1, s.2.1, s.2.2.1, s.2.2.2) sp (by omega) ⟨by simp only; omega, g2, g3, (enc_keeps vs).next g4⟩ (by simp only; omega)
        refine ⟨r, fun m hm => ?_, r2⟩
        have q := r1 m hm
        simp only at q
        apply ev_succ
        simp only [spec_l7Walk_run_L1, show (i : Int) < (plan.length : Int) by omega, show (0 : Int) ≤ (i : Int) by omega, beqI, decide_true, cond_true, e1, e2, show ¬ (((s.1 + 1 : Nat) : Int) > 5000) by omega, decide_false, cond_false, show ¬ d < 100000 by omega, show d < 200000 by omega,
          a1, a2, a3, show ¬ ((yOf d : Nat) : Int) = 0 by omega]
        exact q
    | false =>
      rw [if_neg Bool.false_ne_true]
      have nx := fun f => ih (i + 1) (by omega) (by omega) f
      cases hO : isOp d with
      | true =>
        rw [if_pos rfl]
        have hr := op_range2 hO
        have hs := shf_range hO
        have nx := nx (fits_op hF hR hO)
        have a3 : d.tmod 1000 = d % 1000 := Int.tmod_eq_emod_of_nonneg (by omega)
        have a4 : IntKind.i64.wrap (d % 1000 - 128) = d % 1000 - 128 := w64 (by omega) (by omega)
        rcases hr with hr | hr
        · rw [if_pos (show d < 202000 by omega)]
          obtain ⟨r, r1, r2⟩ := nx (s.1 + 1, shf d, s.2.2.1, s.2.2.2) sp ⟨by simp only; omega, hs, g3, (enc_keeps vs).next g4⟩ (by simp only; omega)
          refine ⟨r, fun m hm => ?_, r2⟩
          have q := r1 m hm
          simp only at q
          apply ev_succ
          simp only [spec_l7Walk_run_L1, show (i : Int) < (plan.length : Int) by omega, show (0 : Int) ≤ (i : Int) by omega, beqI, decide_true, cond_true, e1, e2, show ¬ (((s.1 + 1 : Nat) : Int) > 5000) by omega, decide_false, cond_false, show ¬ d < 100000 by omega, show ¬ d < 200000 by omega, show d < 202000 by omega,
            a3, a4, wsucc (show i < 9223372036854775807 by omega)]
          unfold shf at q
          by_cases h0 : d % 1000 = 0
          · rw [if_pos h0] at q
            simp only [h0, decide_true, cond_true]
            exact q
          · rw [if_neg h0] at q
            simp only [h0, decide_false, cond_false]
            exact q
        · rw [if_neg (show ¬ d < 202000 by omega)]
          obtain ⟨r, r1, r2⟩ := nx (s.1 + 1, s.2.1, shf d, s.2.2.2) sp ⟨by simp only; omega, g2, hs, (enc_keeps vs).next g4⟩ (by simp only; omega)
          refine ⟨r, fun m hm => ?_, r2⟩
          have q := r1 m hm
          simp only at q
          apply ev_succ
          simp only [spec_l7Walk_run_L1, show (i : Int) < (plan.length : Int) by omega, show (0 : Int) ≤ (i : Int) by omega, beqI, decide_true, cond_true, e1, e2, show ¬ (((s.1 + 1 : Nat) : Int) > 5000) by omega, decide_false, cond_false, show ¬ d < 100000 by omega, show ¬ d < 200000 by omega, show ¬ d < 202000 by omega,
            a3, a4, wsucc (show i < 9223372036854775807 by omega)]
          unfold shf at q
          by_cases h0 : d % 1000 = 0
          · rw [if_pos h0] at q
            simp only [h0, decide_true, cond_true]
            exact q
          · rw [if_neg h0] at q
            simp only [h0, decide_false, cond_false]
            exact q
      | false =>
        rw [if_neg Bool.false_ne_true]
        obtain ⟨⟨e, he⟩, l1, l2, l3⟩ := fits_el hF hR hO
        have nx := nx l3
        obtain ⟨o1, o2, o3, o4⟩ := hT.2 e (look_mem he)
        rw [elAt_some he]
        have b1 : IntKind.i64.wrap (e.2.1 + s.2.1) = e.2.1 + s.2.1 := w64 (by omega) (by omega)
        have b2 : IntKind.i64.wrap (e.2.2.1 + s.2.2.1) = e.2.2.1 + s.2.2.1 := w64 (by omega) (by omega)
        have hel : elOk (e.1, e.2.1 + s.2.1, e.2.2.1 + s.2.2.1, e.2.2.2) = (inB (e.2.1 + s.2.1) 1 32 && inB (e.2.2.1 + s.2.2.1) (-10) 10) := rfl
        have hlk : spec_l7Elem t d = some (e.1, e.2.1, e.2.2.1, e.2.2.2, true) := by rw [spec_el (by omega), he]; rfl
        cases hE : elOk (e.1, e.2.1 + s.2.1, e.2.2.1 + s.2.2.1, e.2.2.2) with
        | true =>
          rw [if_pos rfl]
          have hE' := hE
          rw [hel, Bool.and_eq_true] at hE'
          rcases s2 hl (show s.1 < 5000 by omega) g4 t ((s.1 + 1 : Nat) : Int) s.2.1 s.2.2.1 hsp hE with ⟨q', c1, y, c2⟩ | ⟨c, z, c1, c0, c2, c3⟩
          · rw [c1]
            have kp := (enc_keeps vs).val (show s.1 < 5000 by omega) g4 hE c1
            obtain ⟨r, r1, r2⟩ := nx (s.1 + 1, s.2.1, s.2.2.1, q') (sp ++ [(false, e.1, e.2.1 + s.2.1, e.2.2.1 + s.2.2.1, e.2.2.2)]) ⟨by simp only; omega, g2, g3, kp⟩ (by simp only [List.length_append, List.length_singleton]; omega)
            refine ⟨r, fun m hm => ?_, r2⟩
            simp only at c2
            have q := r1 m hm
            simp only at q
            apply ev_succ
            simp only [spec_l7Walk_run_L1, show (i : Int) < (plan.length : Int) by omega, show (0 : Int) ≤ (i : Int) by omega, beq_self_eq_true, decide_true, cond_true, e1, e2, show ¬ (((s.1 + 1 : Nat) : Int) > 5000) by omega, decide_false, cond_false, show d < 100000 by omega,
              hlk, b1, b2, l2In_eq, hE'.1, hE'.2, Option.bind_some, Bool.not_true, c2, wsucc (show i < 9223372036854775807 by omega)]
            exact q
          · rw [c1]
            refine ⟨z, fun m hm => ?_, ⟨c3, c0⟩⟩
            simp only at c2
            apply ev_succ
            simp only [spec_l7Walk_run_L1, show (i : Int) < (plan.length : Int) by omega, show (0 : Int) ≤ (i : Int) by omega, beq_self_eq_true, decide_true, cond_true, e1, e2, show ¬ (((s.1 + 1 : Nat) : Int) > 5000) by omega, decide_false, cond_false, show d < 100000 by omega,
              hlk, b1, b2, l2In_eq, hE'.1, hE'.2, Option.bind_some, Bool.not_true, c2, wsucc (show i < 9223372036854775807 by omega)]
            exact err_L1 (RS m) plan _ z (by rw [c3]; exact c0)
        | false =>
          rw [if_neg Bool.false_ne_true]
          rw [hel] at hE
          refine ⟨(t, vs, false, (s.2.2.2.1 : Int), ((s.1 + 1 : Nat) : Int), s.2.1, s.2.2.1, 4, sp, s.2.2.2.2), fun m hm => ?_, ⟨rfl, by decide⟩⟩
          apply ev_succ
          simp only [spec_l7Walk_run_L1, show (i : Int) < (plan.length : Int) by omega, show (0 : Int) ≤ (i : Int) by omega, beq_self_eq_true, decide_true, cond_true, e1, e2, show ¬ (((s.1 + 1 : Nat) : Int) > 5000) by omega, decide_false, cond_false, show d < 100000 by omega,
            hlk, b1, b2, l2In_eq, Option.bind_some]
          cases hb1 : inB (e.2.1 + s.2.1) 1 32 with
          | false => exact ev_now _
          | true =>
            rw [hb1] at hE
            simp only [Bool.true_and] at hE
            rw [hE]
            exact ev_now _
theorem run_R {t : LE} {vs : List Nat} (hT : t.length ≤ 200 ∧ ∀ e ∈ t, EOk e) (W : Words vs) (hl : vs.length ≤ 2000000) : ∀ (n : Nat) (plan : List Int), plan.length ≤ n → plan.length ≤ 100 → ∀ k, plan.length ≤ k → fits t k plan = true → PartS t vs (plan.length + 1) k plan := by
  intro n
  induction n with
  | zero =>
    intro plan h0 hp k hk hF s sp hg hsp
    have h := run_loop hT W hl hp (fun part h1 => by omega) k 0 (by omega) (by omega) hF s sp hg hsp
    obtain ⟨y, h1, h2⟩ := h
    refine ⟨y, fun m hm => ?_, h2⟩
    obtain ⟨m', rfl⟩ : ∃ m', m = m' + 1 := ⟨m - 1, by omega⟩
    exact evF_eq (h1 m' (by omega))
  | succ n ih =>
    intro plan h0 hp k hk hF s sp hg hsp
    have h := run_loop hT W hl hp (fun part h1 k' h2 h3 s' sp' hg' hsp' => by
      obtain ⟨y, a, b⟩ := ih part (by omega) (by omega) k' h2 h3 s' sp' hg' hsp'
      exact ⟨y, fun m hm => a m (by omega), b⟩) k 0 (by omega) (by omega) hF s sp hg hsp
    obtain ⟨y, h1, h2⟩ := h
    refine ⟨y, fun m hm => ?_, h2⟩
    obtain ⟨m', rfl⟩ : ∃ m', m = m' + 1 := ⟨m - 1, by omega⟩
    exact evF_eq (h1 m' (by omega))
theorem run_eq {t : LE} {vs : List Nat} (hT : t.length ≤ 200 ∧ ∀ e ∈ t, EOk e) (W : Words vs) (hl : vs.length ≤ 2000000) {plan : List Int} (hp : plan.length ≤ 100) (hF : fits t plan.length plan = true) :
    ∃ y : SR, spec_l7Walk_run plan t vs false 0 0 0 0 0 [] [] = some y ∧ OutS t vs y (thr (encDev vs) t plan.length plan (0, 0, 0, (0, []))) := by
  obtain ⟨y, h1, h2⟩ := run_R hT W hl plan.length plan (by omega) hp plan.length (by omega) hF (0, 0, 0, (0, [])) [] (good0 vs) (by simp)
  exact ⟨y, evF_eq ⟨plan.length + 1, fun m hm => h1 m hm⟩, h2⟩
end Go.Proofs.Ytgkejafaggaocaa.ES
