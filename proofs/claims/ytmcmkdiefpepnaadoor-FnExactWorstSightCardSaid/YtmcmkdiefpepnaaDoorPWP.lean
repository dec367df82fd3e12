/-
  Part of a proof by the engine: texts that a program of ours printed, or plain lemmas on them. No condition but what each theorem says.
-/
import Derived.Test.YtmcmkdiefpepnaaDoorPAP2
set_option linter.unusedVariables false
set_option linter.unusedSimpArgs false
namespace Go.Proofs.YtmcmkdiefpepnaaDoor.PA.W
open Go Go.Eng Go.Proofs.YtmcmkdiefpepnaaDoor.SA Go.Proofs.YtmcmkdiefpepnaaDoor.EX Go.Proofs.YtmcmkdiefpepnaaDoor.PA
/-! ### sights -/
def inV (x : Int) : Prop := 0 ≤ x ∧ x ≤ 9999
theorem sky_v {d s v : Int} {w c : ByteArray} {b : Int} (h : skyV d s v w c b = true) : -1 ≤ v ∧ v ≤ 9999 := by
  simp only [skyV, Bool.and_eq_true, decide_eq_true_eq] at h
  exact h.2.1
theorem full_v {d s v : Int} {w c : ByteArray} {b : Int} (h : fullV d s v w c b = true) : inV v := by
  simp only [fullV, Bool.and_eq_true, decide_eq_true_eq] at h
  have := sky_v h.1
  exact ⟨by omega, this.2⟩
def ChV (c : Ch) : Prop := (-1 ≤ c.2.2.2.2.2.1 ∧ c.2.2.2.2.2.1 ≤ 9999) ∧ (c.1 = 1 → inV c.2.2.2.2.2.1)
theorem ch_v {vf vt : Int} {c : Ch} (h : chOk vf vt c = true) : ChV c := by
  simp only [chOk, Bool.and_eq_true] at h
  obtain ⟨hs, _, hk⟩ := h
  refine ⟨sky_v hs, fun h1 => ?_⟩
  unfold kindV at hk
  rw [if_pos h1] at hk
  simp only [Bool.and_eq_true] at hk
  exact full_v hk.2.2
theorem laid_v (s : Sk) (c : Ch) (hs : inV s.2.2.1) (hc : ChV c) : inV (laidV s c.2.2.2).2.2.1 := by
  obtain ⟨h1, h2⟩ := hc
  unfold laidV
  split
  · show inV (if c.2.2.2.2.2.1 ≠ -1 then c.2.2.2.2.2.1 else s.2.2.1)
    split
    · exact ⟨by omega, h1.2⟩
    · exact hs
  · exact ⟨by decide, by decide⟩
theorem step_v (t : Int) (s : Sk) (c : Ch) (hs : inV s.2.2.1) (hc : ChV c) : inV (stepS t s c).2.2.1 := by
  unfold stepS
  split
  · rename_i h; exact hc.2 h.1
  · split
    · exact laid_v s c hs hc
    · exact hs
theorem fold_v (t : Int) : ∀ (xs : List Ch) (s : Sk), inV s.2.2.1 → (∀ c ∈ xs, ChV c) → inV (xs.foldl (stepS t) s).2.2.1
  | [], s, hs, _ => hs
  | c :: cs, s, hs, h => fold_v t cs _ (step_v t s c hs (h c List.mem_cons_self)) fun d hd => h d (List.mem_cons_of_mem _ hd)
theorem may_v (t : Int) (s : Sk) (hs : inV s.2.2.1) : ∀ (xs : List Ch), (∀ c ∈ xs, ChV c) → ∀ x ∈ mayAt t s xs, inV x.2.2.1
  | [], _ => fun x hx => by simp [mayAt] at hx
  | c :: cs, h => fun x hx => by
    have ih := may_v t s hs cs fun d hd => h d (List.mem_cons_of_mem _ hd)
    simp only [mayAt] at hx
    split at hx
    · rcases List.mem_cons.1 hx with rfl | hx
      · exact laid_v s c hs (h c List.mem_cons_self)
      · exact ih x hx
    · exact ih x hx
theorem state_v (a0 : ByteArray) (a1 vf vt d s v : Int) (w c : ByteArray) (b : Int) (xs : List Ch) (t : Int) : inV (stateV a0 a1 vf vt d s v w c b xs t).2.2.1 ∧ ∀ x ∈ (stateV a0 a1 vf vt d s v w c b xs t).2.2.2.2.2.2.2, inV x.2.2.1 := by
  unfold stateV
  split
  · rename_i h
    have ht := h.1
    simp only [tafV, Bool.and_eq_true] at ht
    have hf := full_v ht.2.2.2.2.2.2.2.1
    have hall : ∀ c ∈ xs, ChV c := fun c hc => ch_v (chs_all xs _ _ ht.2.2.2.2.2.2.2.2.2 c hc)
    have h1 := fold_v t xs (d, s, v, w, c, b) hf hall
    exact ⟨h1, may_v t _ h1 xs hall⟩
  · exact ⟨⟨by decide, by decide⟩, fun x hx => by simp at hx⟩
/-! ### the least -/
def mi (w x : Int) : Int := if x < w then x else w
def mn (w : Int) (l : List Int) : Int := l.foldl mi w
def stp (w x : Int) : Int := if w < 0 then x else if x < w then x else w
theorem mi_comm (w x y : Int) : mi (mi w x) y = mi (mi w y) x := by unfold mi; repeat' split
                                                                    all_goals omega
theorem mn_end (s : Int) : ∀ (l : List Int) (w : Int), mn w (l ++ [s]) = mn (mi w s) l
  | [], w => rfl
  | x :: l, w => by
    show mn (mi w x) (l ++ [s]) = mn (mi (mi w s) x) l
    rw [mn_end s l, mi_comm]
def gv (w : Int) : Int := if w < 0 then 9999 else w
theorem gv_stp (w x : Int) (hx : inV x) : gv (stp w x) = mi (gv w) x ∧ 0 ≤ stp w x := by
  obtain ⟨h0, h1⟩ := hx
  unfold gv stp mi
  constructor
  · repeat' split
    all_goals omega
  · repeat' split
    all_goals omega
theorem gv_fold : ∀ (l : List Int) (w : Int), (∀ x ∈ l, inV x) → gv (l.foldl stp w) = mn (gv w) l ∧ (l ≠ [] ∨ 0 ≤ w → 0 ≤ l.foldl stp w)
  | [], w, _ => ⟨rfl, fun h => h.elim (fun h => absurd rfl h) id⟩
  | x :: l, w, h => by
    have h1 := gv_stp w x (h x List.mem_cons_self)
    have h2 := gv_fold l (stp w x) fun y hy => h y (List.mem_cons_of_mem _ hy)
    refine ⟨?_, fun _ => h2.2 (.inr h1.2)⟩
    show gv (l.foldl stp (stp w x)) = mn (mi (gv w) x) l
    rw [h2.1, h1.1]
abbrev vis (x : Sk) : Int := x.2.2.1
section
variable (st : Int → Res8)
def sp : Int → List (Int × Int) → Int
  | w, [] => w
  | w, p :: ps => sp (mn (mi w (st p.1).2.2.1) ((st p.1).2.2.2.2.2.2.2.map vis)) ps
def ip : Int → List (Int × Int) → Int
  | w, [] => w
  | w, p :: ps => ip (((st p.1).2.2.2.2.2.2.2.map vis ++ [(st p.1).2.2.1]).foldl stp w) ps
theorem ip_sp (hv : ∀ t, inV (st t).2.2.1 ∧ ∀ x ∈ (st t).2.2.2.2.2.2.2, inV x.2.2.1) : ∀ (ps : List (Int × Int)) (w : Int), gv (ip st w ps) = sp st (gv w) ps ∧ (ps ≠ [] ∨ 0 ≤ w → 0 ≤ ip st w ps)
  | [], w => ⟨rfl, fun h => h.elim (fun h => absurd rfl h) id⟩
  | p :: ps, w => by
    obtain ⟨h1, h2⟩ := hv p.1
    have h3 := gv_fold ((st p.1).2.2.2.2.2.2.2.map vis ++ [(st p.1).2.2.1]) w (fun x hx => by
      rcases List.mem_append.1 hx with hx | hx
      · obtain ⟨y, hy, rfl⟩ := List.mem_map.1 hx; exact h2 y hy
      · obtain rfl := List.mem_singleton.1 hx; exact h1)
    have h4 := ip_sp hv ps (((st p.1).2.2.2.2.2.2.2.map vis ++ [(st p.1).2.2.1]).foldl stp w)
    refine ⟨?_, fun _ => h4.2 (.inr (h3.2 (.inl (by simp))))⟩
    show gv (ip st _ ps) = sp st (mn (mi (gv w) _) _) ps
    rw [h4.1, h3.1, mn_end]
end
/-! ### the loops -/
theorem spec_inner (i : Int) (b0 : ByteArray) (b1 b2 b3 b4 b5 b6 : Int) (b7 b8 : ByteArray) (b9 : Int) (xs : List Ch) (P : List (Int × Int)) (may : List Sk) (hl : may.length ≤ 10) (r : Int) : ∀ (m n : Nat) (w : Int), may.length - n = m → n ≤ may.length →
    Ev (fun k => spec_WorstSight_L6 k (mn w ((may.drop n).map vis)) (IntKind.i64.wrap (i + 1)) b0 b1 b2 b3 b4 b5 b6 b7 b8 b9 xs P) r →
    Ev (fun k => spec_WorstSight_L11 k w i (n : Int) b0 b1 b2 b3 b4 b5 b6 b7 b8 b9 xs P may) r := by
  intro m
  induction m with
  | zero =>
    intro n w hm hn h
    obtain rfl : n = may.length := by omega
    rw [List.drop_length] at h
    apply ev_succ
    simp only [spec_WorstSight_L11, Int.lt_irrefl, decide_false, cond_false]
    exact h
  | succ m ih =>
    intro n w hm hn h
    have hlt : n < may.length := by omega
    rw [drop_cons hlt] at h
    apply ev_succ
    simp only [spec_WorstSight_L11, show (n : Int) < (may.length : Int) by omega, show (0 : Int) ≤ (n : Int) by omega, decide_true, cond_true, rd_nat (k := K6_1) hlt, wsucc (show n < 9223372036854775807 by omega)]
    exact ih (n + 1) _ (by omega) (by omega) h
theorem spec_outer (b0 : ByteArray) (b1 b2 b3 b4 b5 b6 : Int) (b7 b8 : ByteArray) (b9 : Int) (xs : List Ch) (P : List (Int × Int)) (hP : P.length ≤ 10000) : ∀ (m n : Nat) (w : Int), P.length - n = m → n ≤ P.length →
    Ev (fun k => spec_WorstSight_L6 k w (n : Int) b0 b1 b2 b3 b4 b5 b6 b7 b8 b9 xs P) (sp (stateV b0 b1 b2 b3 b4 b5 b6 b7 b8 b9 xs) w (P.drop n)) := by
  intro m
  induction m with
  | zero =>
    intro n w hm hn
    obtain rfl : n = P.length := by omega
    apply ev_succ
    simp only [spec_WorstSight_L6, Int.lt_irrefl, decide_false, cond_false]
    exact ev_eq (ev_now _) (by rw [List.drop_length]; rfl)
  | succ m ih =>
    intro n w hm hn
    have hlt : n < P.length := by omega
    rw [drop_cons hlt]
    have hs := state_list b0 b1 b2 b3 b4 b5 b6 b7 b8 b9 xs P[n].1
    apply ev_succ
    simp only [spec_WorstSight_L6, show (n : Int) < (P.length : Int) by omega, show (0 : Int) ≤ (n : Int) by omega, decide_true, cond_true, rd_nat (k := K2_PA2) hlt, spec_StateAt_eq, Option.bind_some]
    refine spec_inner (n : Int) b0 b1 b2 b3 b4 b5 b6 b7 b8 b9 xs P _ hs _ _ 0 _ rfl (by omega) ?_
    rw [wsucc (by omega), List.drop_zero]
    exact ih (n + 1) _ (by omega) (by omega)
theorem impl_inner (i ln : Int) (b0 : ByteArray) (b1 b2 b3 b4 b5 b6 : Int) (b7 b8 : ByteArray) (b9 : Int) (xs : List Ch) (P : List (Int × Int)) (may : List Sk) (hl : may.length ≤ 11) (r : Int) : ∀ (m n : Nat) (w : Int), may.length - n = m → n ≤ may.length →
    Ev (fun k => impl_WorstSight_L3 k (((may.drop n).map vis).foldl stp w) ln (IntKind.i64.wrap (i + 1)) b0 b1 b2 b3 b4 b5 b6 b7 b8 b9 xs P) r →
    Ev (fun k => impl_WorstSight_L7 k w ln i (may.length : Int) (n : Int) b0 b1 b2 b3 b4 b5 b6 b7 b8 b9 xs P may) r := by
  intro m
  induction m with
  | zero =>
    intro n w hm hn h
    obtain rfl : n = may.length := by omega
    rw [List.drop_length] at h
    apply ev_succ
    simp only [impl_WorstSight_L7, Int.lt_irrefl, decide_false, cond_false]
    exact h
  | succ m ih =>
    intro n w hm hn h
    have hlt : n < may.length := by omega
    rw [drop_cons hlt] at h
    apply ev_succ
    simp only [impl_WorstSight_L7, show (n : Int) < (may.length : Int) by omega, show (0 : Int) ≤ (n : Int) by omega, decide_true, cond_true, rd_nat (k := K6_1) hlt, wsucc (show n < 9223372036854775807 by omega)]
    have h' : Ev (fun k => impl_WorstSight_L3 k (((may.drop (n + 1)).map vis).foldl stp (stp w may[n].2.2.1)) ln (IntKind.i64.wrap (i + 1)) b0 b1 b2 b3 b4 b5 b6 b7 b8 b9 xs P) r := h
    by_cases h1 : w < 0
    · simp only [h1, decide_true, cond_true]
      rw [show stp w may[n].2.2.1 = may[n].2.2.1 by simp [stp, h1]] at h'
      exact ih (n + 1) _ (by omega) (by omega) h'
    · by_cases h2 : may[n].2.2.1 < w
      · simp only [h1, h2, decide_true, decide_false, cond_true, cond_false]
        rw [show stp w may[n].2.2.1 = may[n].2.2.1 by simp [stp, h1, h2]] at h'
        exact ih (n + 1) _ (by omega) (by omega) h'
      · simp only [h1, h2, decide_false, cond_false]
        rw [show stp w may[n].2.2.1 = w by simp [stp, h1, h2]] at h'
        exact ih (n + 1) _ (by omega) (by omega) h'
theorem impl_outer (b0 : ByteArray) (b1 b2 b3 b4 b5 b6 : Int) (b7 b8 : ByteArray) (b9 : Int) (xs : List Ch) (P : List (Int × Int)) (hP : P.length ≤ 10000) : ∀ (m n : Nat) (w : Int), P.length - n = m → n ≤ P.length →
    Ev (fun k => impl_WorstSight_L3 k w (P.length : Int) (n : Int) b0 b1 b2 b3 b4 b5 b6 b7 b8 b9 xs P) (ip (stateV b0 b1 b2 b3 b4 b5 b6 b7 b8 b9 xs) w (P.drop n)) := by
  intro m
  induction m with
  | zero =>
    intro n w hm hn
    obtain rfl : n = P.length := by omega
    apply ev_succ
    simp only [impl_WorstSight_L3, Int.lt_irrefl, decide_false, cond_false]
    exact ev_eq (ev_now _) (by rw [List.drop_length]; rfl)
  | succ m ih =>
    intro n w hm hn
    have hlt : n < P.length := by omega
    rw [drop_cons hlt]
    have hs := state_list b0 b1 b2 b3 b4 b5 b6 b7 b8 b9 xs P[n].1
    apply ev_succ
    simp only [impl_WorstSight_L3, show (n : Int) < (P.length : Int) by omega, show (0 : Int) ≤ (n : Int) by omega, decide_true, cond_true, rd_nat (k := K2_PA2) hlt, impl_StateAt_eq, Option.bind_some, mb64, List.length_singleton]
    show Ev _ (ip (stateV b0 b1 b2 b3 b4 b5 b6 b7 b8 b9 xs) (((stateV b0 b1 b2 b3 b4 b5 b6 b7 b8 b9 xs P[n].1).2.2.2.2.2.2.2.map vis ++ [(stateV b0 b1 b2 b3 b4 b5 b6 b7 b8 b9 xs P[n].1).2.2.1]).foldl stp w) (P.drop (n + 1)))
    have hq := ih (n + 1) (((stateV b0 b1 b2 b3 b4 b5 b6 b7 b8 b9 xs P[n].1).2.2.2.2.2.2.2.map vis ++ [(stateV b0 b1 b2 b3 b4 b5 b6 b7 b8 b9 xs P[n].1).2.2.1]).foldl stp w) (by omega) (by omega)
    generalize stateV b0 b1 b2 b3 b4 b5 b6 b7 b8 b9 xs P[n].1 = q at hs hq ⊢
    simp only [show q.2.2.2.2.2.2.2.length + 1 ≤ 2199023255552 by omega, decide_true, cond_true]
    refine impl_inner (n : Int) (P.length : Int) b0 b1 b2 b3 b4 b5 b6 b7 b8 b9 xs P _ (by rw [List.length_append]; simp; omega) _ _ 0 w rfl (by omega) ?_
    rw [wsucc (by omega), List.drop_zero, List.map_append]
    exact hq
theorem worst_eq (a0 : ByteArray) (a1 vf vt d s v : Int) (w c : ByteArray) (b : Int) (xs : List Ch) : ∃ x, spec_WorstSight a0 a1 vf vt d s v w c b xs = some x ∧ impl_WorstSight a0 a1 vf vt d s v w c b xs = some x := by
  have hp := parts_len a0 a1 vf vt d s v w c b xs
  have hi : impl_WorstSight a0 a1 vf vt d s v w c b xs = some (ip (stateV a0 a1 vf vt d s v w c b xs) (-1) (partsV a0 a1 vf vt d s v w c b xs)) := by
    refine evF_eq ?_
    simp only [impl_WorstSight_F, impl_Parts_eq, Option.bind_some]
    exact impl_outer a0 a1 vf vt d s v w c b xs _ (by omega) _ 0 (-1) rfl (by omega)
  cases h : tafV a0 a1 vf vt d s v w c b xs with
  | false =>
    refine ⟨-1, evF_eq ?_, ?_⟩
    · simp only [spec_WorstSight_F, spec_TafOk_eq, h, Option.bind_some, Bool.not_false, cond_true]
      exact ev_now _
    · rw [hi]; simp [partsV, h, ip]
  | true =>
    have hne : partsV a0 a1 vf vt d s v w c b xs ≠ [] := by
      have hu := (taf_p h).u
      unfold partsV
      rw [if_pos h]
      intro hc
      have h1 := congrArg List.length hc
      rw [spans_len] at h1
      have h2 : vt ∈ el (ends vt xs) (vt - vf).toNat (vf + 1) := (mem_el _ _ _ _).2 ⟨by omega, by omega, by simp [ends]⟩
      rw [List.eq_nil_of_length_eq_zero h1] at h2
      simp at h2
    obtain ⟨e1, e2⟩ := ip_sp (stateV a0 a1 vf vt d s v w c b xs) (state_v a0 a1 vf vt d s v w c b xs) (partsV a0 a1 vf vt d s v w c b xs) (-1)
    have e3 := e2 (.inl hne)
    refine ⟨ip (stateV a0 a1 vf vt d s v w c b xs) (-1) (partsV a0 a1 vf vt d s v w c b xs), evF_eq ?_, hi⟩
    simp only [spec_WorstSight_F, spec_TafOk_eq, h, Option.bind_some, Bool.not_true, cond_false, spec_Parts_eq]
    refine ev_eq (spec_outer a0 a1 vf vt d s v w c b xs _ (by omega) _ 0 9999 rfl (by omega)) ?_
    rw [List.drop_zero]
    have : sp (stateV a0 a1 vf vt d s v w c b xs) (gv (-1)) (partsV a0 a1 vf vt d s v w c b xs) = _ := e1.symm
    rw [show (9999 : Int) = gv (-1) from rfl, this]
    unfold gv
    rw [if_neg (by omega)]
theorem law (a0 : ByteArray) (a1 a2 a3 a4 a5 a6 : Int) (a7 a8 : ByteArray) (a9 : Int) (xs : List Ch) (h0 : a0.size ≤ 9223372036854775807) (h7 : a7.size ≤ 9223372036854775807) (h8 : a8.size ≤ 9223372036854775807)
    (hx : xs.length ≤ 9223372036854775807) (hw : ∀ c ∈ xs, wfCh c) : laws_FnExactWorstSight a0 a1 a2 a3 a4 a5 a6 a7 a8 a9 xs = some true := by
  obtain ⟨v, hv, hv2⟩ := szTaf_eq a0 a1 a2 a3 a4 a5 a6 a7 a8 a9 xs h0 h7 h8 hx hw
  unfold laws_FnExactWorstSight
  rw [hv, Option.bind_some]
  by_cases hneg : v < 0
  · simp only [hneg, decide_true, cond_true]
  have hxl := hv2 (by omega)
  obtain ⟨x, e1, e2⟩ := worst_eq a0 a1 a2 a3 a4 a5 a6 a7 a8 a9 xs
  simp only [hneg, decide_false, cond_false, toTaf_eq a0 a1 a2 a3 a4 a5 a6 a7 a8 a9 xs hxl, Option.bind_some, e1, e2, eqTaf_self a0 a1 a2 a3 a4 a5 a6 a7 a8 a9 xs hxl, Bool.not_true, bne_self_eq_false]
end Go.Proofs.YtmcmkdiefpepnaaDoor.PA.W
namespace Go.Proofs.YtmcmkdiefpepnaaDoor.PA
open Go Go.Eng Go.Proofs.YtmcmkdiefpepnaaDoor.SA Go.Proofs.YtmcmkdiefpepnaaDoor.EX
theorem pure (z0 : denKs [.str, .int .i64, .int .i64, .int .i64, .int .i64, .int .i64, .int .i64, .str, .str, .int .i64, .sl K9_0]) (h0 : wfKs [.str, .int .i64, .int .i64, .int .i64, .int .i64, .int .i64, .int .i64, .str, .str, .int .i64, .sl K9_0] z0) :
    g_laws_FnExactWorstSight.fn ((z0, ()), ()) = some true := by
  obtain ⟨w0, _, _, _, _, _, _, w7, w8, _, w10, _⟩ := h0
  refine W.law z0.1 z0.2.1 z0.2.2.1 z0.2.2.2.1 z0.2.2.2.2.1 z0.2.2.2.2.2.1 z0.2.2.2.2.2.2.1 z0.2.2.2.2.2.2.2.1 z0.2.2.2.2.2.2.2.2.1 z0.2.2.2.2.2.2.2.2.2.1 z0.2.2.2.2.2.2.2.2.2.2.1 (wf_str.1 w0) (wf_str.1 w7) (wf_str.1 w8) (wf_sl.1 w10).1 fun c hc => ?_
  obtain ⟨_, _, _, _, _, _, e6, e7, _⟩ := (wf_sl.1 w10).2 c hc
  exact ⟨wf_str.1 e6, wf_str.1 e7⟩
end Go.Proofs.YtmcmkdiefpepnaaDoor.PA
