/-
  Part of a proof by the engine: texts that a program of ours printed, or plain lemmas on them. No condition but what each theorem says.
-/
import Derived.Test.YtgkejafaggaocaaDoorSK
import Derived.Test.YtgkejafaggaocaaDoorRSPlain
import Derived.Test.YtgkejafaggaocaaDoorDRP
set_option linter.unusedVariables false
set_option linter.unusedSimpArgs false
namespace Go.Proofs.YtgkejafaggaocaaDoor.SK
open Go Go.Eng Go.Proofs.YtgkejafaggaocaaDoor.DT Go.Proofs.YtgkejafaggaocaaDoor.DR Go.Proofs.YtgkejafaggaocaaDoor.RS Go.Proofs.YtgkejafaggaocaaDoor.EX
abbrev SV := Int × Int × Int × Int × Int × Bool
def fineV (a0 a1 a2 a3 a4 a5 a6 : Int) : Bool :=
  soilV a0 a1 a2 a3 a4 && ((decide (-800 ≤ a5) && decide (a5 ≤ 800)) && ((decide (0 ≤ a6) && decide (a6 ≤ 5000)) && !decide (a4 > IntKind.i64.wrap (1000000000000 - a6))))
theorem spec_step (a0 a1 a2 a3 a4 a5 a6 : Int) : Answ (fun y => y.2.2.2.2.2 = fineV a0 a1 a2 a3 a4 a5 a6) (spec_SoilStep a0 a1 a2 a3 a4 a5 a6) := by
  unfold spec_SoilStep fineV
  simp only [spec_soil, l2In_eq, Option.bind_some]
  cases h1 : soilV a0 a1 a2 a3 a4
  · exact ⟨_, rfl, rfl⟩
  · cases h2 : (decide (-800 ≤ a5) && decide (a5 ≤ 800))
    · exact ⟨_, rfl, rfl⟩
    · cases h3 : (decide (0 ≤ a6) && decide (a6 ≤ 5000))
      · exact ⟨_, rfl, rfl⟩
      · cases h4 : decide (a4 > IntKind.i64.wrap (1000000000000 - a6))
        · simp only [Bool.not_true, Bool.not_false, Bool.and_true, cond_false]
          refine good_bif (fun _ => good_bif (fun _ => ⟨(_, _, _, _, _, true), rfl, rfl⟩) (fun _ => ⟨(_, _, _, _, _, true), rfl, rfl⟩)) (fun _ => good_bif (fun _ => ⟨(_, _, _, _, _, true), rfl, rfl⟩) (fun _ => ⟨(_, _, _, _, _, true), rfl, rfl⟩))
        · exact ⟨_, rfl, rfl⟩
def mn (x y : Int) : Int := if y < x then y else x
def tail3 (s t d g f : Int) : Option SV := some (s, t, IntKind.i64.wrap (d - IntKind.i64.wrap (d.tdiv 50)), IntKind.i64.wrap (g + IntKind.i64.wrap (d.tdiv 50)), f, true)
def tail2 (s t d g f : Int) : Option SV := bif decide (t > 400) then tail3 s 400 d (IntKind.i64.wrap (g + IntKind.i64.wrap (t - 400))) f else tail3 s t d g f
def downV (t d : Int) : Int := mn (IntKind.i64.wrap ((IntKind.i64.wrap (t - 100)).tdiv 4)) (IntKind.i64.wrap (1500 - d))
def tail1 (s t d g f : Int) : Option SV := bif decide (t > 100) then tail2 s (IntKind.i64.wrap (t - downV t d)) (IntKind.i64.wrap (d + downV t d)) g f else tail2 s t d g f
def melt2 (s t d g f c : Int) : Option SV := tail1 s (IntKind.i64.wrap (t - mn t (IntKind.i64.wrap (c.tdiv 20)))) d (IntKind.i64.wrap (g + mn t (IntKind.i64.wrap (c.tdiv 20)))) f
def melt1 (s t d g f c : Int) : Option SV :=
  melt2 (IntKind.i64.wrap (s - mn s (IntKind.i64.wrap ((IntKind.i64.wrap (3 * c)).tdiv 10)))) (IntKind.i64.wrap (t + mn s (IntKind.i64.wrap ((IntKind.i64.wrap (3 * c)).tdiv 10)))) d g f c
def core (a0 a1 a2 a3 a4 a5 a6 : Int) : Option SV :=
  bif decide (a5 < 0) then
    bif decide (a5 > 0) then melt1 (IntKind.i64.wrap (a0 + a6)) a1 a2 a3 (IntKind.i64.wrap (a4 + a6)) a5 else tail1 (IntKind.i64.wrap (a0 + a6)) a1 a2 a3 (IntKind.i64.wrap (a4 + a6))
  else
    bif decide (a5 > 0) then melt1 a0 (IntKind.i64.wrap (a1 + a6)) a2 a3 (IntKind.i64.wrap (a4 + a6)) a5 else tail1 a0 (IntKind.i64.wrap (a1 + a6)) a2 a3 (IntKind.i64.wrap (a4 + a6))
theorem impl_core (a0 a1 a2 a3 a4 a5 a6 : Int) : impl_SoilStep a0 a1 a2 a3 a4 a5 a6 =
    (impl_soilOk a0 a1 a2 a3 a4).bind fun val => bif !val then some (0, 0, 0, 0, 0, false) else (impl_in a5 (-800) 800).bind fun val => bif !val then some (0, 0, 0, 0, 0, false) else (impl_in a6 0 5000).bind fun val =>
      bif !val then some (0, 0, 0, 0, 0, false) else bif decide (a4 > IntKind.i64.wrap (1000000000000 - a6)) then some (0, 0, 0, 0, 0, false) else core a0 a1 a2 a3 a4 a5 a6 := by
  kernel_rfl
/-- What stands after the day. -/
def After (g f : Int) (y : SV) : Prop := soilV y.1 y.2.1 y.2.2.1 y.2.2.2.1 y.2.2.2.2.1 = true ∧ g ≤ y.2.2.2.1 ∧ y.2.2.2.2.1 = f ∧ y.2.2.2.2.2 = true
theorem tail3_ok {s t d g f : Int} (hs : 0 ≤ s) (ht : 0 ≤ t ∧ t ≤ 400) (hd : 0 ≤ d ∧ d ≤ 1500) (hg : 0 ≤ g) (hf : f = s + t + d + g) (hm : f ≤ 1000000000000) : Answ (After g f) (tail3 s t d g f) := by
  refine ⟨_, rfl, ?_⟩
  have e : d.tdiv 50 = d / 50 := Int.tdiv_eq_ediv_of_nonneg hd.1
  simp only [After, e]
  generalize hq : d / 50 = q
  have hq' : 0 ≤ q ∧ q ≤ d := by omega
  rw [w64 (n := q) (by omega) (by omega), w64 (n := d - q) (by omega) (by omega), w64 (n := g + q) (by omega) (by omega)]
  refine ⟨?_, by omega, by trivial, by trivial⟩
  simp only [soilV, Bool.and_eq_true, decide_eq_true_eq]
  omega
theorem good_more {g g' f : Int} {m : Option SV} (h : Answ (After g' f) m) (k : g ≤ g') : Answ (After g f) m :=
  good_mono h fun y hy => ⟨hy.1, Int.le_trans k hy.2.1, hy.2.2.1, hy.2.2.2⟩
theorem tail2_ok {s t d g f : Int} (hs : 0 ≤ s) (ht : 0 ≤ t) (hd : 0 ≤ d ∧ d ≤ 1500) (hg : 0 ≤ g) (hf : f = s + t + d + g) (hm : f ≤ 1000000000000) : Answ (After g f) (tail2 s t d g f) := by
  unfold tail2
  refine good_bif (fun h => ?_) (fun h => ?_)
  · have h' := of_decide_eq_true h
    rw [w64 (n := t - 400) (by omega) (by omega), w64 (n := g + (t - 400)) (by omega) (by omega)]
    exact good_more (tail3_ok hs ⟨by omega, by omega⟩ hd (by omega) (by omega) hm) (by omega)
  · have h' := of_decide_eq_false h
    exact tail3_ok hs ⟨ht, by omega⟩ hd hg hf hm
theorem mn_le {x y : Int} : mn x y ≤ x ∧ mn x y ≤ y ∧ (0 ≤ x → 0 ≤ y → 0 ≤ mn x y) := by
  unfold mn
  by_cases h : y < x
  · rw [if_pos h]; omega
  · rw [if_neg h]; omega
theorem tail1_ok {s t d g f : Int} (hs : 0 ≤ s) (ht : 0 ≤ t) (hd : 0 ≤ d ∧ d ≤ 1500) (hg : 0 ≤ g) (hf : f = s + t + d + g) (hm : f ≤ 1000000000000) : Answ (After g f) (tail1 s t d g f) := by
  unfold tail1
  refine good_bif (fun h => ?_) (fun h => tail2_ok hs ht hd hg hf hm)
  have h' := of_decide_eq_true h
  have e : (t - 100).tdiv 4 = (t - 100) / 4 := Int.tdiv_eq_ediv_of_nonneg (by omega)
  have hD : downV t d = mn ((t - 100) / 4) (1500 - d) := by
    unfold downV
    rw [w64 (n := t - 100) (by omega) (by omega), e, w64 (n := (t - 100) / 4) (by omega) (by omega), w64 (n := 1500 - d) (by omega) (by omega)]
  rw [hD]
  obtain ⟨b1, b2, b3⟩ := @mn_le ((t - 100) / 4) (1500 - d)
  have b3' := b3 (by omega) (by omega)
  generalize mn ((t - 100) / 4) (1500 - d) = q at *
  rw [w64 (n := t - q) (by omega) (by omega), w64 (n := d + q) (by omega) (by omega)]
  exact tail2_ok hs (by omega) ⟨by omega, by omega⟩ hg (by omega) hm
theorem melt2_ok {s t d g f c : Int} (hs : 0 ≤ s) (ht : 0 ≤ t) (hd : 0 ≤ d ∧ d ≤ 1500) (hg : 0 ≤ g) (hf : f = s + t + d + g) (hm : f ≤ 1000000000000) (hc : 0 ≤ c ∧ c ≤ 800) : Answ (After g f) (melt2 s t d g f c) := by
  unfold melt2
  rw [Int.tdiv_eq_ediv_of_nonneg hc.1, w64 (n := c / 20) (by omega) (by omega)]
  obtain ⟨b1, b2, b3⟩ := @mn_le t (c / 20)
  have b3' := b3 (by omega) (by omega)
  generalize mn t (c / 20) = q at *
  rw [w64 (n := t - q) (by omega) (by omega), w64 (n := g + q) (by omega) (by omega)]
  exact good_more (tail1_ok hs (by omega) hd (by omega) (by omega) hm) (by omega)
theorem melt1_ok {s t d g f c : Int} (hs : 0 ≤ s) (ht : 0 ≤ t) (hd : 0 ≤ d ∧ d ≤ 1500) (hg : 0 ≤ g) (hf : f = s + t + d + g) (hm : f ≤ 1000000000000) (hc : 0 ≤ c ∧ c ≤ 800) : Answ (After g f) (melt1 s t d g f c) := by
  unfold melt1
  rw [w64 (n := 3 * c) (by omega) (by omega), Int.tdiv_eq_ediv_of_nonneg (by omega), w64 (n := 3 * c / 10) (by omega) (by omega)]
  obtain ⟨b1, b2, b3⟩ := @mn_le s (3 * c / 10)
  have b3' := b3 (by omega) (by omega)
  generalize mn s (3 * c / 10) = q at *
  rw [w64 (n := t + q) (by omega) (by omega), w64 (n := s - q) (by omega) (by omega)]
  exact melt2_ok (by omega) (by omega) hd hg (by omega) hm hc
theorem core_ok {a0 a1 a2 a3 a4 a5 a6 : Int} (h : soilV a0 a1 a2 a3 a4 = true) (hc : -800 ≤ a5 ∧ a5 ≤ 800) (hr : 0 ≤ a6 ∧ a6 ≤ 5000) (hm : a4 + a6 ≤ 1000000000000) : Answ (After a3 (a4 + a6)) (core a0 a1 a2 a3 a4 a5 a6) := by
  simp only [soilV, Bool.and_eq_true, decide_eq_true_eq] at h
  unfold core
  rw [w64 (n := a4 + a6) (by omega) (by omega), w64 (n := a0 + a6) (by omega) (by omega), w64 (n := a1 + a6) (by omega) (by omega)]
  refine good_bif (fun k => ?_) (fun k => ?_)
  · have k' := of_decide_eq_true k
    refine good_bif (fun l => absurd (of_decide_eq_true l) (by omega)) (fun l => ?_)
    exact tail1_ok (by omega) (by omega) (by omega) (by omega) (by omega) (by omega)
  · have k' := of_decide_eq_false k
    refine good_bif (fun l => ?_) (fun l => ?_)
    · exact melt1_ok (by omega) (by omega) (by omega) (by omega) (by omega) (by omega) (by omega)
    · exact tail1_ok (by omega) (by omega) (by omega) (by omega) (by omega) (by omega)
theorem impl_step (a0 a1 a2 a3 a4 a5 a6 : Int) : (fineV a0 a1 a2 a3 a4 a5 a6 = false ∧ impl_SoilStep a0 a1 a2 a3 a4 a5 a6 = some (0, 0, 0, 0, 0, false)) ∨
    (fineV a0 a1 a2 a3 a4 a5 a6 = true ∧ a4 + a6 ≤ 1000000000000 ∧ 0 ≤ a4 + a6 ∧ Answ (After a3 (a4 + a6)) (impl_SoilStep a0 a1 a2 a3 a4 a5 a6)) := by
  rw [impl_core]
  unfold fineV
  simp only [impl_soil, in_eq, Option.bind_some]
  cases h1 : soilV a0 a1 a2 a3 a4
  · exact .inl ⟨rfl, rfl⟩
  · cases h2 : (decide (-800 ≤ a5) && decide (a5 ≤ 800))
    · exact .inl ⟨rfl, rfl⟩
    · cases h3 : (decide (0 ≤ a6) && decide (a6 ≤ 5000))
      · exact .inl ⟨rfl, rfl⟩
      · cases h4 : decide (a4 > IntKind.i64.wrap (1000000000000 - a6))
        · have k2 := h2
          have k3 := h3
          simp only [Bool.and_eq_true, decide_eq_true_eq] at k2 k3
          rw [w64 (n := 1000000000000 - a6) (by omega) (by omega)] at h4
          have k4 := of_decide_eq_false h4
          have k1 := h1
          simp only [soilV, Bool.and_eq_true, decide_eq_true_eq] at k1
          exact .inr ⟨rfl, by omega, by omega, core_ok h1 k2 k3 (by omega)⟩
        · exact .inl ⟨rfl, rfl⟩
end Go.Proofs.YtgkejafaggaocaaDoor.SK

namespace Go.Proofs.YtgkejafaggaocaaDoor.SK
open Go Go.Eng Go.Proofs.YtgkejafaggaocaaDoor.DT Go.Proofs.YtgkejafaggaocaaDoor.DR Go.Proofs.YtgkejafaggaocaaDoor.RS Go.Proofs.YtgkejafaggaocaaDoor.EX
/-! ### the draw answers -/
theorem soil_loop (n : Int) (hn : n ≤ 65535) (a4 a5 a6 a7 a8 : Int) : ∀ (m : Nat) (i : Int) (l : List Int) (p a9 a10 a11 a12 a13 : Int), 0 ≤ i → (m : Int) = max 0 (n - i) → Rdr l p →
    ∃ y, Ev (fun k => spec_l1Rd_soil_L4 k n i l p a4 a5 a6 a7 a8 a9 a10 a11 a12 a13) y ∧ Rdr y.2.2.2.2.2.1 y.2.2.2.2.2.2 := by
  intro m
  induction m with
  | zero =>
    intro i l p a9 a10 a11 a12 a13 h0 hm hr
    refine ⟨(a9, a10, a11, a12, a13, l, p), ?_, hr⟩
    apply ev_succ
    simp only [spec_l1Rd_soil_L4, show ¬ (i < n) by omega, decide_false, cond_false]
    exact ev_now _
  | succ m ih =>
    intro i l p a9 a10 a11 a12 a13 h0 hm hr
    obtain ⟨⟨v1, l1, p1⟩, e1, hr1, _⟩ := below_good 500 (by omega) hr
    obtain ⟨⟨v2, l2, p2⟩, e2, hr2, _⟩ := below_good 700 (by omega) hr1
    obtain ⟨⟨b0, b1, b2, b3, b4, b5⟩, e3, _⟩ := spec_step a9 a10 a11 a12 a13 (IntKind.i64.wrap (v1 - 200)) v2
    obtain ⟨y, hy, hyr⟩ := ih (i + 1) l2 p2 b0 b1 b2 b3 b4 (by omega) (by omega) hr2
    refine ⟨y, ?_, hyr⟩
    apply ev_succ
    simp only at e2
    simp only [spec_l1Rd_soil_L4, show i < n by omega, decide_true, cond_true, e1, e2, e3, Option.bind_some, w64 (n := i + 1) (by omega) (by omega)]
    exact hy
theorem soil_good {l : List Int} {p : Int} (hr : Rdr l p) : Answ (fun y => Rdr y.2.2.2.2.2.1 y.2.2.2.2.2.2) (spec_l1Rd_soil l p) := by
  obtain ⟨⟨n, l1, p1⟩, e1, hr1, h0, h1, _⟩ := below_good 9 (by omega) hr
  obtain ⟨y, hy, hyr⟩ := soil_loop n h1 0 0 0 0 0 (max 0 (n - 0)).toNat 0 l1 p1 0 0 0 0 0 (by omega) (by omega) hr1
  refine ⟨y, evF_eq ?_, hyr⟩
  simp only [spec_l1Rd_soil_F, e1, Option.bind_some]
  exact hy
theorem draw_soil {l : List Int} {p : Int} (hr : Rdr l p) : Answ (fun y => Rdr y.2.2.2.2.2.1 y.2.2.2.2.2.2) (spec_l17DrawSoil l p) := by
  unfold spec_l17DrawSoil
  refine good_bind (soil_good hr) fun y hy => good_bind (below_good 20 (by omega) hy) fun z hz => ?_
  have hz1 := hz.1
  refine good_bif (fun _ => ⟨_, rfl, hz1⟩) fun _ => good_bif (fun _ => ⟨_, rfl, hz1⟩) fun _ => good_bif (fun _ => ⟨_, rfl, hz1⟩) fun _ => good_bif (fun _ => ⟨_, rfl, hz1⟩) fun _ => good_bif (fun _ => ⟨_, rfl, hz1⟩) fun _ => ⟨_, rfl, hz1⟩
theorem draw_good {l : List Int} (hl : l.length ≤ 1048576) (hb : ∀ x ∈ l, 0 ≤ x ∧ x ≤ 255) : Answ (fun _ => True) (spec_DrawSoilStep l) := by
  unfold spec_DrawSoilStep
  refine good_bind (open_good hl hb) fun y hy => good_bind (draw_soil hy) fun z hz => good_bind (below_good 600 (by omega) hz) fun u hu => good_bind (below_good 900 (by omega) hu.1) fun v hv => good_bind (below_good 14 (by omega) hv.1) fun w hw => ?_
  refine good_bif (fun _ => ?_) fun _ => good_bif (fun _ => ?_) fun _ => ⟨_, rfl, trivial⟩
  · refine good_bind (below_good 5 (by omega) hw.1) fun x hx => ?_
    have h5 : x.1 < 5 := hx.2.2.2.1 (by omega)
    exact good_chk (chk_le hx.2.1) (good_chk (chk_lt h5) (good_chk (chk_lt h5) ⟨_, rfl, trivial⟩))
  · refine good_bind (below_good 6 (by omega) hw.1) fun x hx => ?_
    have h6 : x.1 < 6 := hx.2.2.2.1 (by omega)
    exact good_chk (chk_le hx.2.1) (good_chk (chk_lt h6) (good_chk (chk_lt h6) ⟨_, rfl, trivial⟩))
/-! ### the text, and what is read of it -/
theorem impl_text {a b c d e : Int} (h : soilV a b c d e = true) : impl_SoilText a b c d e = some (bs (stxt a b c d e)) := by
  obtain ⟨ha, hb, hc, hd, he⟩ := soil_parts h
  unfold impl_SoilText
  rw [impl_soil, h, Option.bind_some]
  simp only [Bool.not_true, cond_false, dec_eq (n := a) (by omega) (by omega), dec_eq (n := b) (by omega) (by omega), dec_eq (n := c) (by omega) (by omega), dec_eq (n := d) (by omega) (by omega), dec_eq (n := e) (by omega) (by omega), Option.bind_some]
  have la := itoa_len (n := a) (by omega) (by omega)
  have lb := itoa_len (n := b) (by omega) (by omega)
  have lc := itoa_len (n := c) (by omega) (by omega)
  have ld := itoa_len (n := d) (by omega) (by omega)
  have le := itoa_len (n := e) (by omega) (by omega)
  have hj : Lib.join (([bs (Lib.itoa a), bs (Lib.itoa b), bs (Lib.itoa c), bs (Lib.itoa d), bs (Lib.itoa e)] : List ByteArray).map (·.data.toList)) (bs [32]).data.toList = stxt a b c d e := by
    have hL : ∀ x : List UInt8, (bs x).data.toList = x := fun x => L_bs x
    simp only [List.map_cons, List.map_nil, hL]
    simp [Lib.join, stxt]
  have hl : (stxt a b c d e).length ≤ 140737488355328 := by simp only [stxt, List.length_append, List.length_cons]; omega
  unfold dJoin
  rw [hj]
  simp only [hl, List.length_cons, List.length_nil, Nat.zero_add, Nat.reduceAdd, Nat.reduceLeDiff, decide_true, Bool.and_self, cond_true, Option.bind_some]
theorem impl_back {a b c d e : Int} (h : soilV a b c d e = true) : impl_ReadSoil (bs (stxt a b c d e)) = some (a, b, c, d, e, true) := by
  obtain ⟨ha, hb, hc, hd, he⟩ := soil_parts h
  have la := itoa_len (n := a) (by omega) (by omega)
  have lb := itoa_len (n := b) (by omega) (by omega)
  have lc := itoa_len (n := c) (by omega) (by omega)
  have ld := itoa_len (n := d) (by omega) (by omega)
  have le := itoa_len (n := e) (by omega) (by omega)
  have hp := pieces_text ha.1 hb.1 hc.1 hd.1 he.1 (s := bs (stxt a b c d e)) (L_bs _)
  rcases impl_read (s := bs (stxt a b c d e)) (by rw [size_bs]; simp only [stxt, List.length_append, List.length_cons]; omega) with ⟨h5, _⟩ | ⟨q0, q1, q2, q3, q4, hq, e'⟩
  · rw [hp] at h5; exact absurd rfl h5
  · rw [hp] at hq
    simp only [List.cons.injEq, and_true] at hq
    obtain ⟨rfl, rfl, rfl, rfl, rfl⟩ := hq
    rw [e']
    obtain ⟨x0, y0, _⟩ := dec_piece ha.1 ha.2
    obtain ⟨x1, y1, _⟩ := dec_piece hb.1 hb.2
    obtain ⟨x2, y2, _⟩ := dec_piece hc.1 hc.2
    obtain ⟨x3, y3, _⟩ := dec_piece hd.1 hd.2
    obtain ⟨x4, y4, _⟩ := dec_piece he.1 he.2
    unfold implV
    rw [if_pos x0, if_pos x1, if_pos x2, if_pos x3, if_pos x4, y0, y1, y2, y3, y4, if_pos h]
theorem law {l : List Int} (hb : ∀ x ∈ l, 0 ≤ x ∧ x ≤ 255) : laws_FnSoilKept l = some true := by
  unfold laws_FnSoilKept laws_big
  rw [Option.bind_some]
  by_cases h1 : (l.length : Int) > 1048576
  · simp only [h1, decide_true, cond_true]
  · obtain ⟨⟨a0, a1, a2, a3, a4, a5, a6⟩, e, _⟩ := draw_good (l := l) (by omega) hb
    obtain ⟨⟨b0, b1, b2, b3, b4, b5⟩, e1, hb5⟩ := spec_step a0 a1 a2 a3 a4 a5 a6
    simp only at hb5
    simp only [h1, decide_false, cond_false, e, e1, Option.bind_some]
    rcases impl_step a0 a1 a2 a3 a4 a5 a6 with ⟨hf, e2⟩ | ⟨hf, hm, hn, ⟨c0, c1, c2, c3, c4, c5⟩, e2, hs, hg, hff, h5⟩
    · rw [hf] at hb5
      subst hb5
      rw [e2]
      rfl
    · rw [hf] at hb5
      subst hb5
      simp only at hs hg hff h5
      subst hff h5
      have hp := hs
      simp only [soilV, Bool.and_eq_true, decide_eq_true_eq] at hp
      rw [e2]
      simp only [Option.bind_some, w64 (n := a4 + a6) (by omega) (by omega), impl_text hs, impl_back hs, bneI,
        w64 (n := c0 + c1) (by omega) (by omega), w64 (n := c0 + c1 + c2) (by omega) (by omega), w64 (n := c0 + c1 + c2 + c3) (by omega) (by omega)]
      rw [show c0 + c1 + c2 + c3 = a4 + a6 by omega]
      simp only [show ¬ c0 < 0 by omega, show ¬ c1 < 0 by omega, show ¬ c1 > 400 by omega, show ¬ c2 < 0 by omega, show ¬ c2 > 1500 by omega, show ¬ c3 < a3 by omega, decide_false, decide_true, cond_false, cond_true, Bool.not_true, Bool.not_false, beq_self_eq_true, Bool.and_self]
theorem pure (z0 : denKs [.sl (.int .u8)]) (h0 : wfKs [.sl (.int .u8)] z0) : g_laws_FnSoilKept.fn ((z0.1, ()), ()) = some true := by
  obtain ⟨w0, _⟩ := h0
  exact law (fun x hx => wf_u8.1 ((wf_sl.1 w0).2 x hx))
end Go.Proofs.YtgkejafaggaocaaDoor.SK
