/-
  Part of a proof by the engine: texts that a program of ours printed, or plain lemmas on them. No condition but what each theorem says.
-/
import Derived.Test.YtondfjckadlabaaGreatDoorRTPlain
import Derived.Test.YtondfjckadlabaaGreatDoorTB
import Derived.Test.YtondfjckadlabaaGreatDoorDRP
set_option linter.unusedVariables false
set_option linter.unusedSimpArgs false
namespace Go.Proofs.YtondfjckadlabaaGreatDoor.RT
open Go Go.Eng Go.Proofs.YtondfjckadlabaaGreatDoor.DT Go.Proofs.YtondfjckadlabaaGreatDoor.NU Go.Proofs.YtondfjckadlabaaGreatDoor.SA Go.Proofs.YtondfjckadlabaaGreatDoor.TT Go.Proofs.YtondfjckadlabaaGreatDoor.EX
/-! ### a right forecast is found again near a time that is near to when it was issued -/
theorem mon_lt {d : Nat} (h : d ≤ 36525) : mon d < 1212 := by
  have := month_le (mon_spec d).1 h
  omega
theorem day_C {d : Nat} (h i : Nat) : C (dayN d) h i (mon d) = (d : Int) * 1440 + (h : Int) * 60 + (i : Int) := by
  have h1 := (mon_spec d).1
  unfold C dayN
  generalize Sm (mon d) = a at *
  have : ((d - a + 1 : Nat) : Int) = (d : Int) - (a : Int) + 1 := by omega
  rw [this]
  have e : (a : Int) + ((d : Int) - (a : Int) + 1) - 1 = (d : Int) := by omega
  rw [e]
theorem day_ml (d : Nat) : dayN d ≤ ml (mon d) := by
  have h := mon_spec d
  have h2 : Sm (mon d + 1) = Sm (mon d) + ml (mon d) := rfl
  unfold dayN; omega
theorem dst_abs {a r k : Int} (h1 : a - r ≤ k) (h2 : r - a ≤ k) : dst a r ≤ k := by unfold dst; split <;> omega
/-- A minute is found again. -/
theorem ndV_at {d h i : Nat} {t ref : Int} (ht : t = (d : Int) * 1440 + (h : Int) * 60 + (i : Int)) (hd : d ≤ 36525) (hh : h ≤ 24) (hi : i < 60) (h24 : h = 24 → i = 0) (h0 : 0 ≤ t ∧ t ≤ 52596000) (hr : 0 ≤ ref ∧ ref ≤ 52596000)
    (h1 : t - ref ≤ 18720) (h2 : ref - t ≤ 18720) : ndV (dayN d) (h : Int) (i : Int) ref = (t, true) := by
  have hc := day_C (d := d) h i
  rw [← ht] at hc
  have := near_found (d := dayN d) (h := h) (i := i) (q := mon d) (ref := ref) ⟨by unfold dayN; omega, dayN_le d⟩ hh hi h24 (mon_lt hd) ⟨day_ml d, by rw [hc]; exact h0⟩ hr (by rw [hc]; exact dst_abs h1 h2)
  unfold ndV
  rw [this, hc]
  rfl
theorem nd_min {t ref : Int} (h0 : 0 ≤ t ∧ t ≤ 52596000) (hr : 0 ≤ ref ∧ ref ≤ 52596000) (h1 : t - ref ≤ 18720) (h2 : ref - t ≤ 18720) :
    ndV (dayN (t.toNat / 1440)) ((t.toNat / 60 % 24 : Nat) : Int) ((t.toNat % 60 : Nat) : Int) ref = (t, true) := by
  refine ndV_at ?_ (by omega) (by omega) (by omega) (by omega) h0 hr h1 h2
  obtain ⟨n, rfl⟩ := Int.eq_ofNat_of_zero_le h0.1
  simp only [Int.toNat_natCast]
  omega
theorem nS_id {a b R : Int} (ha : 0 ≤ a ∧ a ≤ 52596000) (hb : 0 < b ∧ b ≤ 52596000) (ha6 : a % 60 = 0) (hb6 : b % 60 = 0) (hr : 0 ≤ R ∧ R ≤ 52596000)
    (h1 : a - R ≤ 18720) (h2 : R - a ≤ 18720) (h3 : b - R ≤ 18720) (h4 : R - b ≤ 18720) : nS a.toNat b.toNat R = ((a, true), (b, true)) := by
  obtain ⟨x, rfl⟩ := Int.eq_ofNat_of_zero_le ha.1
  obtain ⟨y, rfl⟩ := Int.eq_ofNat_of_zero_le (show 0 ≤ b by omega)
  unfold nS
  simp only [Int.toNat_natCast]
  have hz : ((0 : Nat) : Int) = 0 := rfl
  rw [← hz, ndV_at (t := (x : Int)) (by omega) (by omega) (by omega) (by omega) (by omega) ha hr h1 h2]
  by_cases hd : y % 1440 = 0
  · rw [if_pos hd, ndV_at (t := (y : Int)) (by omega) (by omega) (by omega) (by omega) (by omega) (by omega) hr h3 h4]
  · rw [if_neg hd, ndV_at (t := (y : Int)) (by omega) (by omega) (by omega) (by omega) (by omega) (by omega) hr h3 h4]
theorem renC_id {vf vt R : Int} {x : Ch} (hk : chOk vf vt x = true) (hv : 0 ≤ vf ∧ vt ≤ 52596000) (hr : 0 ≤ R ∧ R ≤ 52596000) (h1 : vt - R ≤ 18720) (h2 : R - vf ≤ 18720) : renC R x = (x, true) := by
  simp only [chOk, kindV, Bool.and_eq_true] at hk
  obtain ⟨_, _, hk⟩ := hk
  obtain ⟨k, f, t, c⟩ := x
  unfold renC
  simp only at hk ⊢
  by_cases h : k = 1
  · rw [if_pos h] at hk
    simp only [Bool.and_eq_true, decide_eq_true_eq] at hk
    obtain ⟨ht0, ⟨a1, a2⟩, _⟩ := hk
    subst h ht0
    rw [if_pos rfl, nd_min (t := f) (by omega) hr (by omega) (by omega)]
  · rw [if_neg h] at hk
    simp only [Bool.and_eq_true, decide_eq_true_eq] at hk
    obtain ⟨_, a1, a2, a3, a4, a5⟩ := hk
    rw [if_neg h]
    rw [Int.tmod_eq_emod_of_nonneg (by omega)] at a1 a2
    rw [nS_id (a := f) (b := t) (by omega) (by omega) a1 a2 hr (by omega) (by omega) (by omega) (by omega)]
    rfl
theorem rdI_id {a0 : ByteArray} {a1 vf vt d s v : Int} {w c : ByteArray} {b : Int} {xs : List Ch} {ref : Int} (h : tafV a0 a1 vf vt d s v w c b xs = true) (hr : 0 ≤ ref ∧ ref ≤ 52596000) (h1 : a1 - ref ≤ 14400) (h2 : ref - a1 ≤ 14400) :
    rdI a0 a1 vf vt d s v w c b xs ref = (a0, a1, vf, vt, d, s, v, w, c, b, true, xs) := by
  have hg := taf_g h
  have hf := hg.f
  have hh := h
  simp only [tafV, Bool.and_eq_true, Bool.not_eq_true', Bool.not_eq_false', decide_eq_false_iff_not, decide_eq_true_eq] at hh
  obtain ⟨_, _, k3, _, _, k6, k7, _, _, _⟩ := hh
  have hs := span_facts k3
  have hi : issV a1 ref = (a1, true) := nd_min hf.t hr (by omega) (by omega)
  have hn : nS vf.toNat vt.toNat a1 = ((vf, true), (vt, true)) := nS_id hf.f hf.u hg.f6 hf.u6 hf.t (by omega) (by omega) (by omega) (by omega)
  have hc : ∀ x ∈ xs, renC a1 x = (x, true) := fun x hx => renC_id (hg.chs x hx) (by omega) hf.t (by omega) (by omega)
  have hm : (xs.map fun x => (renC a1 x).1) = xs := by
    conv => rhs; rw [← List.map_id xs]
    exact List.map_congr_left fun x hx => by rw [hc x hx]; rfl
  have ho : okV a1 vf vt xs ref = true := by
    unfold okV
    simp only [hi, hn, Bool.true_and]
    exact List.all_eq_true.2 fun x hx => by rw [hc x hx]
  unfold rdI finI
  simp only [hi, hn]
  rw [if_pos ho, hm, if_pos ⟨h, rfl⟩]
theorem read_id {a0 : ByteArray} {a1 vf vt d s v : Int} {w c : ByteArray} {b : Int} {xs : List Ch} {ref : Int} (h : tafV a0 a1 vf vt d s v w c b xs = true) (hr : 0 ≤ ref ∧ ref ≤ 52596000) (h1 : a1 - ref ≤ 14400) (h2 : ref - a1 ≤ 14400) :
    impl_ReadTaf (tafT a0 a1 vf vt d s v w c b xs) ref = some (a0, a1, vf, vt, d, s, v, w, c, b, true, xs) := by
  have := text_len h
  rw [read_impl h (by omega), rdI_id h hr h1 h2]
end Go.Proofs.YtondfjckadlabaaGreatDoor.RT

namespace Go.Proofs.YtondfjckadlabaaGreatDoor.TB
open Go Go.Eng Go.Proofs.YtondfjckadlabaaGreatDoor.DT Go.Proofs.YtondfjckadlabaaGreatDoor.NU Go.Proofs.YtondfjckadlabaaGreatDoor.SA Go.Proofs.YtondfjckadlabaaGreatDoor.TT Go.Proofs.YtondfjckadlabaaGreatDoor.RT Go.Proofs.YtondfjckadlabaaGreatDoor.DR Go.Proofs.YtondfjckadlabaaGreatDoor.EX
/-! ### what loops answer -/
def AnsE {γ : Type} (Q : γ → Prop) (f : Nat → Option γ) : Prop := ∃ y, Ev f y ∧ Q y
theorem ansE_bind {α γ : Type} {P : α → Prop} {Q : γ → Prop} {m : Option α} {f : Nat → α → Option γ} (h : Answ P m) (k : ∀ y, P y → AnsE Q (fun z => f z y)) : AnsE Q (fun z => m.bind (f z)) := by
  obtain ⟨y, e, hy⟩ := h
  rw [e]
  exact k y hy
theorem ansE_bif {γ : Type} {Q : γ → Prop} {b : Bool} {t e : Nat → Option γ} (ht : b = true → AnsE Q t) (hf : b = false → AnsE Q e) : AnsE Q (fun z => bif b then t z else e z) := by
  cases b with
  | true => exact ht rfl
  | false => exact hf rfl
theorem ansE_chk {γ : Type} {Q : γ → Prop} {b : Bool} {t e : Nat → Option γ} (h : b = true) (k : AnsE Q t) : AnsE Q (fun z => bif b then t z else e z) := by
  rw [h]; exact k
theorem ansE_some {γ : Type} {Q : γ → Prop} {y : γ} (h : Q y) : AnsE Q (fun _ => some y) := ⟨y, ev_now _, h⟩
theorem ansE_succ {γ : Type} {Q : γ → Prop} {g : Nat → Option γ} (h : AnsE Q fun n => g (n + 1)) : AnsE Q g := by
  obtain ⟨y, e, q⟩ := h
  exact ⟨y, ev_succ e, q⟩
theorem ansE_evF {γ : Type} {Q : γ → Prop} {f : Nat → Option γ} (h : AnsE Q f) : Answ Q (evF f) := by
  obtain ⟨y, e, q⟩ := h
  exact ⟨y, evF_eq e, q⟩
/-! ### numbers, times -/
theorem wrap_u0 (x : Int) : 0 ≤ IntKind.u64.wrap x := by
  simp [IntKind.wrap, IntKind.bits, IntKind.signed]; omega
theorem word_loop : ∀ (m n : Nat) (v : Int) (l : List Int) (p : Int), n + m = 8 → 0 ≤ v → Rdr l p → ∃ y, Ev (fun k => spec_l1Rd_word_L3 k v (n : Int) l p) y ∧ Rdr y.2.1 y.2.2 ∧ 0 ≤ y.1
  | 0, n, v, l, p, h, h0, hr => by
    refine ⟨(v, l, p), ?_, hr, h0⟩
    apply ev_succ
    simp only [spec_l1Rd_word_L3, show ¬ ((n : Int) < 8) by omega, decide_false, cond_false]
    exact ev_now _
  | m + 1, n, v, l, p, h, h0, hr => by
    obtain ⟨⟨u, l1, p1⟩, e, hr1, _⟩ := next_good hr
    obtain ⟨y, hy, hyr⟩ := word_loop m (n + 1) (IntKind.u64.wrap (↑(BitVec.ofInt IntKind.u64.bits (IntKind.u64.wrap (v * 2 ^ min (Int.toNat 8) IntKind.u64.bits)) ||| BitVec.ofInt IntKind.u64.bits (IntKind.u64.wrap u)).toNat : Int)) l1 p1 (by omega) (wrap_u0 _) hr1
    refine ⟨y, ?_, hyr⟩
    apply ev_succ
    simp only [spec_l1Rd_word_L3, show ((n : Int) < 8) by omega, decide_true, cond_true, e, Option.bind_some, wsucc (show n < 9223372036854775807 by omega)]
    exact hy
theorem word_good {l : List Int} {p : Int} (h : Rdr l p) : Answ (fun y => Rdr y.2.1 y.2.2 ∧ 0 ≤ y.1) (spec_l1Rd_word l p) := by
  obtain ⟨y, hy, hyr⟩ := word_loop 8 0 0 l p (by omega) (by omega) h
  exact ⟨y, evF_eq hy, hyr⟩
theorem size_good {l : List Int} {p : Int} (a0 a1 : Int) (h0 : a0 ≠ 0) (h1 : a1 ≤ 65536) (h : Rdr l p) : Answ (fun y => Rdr y.2.1 y.2.2 ∧ 1 ≤ y.1 ∧ y.1 ≤ max 1 a1) (spec_l1Rd_size a0 a1 l p) := by
  unfold spec_l1Rd_size
  refine good_chk (by simp [h0]) (good_bif (fun _ => ?_) (fun k => ?_))
  · refine good_bind (below_good a1 h1 h) fun y hy => ⟨_, rfl, hy.1, ?_, ?_⟩
    · rw [w64 (by omega) (by omega)]; omega
    · rw [w64 (by omega) (by omega)]; omega
  · have k' := of_decide_eq_false k
    refine good_bind (below_good _ (by omega) h) fun y hy => ⟨_, rfl, hy.1, ?_, ?_⟩
    · rw [w64 (by omega) (by omega)]; omega
    · rw [w64 (by omega) (by omega)]; omega
theorem time_good {l : List Int} {p : Int} (h : Rdr l p) : Answ (fun y => Rdr y.2.1 y.2.2 ∧ 0 ≤ y.1 ∧ y.1 ≤ 52596000) (spec_l1Rd_time l p) := by
  unfold spec_l1Rd_time
  refine good_bind (below_good 6 (by omega) h) fun y hy => good_bif (fun _ => ?_) fun _ => good_bif (fun _ => ?_) fun _ => good_bif (fun _ => ?_) fun _ => ?_
  · refine good_bind (below_good 3000 (by omega) hy.1) fun z hz => ⟨_, rfl, hz.1, hz.2.1, ?_⟩
    simp only; omega
  · refine good_bind (below_good 3000 (by omega) hy.1) fun z hz => ⟨_, rfl, hz.1, ?_⟩
    have : z.1 < 3000 := hz.2.2.2.1 (by omega)
    simp only
    rw [w64 (by omega) (by omega)]
    omega
  · refine good_bind (word_good hy.1) fun z hz => ⟨_, rfl, hz.1, ?_⟩
    have h1 := Int.tmod_nonneg (52596001 : Int) hz.2
    have h2 := Int.tmod_lt_of_pos z.1 (show (0 : Int) < 52596001 by omega)
    simp only
    rw [w64 (by omega) (by omega)]
    omega
  · refine good_bind (below_good 60000 (by omega) hy.1) fun z hz => ⟨_, rfl, hz.1, ?_⟩
    have : z.1 < 60000 := hz.2.2.2.1 (by omega)
    simp only
    rw [w64 (by omega) (by omega)]
    omega
/-! ### a drawn sky -/
abbrev SkR := Int × Int × Int × ByteArray × ByteArray × Int × (List Int) × Int
def SkQ (f : Bool) (y : SkR) : Prop := Rdr y.2.2.2.2.2.2.1 y.2.2.2.2.2.2.2 ∧ (f = true → fullV y.1 y.2.1 y.2.2.1 y.2.2.2.1 y.2.2.2.2.1 y.2.2.2.2.2.1 = true)
def PW (d s : Int) : Prop := windV d s = true ∧ d ≠ -1
def PV (v : Int) : Prop := 0 ≤ v ∧ v ≤ 9999
def PE (w : ByteArray) : Prop := weaV w = true ∧ w ≠ bs []
theorem full_of {d s v b : Int} {w c : ByteArray} (h1 : PW d s) (h2 : PV v) (h3 : PE w) (h4 : cloudV c b = true) (h5 : c ≠ bs []) : fullV d s v w c b = true := by
  obtain ⟨a1, a2⟩ := h1
  obtain ⟨b1, b2⟩ := h2
  obtain ⟨c1, c2⟩ := h3
  simp only [fullV, skyV, a1, c1, h4, Bool.true_and, Bool.and_true, Bool.and_eq_true, decide_eq_true_eq]
  exact ⟨⟨by omega, b2⟩, a2, by omega, c2, h5⟩
theorem sky17 {f : Bool} {a1 : List Int} {a2 : Int} {a3 : Int} {a4 : Int} {a5 : Int} {a6 : ByteArray} {a7 : ByteArray} {a8 : Int} {a9 : Int} {a10 : Int} {a11 : Int} {a12 : ByteArray} {a13 : ByteArray} {a14 : Int} (hr : Rdr a1 a2) (h : f = true → fullV a9 a10 a11 a12 a13 a14 = true) : AnsE (SkQ f) (fun k => spec_l1Rd_sky_L17 k a1 a2 a3 a4 a5 a6 a7 a8 a9 a10 a11 a12 a13 a14) := by
  refine ansE_succ ?_
  simp only [spec_l1Rd_sky_L17]
  exact ansE_some ⟨hr, h⟩
theorem covers_all : ∀ x ∈ [bs [83, 75, 67], bs [70, 69, 87], bs [83, 67, 84], bs [66, 75, 78], bs [79, 86, 67]], x ≠ bs [] ∧ (x = bs [83, 75, 67] ∨ (L_impl_covers.any fun y => decide (x = y)) = true) := by
  intro x hx
  simp only [List.mem_cons, List.not_mem_nil, or_false] at hx
  rcases hx with rfl | rfl | rfl | rfl | rfl <;> decide
theorem wx_all : ∀ x ∈ [bs [78, 83, 87], bs [82, 65], bs [45, 82, 65], bs [43, 82, 65], bs [83, 78], bs [45, 83, 78], bs [43, 83, 78], bs [84, 83, 82, 65], bs [70, 71], bs [66, 82]], PE x := by
  intro x hx
  simp only [List.mem_cons, List.not_mem_nil, or_false] at hx
  rcases hx with rfl | rfl | rfl | rfl | rfl | rfl | rfl | rfl | rfl | rfl <;> exact ⟨by decide, by decide⟩
theorem cov13 {f : Bool} {a1 : List Int} {a2 : Int} {a3 : Int}  {a4 : Int}  {a5 : Int}  {a6 : ByteArray}  {a7 : ByteArray}  {a8 : Int}  {a9 : Int}  {a10 : Int}  {a11 : Int}  {a12 : ByteArray}  {a14 : Int} (hr : Rdr a1 a2) (h : f = true → PW a9 a10 ∧ PV a11 ∧ PE a12 ∧ a14 = 0) : AnsE (SkQ f) (fun k => (spec_l1Rd_below 5 a1 a2).bind fun val => bif decide (0 ≤ val.fst) then bif decide (val.fst < (↑[bs [83, 75, 67], bs [70, 69, 87], bs [83, 67, 84], bs [66, 75, 78], bs [79, 86, 67]].length : Int)) then bif decide (val.fst < (↑[bs [83, 75, 67], bs [70, 69, 87], bs [83, 67, 84], bs [66, 75, 78], bs [79, 86, 67]].length : Int)) then bif !ByteArray.toList (rd Kind.str [bs [83, 75, 67], bs [70, 69, 87], bs [83, 67, 84], bs [66, 75, 78], bs [79, 86, 67]] val.fst) == (bs [83, 75, 67]).toList then (spec_l1Rd_below 200 val.snd.fst val.snd.snd).bind fun val_1 => spec_l1Rd_sky_L17 k val_1.snd.fst val_1.snd.snd a3 a4 a5 a6 a7 a8 a9 a10 a11 a12 (rd Kind.str [bs [83, 75, 67], bs [70, 69, 87], bs [83, 67, 84], bs [66, 75, 78], bs [79, 86, 67]] val.fst) (IntKind.i64.wrap (1 + val_1.fst)) else spec_l1Rd_sky_L17 k val.snd.fst val.snd.snd a3 a4 a5 a6 a7 a8 a9 a10 a11 a12 (rd Kind.str [bs [83, 75, 67], bs [70, 69, 87], bs [83, 67, 84], bs [66, 75, 78], bs [79, 86, 67]] val.fst) a14 else none else none else none) := by
  refine ansE_bind (below_good 5 (by omega) hr) fun y hy => ?_
  have h5 : y.1 < 5 := hy.2.2.2.1 (by omega)
  refine ansE_chk (chk_le hy.2.1) (ansE_chk (chk_lt h5) (ansE_chk (chk_lt h5) ?_))
  have hm := covers_all _ (rd_in (k := Kind.str) (xs := [bs [83, 75, 67], bs [70, 69, 87], bs [83, 67, 84], bs [66, 75, 78], bs [79, 86, 67]]) hy.2.1 h5)
  generalize rd Kind.str [bs [83, 75, 67], bs [70, 69, 87], bs [83, 67, 84], bs [66, 75, 78], bs [79, 86, 67]] y.1 = x at hm ⊢
  refine ansE_bif (fun hx => ?_) (fun hx => ?_)
  · simp only [beq_bytes, Bool.not_eq_true', decide_eq_false_iff_not] at hx
    refine ansE_bind (below_good 200 (by omega) hy.1) fun z hz => ?_
    have h6 : z.1 < 200 := hz.2.2.2.1 (by omega)
    refine sky17 hz.1 fun hf => ?_
    obtain ⟨k1, k2, k3, _⟩ := h hf
    refine full_of k1 k2 k3 ?_ hm.1
    rw [w64 (by omega) (by omega)]
    unfold cloudV
    rw [if_neg (fun hc => hc.elim hm.1 hx), hm.2.resolve_left hx]
    simp only [Bool.true_and, Bool.and_eq_true, decide_eq_true_eq]
    omega
  · simp only [beq_bytes, Bool.not_eq_false', decide_eq_true_eq] at hx
    refine sky17 hy.1 fun hf => ?_
    obtain ⟨k1, k2, k3, k4⟩ := h hf
    refine full_of k1 k2 k3 ?_ hm.1
    unfold cloudV
    rw [if_pos (.inr hx), k4]
    rfl
theorem unsaid_eqn : spec_l21Unsaid = some (-1, 0, -1, bs [], bs [], 0) := rfl
theorem sky13 {f : Bool} {a1 : List Int} {a2 : Int} {a3 : Int} {a4 : Int} {a5 : Int} {a6 : ByteArray} {a7 : ByteArray} {a8 : Int} {a9 : Int} {a10 : Int} {a11 : Int} {a12 : ByteArray} {a13 : ByteArray} {a14 : Int} (hr : Rdr a1 a2) (h : f = true → PW a9 a10 ∧ PV a11 ∧ PE a12 ∧ a14 = 0) : AnsE (SkQ f) (fun k => spec_l1Rd_sky_L13 k f a1 a2 a3 a4 a5 a6 a7 a8 a9 a10 a11 a12 a13 a14) := by
  refine ansE_succ ?_
  simp only [spec_l1Rd_sky_L13]
  refine ansE_bif (fun _ => cov13 hr h) fun h0 => ?_
  have hv : ∀ {p : Prop}, f = true → p := fun hf => by rw [h0] at hf; cases hf
  refine ansE_bind (once_good 2 (by omega) hr) fun y hy => ansE_bif (fun _ => cov13 hy hv) fun _ => ?_
  refine ansE_bind (P := fun _ => True) ⟨_, unsaid_eqn, trivial⟩ fun z _ => ansE_bif (fun _ => cov13 hy hv) fun _ => sky17 hy hv
theorem wx11 {f : Bool} {a1 : List Int} {a2 : Int} {a3 : Int}  {a4 : Int}  {a5 : Int}  {a6 : ByteArray}  {a7 : ByteArray}  {a8 : Int}  {a9 : Int}  {a10 : Int}  {a11 : Int}  {a13 : ByteArray}  {a14 : Int} (hr : Rdr a1 a2) (h : f = true → PW a9 a10 ∧ PV a11 ∧ a14 = 0) : AnsE (SkQ f) (fun k => (spec_l1Rd_below 10 a1 a2).bind fun val => bif decide (0 ≤ val.fst) then bif decide (val.fst < (↑[bs [78, 83, 87], bs [82, 65], bs [45, 82, 65], bs [43, 82, 65], bs [83, 78], bs [45, 83, 78], bs [43, 83, 78], bs [84, 83, 82, 65], bs [70, 71], bs [66, 82]].length : Int)) then bif decide (val.fst < (↑[bs [78, 83, 87], bs [82, 65], bs [45, 82, 65], bs [43, 82, 65], bs [83, 78], bs [45, 83, 78], bs [43, 83, 78], bs [84, 83, 82, 65], bs [70, 71], bs [66, 82]].length : Int)) then spec_l1Rd_sky_L13 k f val.snd.fst val.snd.snd a3 a4 a5 a6 a7 a8 a9 a10 a11 (rd Kind.str [bs [78, 83, 87], bs [82, 65], bs [45, 82, 65], bs [43, 82, 65], bs [83, 78], bs [45, 83, 78], bs [43, 83, 78], bs [84, 83, 82, 65], bs [70, 71], bs [66, 82]] val.fst) a13 a14 else none else none else none) := by
  refine ansE_bind (below_good 10 (by omega) hr) fun y hy => ?_
  have h5 : y.1 < 10 := hy.2.2.2.1 (by omega)
  refine ansE_chk (chk_le hy.2.1) (ansE_chk (chk_lt h5) (ansE_chk (chk_lt h5) ?_))
  have hm := wx_all _ (rd_in (k := Kind.str) (xs := [bs [78, 83, 87], bs [82, 65], bs [45, 82, 65], bs [43, 82, 65], bs [83, 78], bs [45, 83, 78], bs [43, 83, 78], bs [84, 83, 82, 65], bs [70, 71], bs [66, 82]]) hy.2.1 h5)
  exact sky13 hy.1 fun hf => ⟨(h hf).1, (h hf).2.1, hm, (h hf).2.2⟩
theorem sky11 {f : Bool} {a1 : List Int} {a2 : Int} {a3 : Int} {a4 : Int} {a5 : Int} {a6 : ByteArray} {a7 : ByteArray} {a8 : Int} {a9 : Int} {a10 : Int} {a11 : Int} {a12 : ByteArray} {a13 : ByteArray} {a14 : Int} (hr : Rdr a1 a2) (h : f = true → PW a9 a10 ∧ PV a11 ∧ a14 = 0) : AnsE (SkQ f) (fun k => spec_l1Rd_sky_L11 k f a1 a2 a3 a4 a5 a6 a7 a8 a9 a10 a11 a12 a13 a14) := by
  refine ansE_succ ?_
  simp only [spec_l1Rd_sky_L11]
  refine ansE_bif (fun _ => wx11 hr h) fun h0 => ?_
  have hv : ∀ {p : Prop}, f = true → p := fun hf => by rw [h0] at hf; cases hf
  exact ansE_bind (once_good 2 (by omega) hr) fun y hy => ansE_bif (fun _ => wx11 hy hv) fun _ => sky13 hy hv
theorem vis7 {f : Bool} {a1 : List Int} {a2 : Int} {a3 : Int}  {a4 : Int}  {a5 : Int}  {a6 : ByteArray}  {a7 : ByteArray}  {a8 : Int}  {a9 : Int}  {a10 : Int}  {a12 : ByteArray}  {a13 : ByteArray}  {a14 : Int} (hr : Rdr a1 a2) (h : f = true → PW a9 a10 ∧ a14 = 0) : AnsE (SkQ f) (fun k => (spec_l1Rd_below 100 a1 a2).bind fun val => (spec_l1Rd_once 3 val.snd.fst val.snd.snd).bind fun val_1 => bif val_1.fst then spec_l1Rd_sky_L11 k f val_1.snd.fst val_1.snd.snd a3 a4 a5 a6 a7 a8 a9 a10 9999 a12 a13 a14 else spec_l1Rd_sky_L11 k f val_1.snd.fst val_1.snd.snd a3 a4 a5 a6 a7 a8 a9 a10 (IntKind.i64.wrap (val.fst * 100)) a12 a13 a14) := by
  refine ansE_bind (below_good 100 (by omega) hr) fun y hy => ansE_bind (once_good 3 (by omega) hy.1) fun z hz => ansE_bif (fun _ => ?_) fun _ => ?_
  · exact sky11 hz fun hf => ⟨(h hf).1, by unfold PV; omega, (h hf).2⟩
  · have h5 : y.1 < 100 := hy.2.2.2.1 (by omega)
    refine sky11 hz fun hf => ⟨(h hf).1, ?_, (h hf).2⟩
    have := hy.2.1
    rw [w64 (by omega) (by omega)]
    unfold PV; omega
theorem sky7 {f : Bool} {a1 : List Int} {a2 : Int} {a3 : Int} {a4 : Int} {a5 : Int} {a6 : ByteArray} {a7 : ByteArray} {a8 : Int} {a9 : Int} {a10 : Int} {a11 : Int} {a12 : ByteArray} {a13 : ByteArray} {a14 : Int} (hr : Rdr a1 a2) (h : f = true → PW a9 a10 ∧ a14 = 0) : AnsE (SkQ f) (fun k => spec_l1Rd_sky_L7 k f a1 a2 a3 a4 a5 a6 a7 a8 a9 a10 a11 a12 a13 a14) := by
  refine ansE_succ ?_
  simp only [spec_l1Rd_sky_L7]
  refine ansE_bif (fun _ => vis7 hr h) fun h0 => ?_
  have hv : ∀ {p : Prop}, f = true → p := fun hf => by rw [h0] at hf; cases hf
  exact ansE_bind (once_good 2 (by omega) hr) fun y hy => ansE_bif (fun _ => vis7 hy hv) fun _ => sky11 hy hv
theorem windF {f : Bool} {a1 : List Int} {a2 : Int} {val : Int × Int × Int × ByteArray × ByteArray × Int} (hr : Rdr a1 a2) (hval : val.2.2.2.2.2 = 0) : AnsE (SkQ f) (fun k => (spec_l1Rd_below 36 a1 a2).bind fun val_1 => (spec_l1Rd_below 3 val_1.snd.fst val_1.snd.snd).bind fun val_2 => bif decide (0 ≤ val_2.fst) then bif decide (val_2.fst < (↑[IntKind.i64.wrap (1 + val_1.fst), 99, 0].length : Int)) then bif decide (val_2.fst < (↑[IntKind.i64.wrap (1 + val_1.fst), 99, 0].length : Int)) then (spec_l1Rd_below 60 val_2.snd.fst val_2.snd.snd).bind fun val_3 => bif rd (Kind.int IntKind.i64) [IntKind.i64.wrap (1 + val_1.fst), 99, 0] val_2.fst == 0 then spec_l1Rd_sky_L7 k f val_3.snd.fst val_3.snd.snd 0 0 0 (bs []) (bs []) 0 (rd (Kind.int IntKind.i64) [IntKind.i64.wrap (1 + val_1.fst), 99, 0] val_2.fst) 0 val.snd.snd.fst val.snd.snd.snd.fst val.snd.snd.snd.snd.fst val.snd.snd.snd.snd.snd else spec_l1Rd_sky_L7 k f val_3.snd.fst val_3.snd.snd 0 0 0 (bs []) (bs []) 0 (rd (Kind.int IntKind.i64) [IntKind.i64.wrap (1 + val_1.fst), 99, 0] val_2.fst) (IntKind.i64.wrap (1 + val_3.fst)) val.snd.snd.fst val.snd.snd.snd.fst val.snd.snd.snd.snd.fst val.snd.snd.snd.snd.snd else none else none else none) := by
  refine ansE_bind (below_good 36 (by omega) hr) fun u hu => ansE_bind (below_good 3 (by omega) hu.1) fun y hy => ?_
  have h1 : u.1 < 36 := hu.2.2.2.1 (by omega)
  have h5 : y.1 < 3 := hy.2.2.2.1 (by omega)
  refine ansE_chk (chk_le hy.2.1) (ansE_chk (chk_lt h5) (ansE_chk (chk_lt h5) ?_))
  have hm := rd_in (k := Kind.int IntKind.i64) (xs := [IntKind.i64.wrap (1 + u.1), 99, 0]) hy.2.1 h5
  generalize rd (Kind.int IntKind.i64) [IntKind.i64.wrap (1 + u.1), 99, 0] y.1 = x at hm ⊢
  rw [w64 (n := 1 + u.1) (by omega) (by omega)] at hm
  simp only [List.mem_cons, List.not_mem_nil, or_false] at hm
  have hu0 := hu.2.1
  have hm' : ∃ i : Int, i = x ∧ (i = 1 + u.1 ∨ i = 99 ∨ i = 0) := ⟨x, rfl, hm⟩
  obtain ⟨i, hi, hm'⟩ := hm'
  subst hi
  refine ansE_bind (below_good 60 (by omega) hy.1) fun z hz => ansE_bif (fun hx => ?_) fun hx => ?_
  · simp only [beqI, decide_eq_true_eq] at hx
    subst hx
    exact sky7 hz.1 fun _ => ⟨⟨by decide, by decide⟩, hval⟩
  · simp only [beqI, decide_eq_false_iff_not] at hx
    have h6 : z.1 < 60 := hz.2.2.2.1 (by omega)
    have hz0 := hz.2.1
    refine sky7 hz.1 fun _ => ⟨⟨?_, by omega⟩, hval⟩
    rw [w64 (by omega) (by omega)]
    unfold windV
    rw [if_neg (by omega)]
    simp only [Bool.and_eq_true, Bool.or_eq_true, decide_eq_true_eq]
    omega
theorem sky_good {f : Bool} {a1 : List Int} {a2 : Int} (hr : Rdr a1 a2) : Answ (SkQ f) (spec_l1Rd_sky f a1 a2) := by
  refine ansE_evF ?_
  unfold spec_l1Rd_sky_F
  refine ansE_bind (P := fun x => x.2.2.2.2.2 = 0) ⟨_, unsaid_eqn, rfl⟩ fun val hval => ansE_bif (fun _ => windF hr hval) fun h0 => ?_
  have hv : ∀ {p : Prop}, f = true → p := fun hf => by rw [h0] at hf; cases hf
  exact ansE_bind (once_good 2 (by omega) hr) fun y hy => ansE_bif (fun _ => windF hy hval) fun _ => sky7 hy hv
end Go.Proofs.YtondfjckadlabaaGreatDoor.TB

namespace Go.Proofs.YtondfjckadlabaaGreatDoor.TB
open Go Go.Eng Go.Proofs.YtondfjckadlabaaGreatDoor.DT Go.Proofs.YtondfjckadlabaaGreatDoor.NU Go.Proofs.YtondfjckadlabaaGreatDoor.SA Go.Proofs.YtondfjckadlabaaGreatDoor.TT Go.Proofs.YtondfjckadlabaaGreatDoor.RT Go.Proofs.YtondfjckadlabaaGreatDoor.DR Go.Proofs.YtondfjckadlabaaGreatDoor.EX
/-! ### a drawn forecast -/
abbrev TR := ByteArray × Int × Int × Int × Int × Int × Int × ByteArray × ByteArray × Int × (List Int) × Int × List Ch
def TQ (y : TR) : Prop := Rdr y.2.2.2.2.2.2.2.2.2.2.1 y.2.2.2.2.2.2.2.2.2.2.2.1 ∧ tafV y.1 y.2.1 y.2.2.1 y.2.2.2.1 y.2.2.2.2.1 y.2.2.2.2.2.1 y.2.2.2.2.2.2.1 y.2.2.2.2.2.2.2.1 y.2.2.2.2.2.2.2.2.1 y.2.2.2.2.2.2.2.2.2.1 y.2.2.2.2.2.2.2.2.2.2.2.2 = true
theorem taf_loop {a0 a1 n : Int} {a7 : ByteArray} {a8 : Int} {a9 : Int} {a10 : Int} {a11 : Int} {a12 : Int} {a13 : Int} {a14 : ByteArray} {a15 : ByteArray} {a16 : Int} {a17 : List Ch} (hn : n ≤ 65536) : ∀ (m i : Nat) (a3 : Int) (l : List Int) (p : Int) (a18 : ByteArray) (a19 : Int) (a20 : Int) (a21 : Int) (a22 : Int) (a23 : Int) (a24 : Int) (a25 : ByteArray) (a26 : ByteArray) (a27 : Int) (a28 : List Ch), (n - (i : Int)).toNat ≤ m → Rdr l p → tafV a18 a19 a20 a21 a22 a23 a24 a25 a26 a27 a28 = true →
    AnsE TQ (fun k => spec_l1Rd_taf_L8 k a0 a1 n a3 (i : Int) l p a7 a8 a9 a10 a11 a12 a13 a14 a15 a16 a17 a18 a19 a20 a21 a22 a23 a24 a25 a26 a27 a28) := by
  intro m
  induction m with
  | zero =>
    intro i a3 l p a18 a19 a20 a21 a22 a23 a24 a25 a26 a27 a28 hm hr hv
    refine ansE_succ ?_
    simp only [spec_l1Rd_taf_L8, show ¬ ((i : Int) < n) by omega, decide_false, cond_false]
    exact ansE_some ⟨hr, hv⟩
  | succ m ih =>
    intro i a3 l p a18 a19 a20 a21 a22 a23 a24 a25 a26 a27 a28 hm hr hv
    refine ansE_succ ?_
    simp only [spec_l1Rd_taf_L8]
    refine ansE_bif (fun hlt => ?_) fun _ => ansE_some ⟨hr, hv⟩
    have hlt := of_decide_eq_true hlt
    have hlen := taf_len hv
    have l16 : ∀ (a3 : Int) (l : List Int) (p : Int) (c0 : Int) (c1 : Int) (c2 : Int) (c3 : Int) (c4 : Int) (c5 : Int) (c6 : ByteArray) (c7 : ByteArray) (c8 : Int), Rdr l p → AnsE TQ (fun k => spec_l1Rd_taf_L16 k a0 a1 n a3 (i : Int) l p a7 a8 a9 a10 a11 a12 a13 a14 a15 a16 a17 a18 a19 a20 a21 a22 a23 a24 a25 a26 a27 c0 c1 c2 c3 c4 c5 c6 c7 c8 a28) := by
      intro a3 l p c0 c1 c2 c3 c4 c5 c6 c7 c8 hr
      refine ansE_succ ?_
      simp only [spec_l1Rd_taf_L16, spec_TafOk_eq, Option.bind_some, wsucc (show i < 9223372036854775807 by omega), mb88]
      refine ansE_chk (decide_eq_true (by omega)) (ansE_chk (decide_eq_true (by simp only [List.nil_append, List.length_singleton]; omega)) ?_)
      exact ansE_bif (fun hb => ih (i + 1) _ _ _ _ _ _ _ _ _ _ _ _ _ _ (by omega) hr hb) fun _ => ih (i + 1) _ _ _ _ _ _ _ _ _ _ _ _ _ _ (by omega) hr hv
    refine ansE_bind (below_good 4 (by omega) hr) fun y hy => ansE_bind (below_good 4 (by omega) hy.1) fun z hz => ansE_bind (sky_good hz.1) fun s hs => ansE_bif (fun _ => ?_) fun _ => ?_
    · exact ansE_bind (below_good 60 (by omega) hs.1) fun u hu => ansE_bind (sky_good hu.1) fun s' hs' => l16 _ _ _ _ _ _ _ _ _ _ _ _ hs'.1
    · exact ansE_bind (below_good 3 (by omega) hs.1) fun u hu => l16 _ _ _ _ _ _ _ _ _ _ _ _ hu.1
theorem centre_ok : centreV (bs [65, 77, 77, 67]) = true := by decide
theorem taf_init {F v1 v2 d s v : Int} {w c : ByteArray} {b : Int} (h1 : 1440 ≤ F ∧ F ≤ 52593840) (h6 : F % 60 = 0) (hv1 : 0 ≤ v1 ∧ v1 < 90) (hv2 : 0 ≤ v2 ∧ v2 < 30) (hs : fullV d s v w c b = true) :
    tafV (bs [65, 77, 77, 67]) (IntKind.i64.wrap (F - v1)) F (IntKind.i64.wrap (F + IntKind.i64.wrap (60 * IntKind.i64.wrap (1 + v2)))) d s v w c b [] = true := by
  have e1 : IntKind.i64.wrap (1 + v2) = 1 + v2 := w64 (by omega) (by omega)
  have e2 : IntKind.i64.wrap (60 * (1 + v2)) = 60 * (1 + v2) := w64 (by omega) (by omega)
  rw [e1, e2, w64 (n := F - v1) (by omega) (by omega), w64 (n := F + 60 * (1 + v2)) (by omega) (by omega)]
  have t1 : F.tmod 60 = 0 := by rw [Int.tmod_eq_emod_of_nonneg (by omega)]; exact h6
  have t2 : (F + 60 * (1 + v2)).tmod 60 = 0 := by rw [Int.tmod_eq_emod_of_nonneg (by omega)]; omega
  simp only [tafV, spanV, centre_ok, t1, t2, hs, chs, List.length_nil, Bool.true_and, Bool.and_true, Bool.and_eq_true, decide_eq_true_eq, Bool.not_eq_true', Bool.not_eq_false', decide_true, Bool.not_true, Bool.not_false, decide_eq_false_iff_not]
  omega
theorem from_ok {T : Int} (hT : 0 ≤ T ∧ T ≤ 52596000) : ∃ F : Int, (1440 ≤ F ∧ F ≤ 52593840) ∧ F % 60 = 0 ∧
    (if 52593840 < if 1440 > IntKind.i64.wrap (IntKind.i64.wrap (T.tdiv 60) * 60) then 1440 else IntKind.i64.wrap (IntKind.i64.wrap (T.tdiv 60) * 60) then 52593840 else if 1440 > IntKind.i64.wrap (IntKind.i64.wrap (T.tdiv 60) * 60) then 1440 else IntKind.i64.wrap (IntKind.i64.wrap (T.tdiv 60) * 60)) = F := by
  refine ⟨_, ?_, ?_, rfl⟩ <;> rw [Int.tdiv_eq_ediv_of_nonneg hT.1, w64 (n := T / 60) (by omega) (by omega), w64 (n := T / 60 * 60) (by omega) (by omega)] <;> split <;> split <;> omega
theorem taf_good {l : List Int} {p : Int} (hr : Rdr l p) : Answ TQ (spec_l1Rd_taf l p) := by
  refine ansE_evF ?_
  unfold spec_l1Rd_taf_F
  refine ansE_bind (time_good hr) fun t ht => ansE_bind (below_good 90 (by omega) ht.1) fun u hu => ansE_bind (below_good 30 (by omega) hu.1) fun v hv => ansE_bind (sky_good (f := true) hv.1) fun s hs => ansE_bind (size_good 12 6 (by omega) (by omega) hs.1) fun z hz => ?_
  obtain ⟨F, hF, h6, e⟩ := from_ok ht.2
  rw [e]
  have hi := taf_init hF h6 ⟨hu.2.1, hu.2.2.2.1 (by omega)⟩ ⟨hv.2.1, hv.2.2.2.1 (by omega)⟩ (hs.2 rfl)
  exact taf_loop (by omega) _ 0 _ _ _ _ _ _ _ _ _ _ _ _ _ _ (Nat.le_refl _) hz.1 hi
/-! ### a drawn forecast with a fault -/
theorem fault25 {Q : TR → Prop} {l : List Int} {p : Int} {a7 : ByteArray} {a8 : Int} {a9 : Int} {a10 : Int} {a11 : Int} {a12 : Int} {a13 : Int} {a14 : ByteArray} {a15 : ByteArray} {a16 : Int} {a17 : List Ch} {a18 : ByteArray} {a19 : Int} {a20 : Int} {a21 : Int} {a22 : Int} {a23 : Int} {a24 : Int} {a25 : ByteArray} {a26 : ByteArray} {a27 : Int} {a28 : List Ch} (h : Q (a18, a19, a20, a21, a22, a23, a24, a25, a26, a27, l, p, a28)) : AnsE Q (fun k => spec_l21Draw_L25 k l p a7 a8 a9 a10 a11 a12 a13 a14 a15 a16 a17 a18 a19 a20 a21 a22 a23 a24 a25 a26 a27 a28) := by
  refine ansE_succ ?_
  simp only [spec_l21Draw_L25]
  exact ansE_some h
theorem fault22 {n : Int} {l : List Int} {p : Int} {a7 : ByteArray} {a8 : Int} {a9 : Int} {a10 : Int} {a11 : Int} {a12 : Int} {a13 : Int} {a14 : ByteArray} {a15 : ByteArray} {a16 : Int} {a17 : List Ch} {a18 : ByteArray} {a19 : Int} {a20 : Int} {a21 : Int} {a22 : Int} {a23 : Int} {a24 : Int} {a25 : ByteArray} {a26 : ByteArray} {a27 : Int}  (hn : n ≤ 65536) : ∀ (m i : Nat) (a28 : List Ch), (n - (i : Int)).toNat ≤ m → a28.length ≤ i → AnsE (fun _ => True) (fun k => spec_l21Draw_L22 k n (i : Int) l p a7 a8 a9 a10 a11 a12 a13 a14 a15 a16 a17 a18 a19 a20 a21 a22 a23 a24 a25 a26 a27 a28) := by
  intro m
  induction m with
  | zero =>
    intro i a28 hm hl
    refine ansE_succ ?_
    simp only [spec_l21Draw_L22, show ¬ ((i : Int) < n) by omega, decide_false, cond_false]
    exact fault25 trivial
  | succ m ih =>
    intro i a28 hm hl
    refine ansE_succ ?_
    simp only [spec_l21Draw_L22]
    refine ansE_bif (fun hlt => ?_) fun _ => fault25 trivial
    have hlt := of_decide_eq_true hlt
    refine ansE_chk (decide_eq_true (by rw [mb88]; simp only [List.length_singleton]; omega)) ?_
    simp only [wsucc (show i < 9223372036854775807 by omega)]
    exact ih (i + 1) _ (by omega) (by simp; omega)
theorem draw_good {l : List Int} {p : Int} (hr : Rdr l p) : Answ (fun _ => True) (spec_l21Draw l p) := by
  refine ansE_evF ?_
  unfold spec_l21Draw_F
  refine ansE_bind (taf_good hr) fun t ht => ansE_bind (below_good 24 (by omega) ht.1) fun u hu => ?_
  have hlen := taf_len ht.2
  refine ansE_bif (fun _ => fault25 trivial) fun _ => ansE_bif (fun _ => ?_) fun _ => ansE_bif (fun _ => fault25 trivial) fun _ => ansE_bif (fun _ => ?_) fun _ => ansE_bif (fun _ => ?_) fun _ => ansE_bif (fun _ => ?_) fun _ => ansE_bif (fun _ => ?_) fun _ => fault25 trivial
  · refine ansE_bind (below_good 4 (by omega) hu.1) fun z hz => ?_
    have h5 : z.1 < 4 := hz.2.2.2.1 (by omega)
    exact ansE_chk (chk_le hz.2.1) (ansE_chk (chk_lt h5) (ansE_chk (chk_lt h5) (fault25 trivial)))
  · refine ansE_bind (below_good 4 (by omega) hu.1) fun z hz => ?_
    have h5 : z.1 < 4 := hz.2.2.2.1 (by omega)
    exact ansE_chk (chk_le hz.2.1) (ansE_chk (chk_lt h5) (ansE_chk (chk_lt h5) (fault25 trivial)))
  · refine ansE_bif (fun h => ?_) fun _ => fault25 trivial
    have h' := of_decide_eq_true h
    refine ansE_chk (decide_eq_true h') (ansE_chk (decide_eq_true h') (ansE_chk (decide_eq_true h') ?_))
    exact ansE_bind (P := fun _ => True) ⟨_, setW_nat (n := 0) (by omega), trivial⟩ fun _ _ => fault25 trivial
  · refine ansE_bind (below_good 4 (by omega) hu.1) fun z hz => ?_
    have h5 : z.1 < 4 := hz.2.2.2.1 (by omega)
    refine ansE_chk (chk_le hz.2.1) (ansE_chk (chk_lt h5) (ansE_chk (chk_lt h5) (ansE_bind (P := fun _ => True) ⟨_, unsaid_eqn, trivial⟩ fun _ _ => ansE_chk (decide_eq_true ?_) (fault25 trivial))))
    rw [mb88]
    simp only [List.length_singleton]
    omega
  · refine ansE_bind (below_good 2 (by omega) hu.1) fun z hz => ?_
    have h5 : z.1 < 2 := hz.2.2.2.1 (by omega)
    have h0 := hz.2.1
    exact fault22 (by rw [w64 (by omega) (by omega)]; omega) _ 0 [] (Nat.le_refl _) (by simp)
/-! ### a drawn text -/
end Go.Proofs.YtondfjckadlabaaGreatDoor.TB
