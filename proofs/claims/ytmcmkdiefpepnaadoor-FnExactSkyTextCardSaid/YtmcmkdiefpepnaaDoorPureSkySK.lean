/-
  What the functions of a sky come to: both judgements of a sky, both texts. No condition but that numbers are int64.
-/
import Derived.Test.YtmcmkdiefpepnaaDoorXSK
import Derived.Test.YtmcmkdiefpepnaaDoorPureNumSK
import Derived.Lib.Join
namespace Go.Proofs.YtmcmkdiefpepnaaDoor.PKSK
set_option linter.unusedSimpArgs false
set_option linter.unusedVariables false
open Go Go.RowKit Go.Proofs.YtmcmkdiefpepnaaDoorW.PrintWords Go.Proofs.YtmcmkdiefpepnaaDoor.PB Go.Proofs.YtmcmkdiefpepnaaDoor.XSK Go.Proofs.YtmcmkdiefpepnaaDoor.Ext Go.Proofs.YtmcmkdiefpepnaaDoor.PNSK

theorem eq_lit (x : ByteArray) (l : List UInt8) : x = ⟨l.toArray⟩ ↔ L x = l := ⟨fun h => by rw [h, L_mk], fun h => L_inj (by rw [h, L_mk])⟩
theorem rd_get {l : List ByteArray} {i : Nat} (h : i < l.length) : rdOf ByteArray.empty l (i : Int) = l[i] := by
  unfold rdOf; rw [List.getD_eq_getElem?_getD, Int.toNat_natCast, List.getElem?_eq_getElem h]; rfl
def inB (a lo hi : Int) : Bool := decide (lo ≤ a ∧ a ≤ hi)
theorem l2In_eq (a b c : Int) : spec_l2In.f a b c = some (inB a b c) := by
  unfold spec_l2In.f inB; split <;> simp <;> omega
theorem in_eq (a b c : Int) : impl_in.f a b c = some (inB a b c) := by
  unfold impl_in.f inB; split <;> simp <;> omega
def windB (d s : Int) : Bool := if d = -1 ∨ d = 0 then decide (s = 0) else ((inB d 1 36 || decide (d = 99)) && inB s 1 99)
def weatherB (l : List UInt8) : Bool := decide (l = [] ∨ l = [78, 83, 87] ∨ l = [82, 65] ∨ l = [45, 82, 65] ∨ l = [43, 82, 65] ∨ l = [83, 78] ∨ l = [45, 83, 78] ∨ l = [43, 83, 78] ∨ l = [84, 83, 82, 65] ∨ l = [70, 71] ∨ l = [66, 82])
def coverB (l : List UInt8) : Bool := decide (l = [70, 69, 87] ∨ l = [83, 67, 84] ∨ l = [66, 75, 78] ∨ l = [79, 86, 67])
def cloudB (l : List UInt8) (b : Int) : Bool := if l = [] ∨ l = [83, 75, 67] then decide (b = 0) else (coverB l && inB b 1 200)
def skyB (d s v : Int) (w c : List UInt8) (b : Int) : Bool := windB d s && (inB v (-1) 9999 && (weatherB w && cloudB c b))

/-! ### the reference's judgement -/
theorem wind_j0 (x : Bool) (d s v : Int) (w c : ByteArray) (b : Int) (hx : x = true ↔ d = -1 ∨ d = 0) : Ev (fun k => spec_l21WindOk.j0 k x d s v w c b) (windB d s) := by
  refine ev_round (fun k => rfl) ?_
  by_cases h : x = true
  · refine ev_pos h (ev_const ?_)
    unfold windB; rw [if_pos (hx.1 h)]; rfl
  · refine ev_neg h (ev_const ?_)
    simp only [l2In_eq, Option.bind_some]
    unfold windB; rw [if_neg (fun q => h (hx.2 q))]
    by_cases h1 : inB d 1 36 = true
    · simp [h1]
    · by_cases h9 : d = 99
      · simp [h1, h9]
      · simp [h1, h9]
theorem wind_ev (d s v : Int) (w c : ByteArray) (b : Int) : Ev (fun k => spec_l21WindOk.f k d s v w c b) (windB d s) := by
  unfold spec_l21WindOk.f
  exact ev_same (fun h => wind_j0 _ _ _ _ _ _ _ (by simp [h])) (fun h => wind_j0 _ _ _ _ _ _ _ (by simp [h]))
theorem weather_eq (w : ByteArray) : spec_l21WeatherOk.f w = some (weatherB (L w)) := by
  unfold spec_l21WeatherOk.f weatherB
  simp only [toList_L]
  repeat' split
  all_goals simp_all
theorem cloud_j0 (x : Bool) (d s v : Int) (w c : ByteArray) (b : Int) (hx : x = true ↔ L c = [] ∨ L c = [83, 75, 67]) : Ev (fun k => spec_l21CloudOk.j0 k c x d s v w c b) (cloudB (L c) b) := by
  refine ev_round (fun k => rfl) ?_
  by_cases h : x = true
  · refine ev_pos h (ev_const ?_)
    unfold cloudB; rw [if_pos (hx.1 h)]; rfl
  · refine ev_neg h (ev_const ?_)
    simp only [l2In_eq, Option.bind_some, toList_L]
    unfold cloudB coverB; rw [if_neg (fun q => h (hx.2 q))]
    repeat' split
    all_goals simp_all
theorem cloud_ev (d s v : Int) (w c : ByteArray) (b : Int) : Ev (fun k => spec_l21CloudOk.f k d s v w c b) (cloudB (L c) b) := by
  unfold spec_l21CloudOk.f
  simp only [toList_L]
  exact ev_same (fun h => cloud_j0 _ _ _ _ _ _ _ (by simp [h])) (fun h => cloud_j0 _ _ _ _ _ _ _ (by simp [h]))
theorem skyok_spec (d s v : Int) (w c : ByteArray) (b : Int) : Ev (fun k => spec_SkyOk.f k d s v w c b) (skyB d s v (L w) (L c) b) := by
  unfold spec_SkyOk.f
  refine Ev.bind (wind_ev d s v w c b) ?_
  simp only [l2In_eq, weather_eq, Option.bind_some]
  unfold skyB
  by_cases h1 : windB d s = true
  · refine ev_pos h1 ?_
    by_cases h2 : inB v (-1) 9999 = true
    · refine ev_pos h2 ?_
      by_cases h3 : weatherB (L w) = true
      · refine ev_pos h3 (Ev.bind (cloud_ev d s v w c b) (ev_eq (Ev.now _) ?_))
        simp [h1, h2, h3]
      · exact ev_neg h3 (ev_eq (Ev.now _) (by simp [h3]))
    · exact ev_neg h2 (ev_eq (Ev.now _) (by simp [h2]))
  · exact ev_neg h1 (ev_eq (Ev.now _) (by simp [h1]))

/-! ### the program's judgement -/
theorem index_ev (l : List ByteArray) (x : ByteArray) (hl : l.length ≤ 1000000) : ∀ (d i : Nat), l.length - i = d → i ≤ l.length → ∃ r, Ev (fun k => slices_Index_string_string.l0 k l x (l.length : Int) (i : Int)) r ∧ decide (r ≥ 0) = decide (L x ∈ (l.drop i).map L) := by
  intro d
  induction d with
  | zero =>
    intro i hd hi
    refine ⟨-1, ev_round (fun k => rfl) (ev_neg (by omega) (Ev.now _)), ?_⟩
    rw [List.drop_eq_nil_of_le (by omega)]; simp
  | succ d ih =>
    intro i hd hi
    have hlt : i < l.length := by omega
    by_cases h : x = l[i]
    · refine ⟨(i : Int), ev_round (fun k => rfl) (ev_pos (by omega) (ev_pos (by omega) (ev_pos (by omega) (ev_pos ?_ (Ev.now _))))), ?_⟩
      · rw [rd_get hlt, ← h]
      · rw [List.drop_eq_getElem_cons hlt, h, List.map_cons]; exact (decide_eq_true (by omega)).trans (decide_eq_true List.mem_cons_self).symm
    · obtain ⟨r, h1, h2⟩ := ih (i + 1) (by omega) (by omega)
      refine ⟨r, ev_round (fun k => rfl) (ev_pos (by omega) (ev_pos (by omega) (ev_pos (by omega) (ev_neg ?_ ?_)))), ?_⟩
      · rw [rd_get hlt, toList_L, toList_L]; exact fun q => h (L_inj q)
      · rw [w64 (by omega) (by omega)]; exact h1
      · have hn : ¬ L x = L l[i] := fun q => h (L_inj q)
        rw [List.drop_eq_getElem_cons hlt, h2, List.map_cons]; simp only [List.mem_cons, hn, false_or]
theorem contains_ev (l : List ByteArray) (x : ByteArray) (hl : l.length ≤ 1000000) : Ev (fun k => slices_Contains_string_string.f k l x) (decide (L x ∈ l.map L)) := by
  unfold slices_Contains_string_string.f slices_Index_string_string.f
  obtain ⟨r, h1, h2⟩ := index_ev l x hl l.length 0 (by omega) (by omega)
  exact Ev.bind h1 (ev_eq (Ev.now _) (by rw [h2]; simp))
theorem weatherL_mem (w : ByteArray) : decide (L w ∈ weatherL.map L) = (weatherB (L w) && !decide (L w = [])) := by
  rw [Bool.eq_iff_iff]
  unfold weatherL weatherB
  simp only [List.map_cons, List.map_nil, L_mk, List.mem_cons, List.not_mem_nil, or_false, Bool.and_eq_true, Bool.not_eq_true', decide_eq_true_eq, decide_eq_false_iff_not]
  constructor
  · intro h
    refine ⟨Or.inr h, fun q => ?_⟩
    rw [q] at h; simp at h
  · rintro ⟨h, h'⟩
    exact h.resolve_left h'
theorem coverL_mem (c : ByteArray) : decide (L c ∈ coverL.map L) = coverB (L c) := by
  rw [Bool.eq_iff_iff]
  unfold coverL coverB
  simp only [List.map_cons, List.map_nil, L_mk, List.mem_cons, List.not_mem_nil, or_false, decide_eq_true_eq]
theorem ok_j3 (x : Bool) (d s v : Int) (w c : ByteArray) (b : Int) (hx : x = true ↔ L c = [] ∨ L c = [83, 75, 67]) : Ev (fun k => impl_SkyOk.j3 k x d s v w c b) (cloudB (L c) b) := by
  refine ev_succ ?_
  simp only [impl_SkyOk.j3, in_eq, Option.bind_some]
  by_cases h : x = true
  · refine ev_pos h (ev_const ?_)
    unfold cloudB; rw [if_pos (hx.1 h)]; rfl
  · refine ev_neg h (Ev.bind (contains_ev _ _ (by decide)) ?_)
    rw [coverL_mem]
    unfold cloudB; rw [if_neg (fun q => h (hx.2 q))]
    by_cases h1 : coverB (L c) = true
    · exact ev_pos h1 (ev_eq (Ev.now _) (by simp [h1]))
    · exact ev_neg h1 (ev_eq (Ev.now _) (by simp [h1]))
theorem ok_j2 (x : Bool) (d s v : Int) (w c : ByteArray) (b : Int) : Ev (fun k => impl_SkyOk.j2 k x d s v w c b) (!x && cloudB (L c) b) := by
  refine ev_succ ?_
  simp only [impl_SkyOk.j2, toList_L]
  by_cases h : x = true
  · exact ev_pos h (ev_eq (Ev.now _) (by simp [h]))
  · refine ev_neg h (ev_eq (ev_same (fun h1 => ok_j3 _ d s v w c b (by simp [h1])) (fun h1 => ok_j3 _ d s v w c b (by simp [h1]))) (by simp [h]))
theorem ok_j1 (d s v : Int) (w c : ByteArray) (b : Int) : Ev (fun k => impl_SkyOk.j1 k d s v w c b) (inB v (-1) 9999 && (weatherB (L w) && cloudB (L c) b)) := by
  refine ev_succ ?_
  simp only [impl_SkyOk.j1, toList_L, in_eq, Option.bind_some]
  by_cases h : inB v (-1) 9999 = true
  · refine ev_pos h ?_
    by_cases h1 : L w = []
    · exact ev_pos h1 (ev_eq (ok_j2 _ d s v w c b) (by simp [h, h1, weatherB]))
    · refine ev_neg h1 (Ev.bind (contains_ev _ _ (by decide)) (ev_eq (ok_j2 _ d s v w c b) ?_))
      rw [weatherL_mem]; simp [h, h1]
  · exact ev_neg h (ev_eq (ok_j2 _ d s v w c b) (by simp [h]))
theorem ok_j0 (x : Bool) (d s v : Int) (w c : ByteArray) (b : Int) (hx : x = true ↔ d = -1 ∨ d = 0) : Ev (fun k => impl_SkyOk.j0 k x d s v w c b) (skyB d s v (L w) (L c) b) := by
  refine ev_succ ?_
  simp only [impl_SkyOk.j0, in_eq, Option.bind_some]
  unfold skyB windB
  by_cases h : x = true
  · refine ev_pos h ?_
    rw [if_pos (hx.1 h)]
    by_cases h1 : s = 0
    · exact ev_pos h1 (ev_eq (ok_j1 d s v w c b) (by simp [h1]))
    · exact ev_neg h1 (ev_eq (Ev.now _) (by simp [h1]))
  · refine ev_neg h ?_
    rw [if_neg (fun q => h (hx.2 q))]
    by_cases h1 : inB d 1 36 = true
    · refine ev_pos h1 ?_
      by_cases h2 : inB s 1 99 = true
      · exact ev_pos h2 (ev_eq (ok_j1 d s v w c b) (by simp [h1, h2]))
      · exact ev_neg h2 (ev_eq (Ev.now _) (by simp [h2]))
    · refine ev_neg h1 ?_
      by_cases h9 : d = 99
      · refine ev_pos h9 ?_
        by_cases h2 : inB s 1 99 = true
        · exact ev_pos h2 (ev_eq (ok_j1 d s v w c b) (by simp [h9, h2]))
        · exact ev_neg h2 (ev_eq (Ev.now _) (by simp [h2]))
      · exact ev_neg h9 (ev_eq (Ev.now _) (by simp [h9, h1]))
theorem skyok_impl (d s v : Int) (w c : ByteArray) (b : Int) : Ev (fun k => impl_SkyOk.f k d s v w c b) (skyB d s v (L w) (L c) b) := by
  unfold impl_SkyOk.f
  exact ev_same (fun h => ok_j0 _ _ _ _ _ _ _ (by simp [h])) (fun h => ok_j0 _ _ _ _ _ _ _ (by simp [h]))

/-! ### the texts -/
def JT : List ByteArray → List UInt8
  | [] => []
  | x :: t => 32 :: (L x ++ JT t)
theorem join_JT (x : ByteArray) (t : List ByteArray) : Lib.join ((x :: t).map L) [32] = L x ++ JT t := by
  rw [List.map_cons, Lib.join_cons]
  congr 1
  induction t with
  | nil => rfl
  | cons y t ih => rw [List.map_cons]; simp only [Lib.joinTail, List.map_cons, List.flatten_cons] at ih ⊢; rw [ih]; simp [JT]
theorem JT_len : ∀ (t : List ByteArray), (∀ x ∈ t, x.size ≤ 1000) → (JT t).length ≤ t.length * 1001
  | [], _ => by simp [JT]
  | x :: t, h => by
    have h1 := JT_len t (fun y hy => h y (by simp [hy]))
    have h2 := h x (by simp)
    simp only [JT, List.length_cons, List.length_append, L_length]
    omega
/-- The words of a list, a blank between them. -/
def W (l : List ByteArray) : ByteArray := ⟨(Lib.join (l.map L) [32]).toArray⟩
theorem join_eq (l : List ByteArray) (hl : l.length ≤ 1000) (hx : ∀ x ∈ l, x.size ≤ 1000) : strings_Join.f l ⟨#[32]⟩ = some (W l) := by
  unfold strings_Join.f
  have hb : (Lib.join (l.map (·.data.toList)) (⟨#[32]⟩ : ByteArray).data.toList).length ≤ 140737488355328 := by
    show (Lib.join (l.map L) [32]).length ≤ _
    cases l with
    | nil => simp [Lib.join_nil]
    | cons x t =>
      have h1 := JT_len t (fun y hy => hx y (by simp [hy]))
      have h2 := hx x (by simp)
      rw [join_JT, List.length_append, L_length]
      simp only [List.length_cons] at hl
      omega
  rw [if_pos ⟨by omega, hb⟩]; rfl
theorem words_l0 (l : List ByteArray) (hl : l.length ≤ 1000) (hx : ∀ x ∈ l, x.size ≤ 1000) : ∀ (d i : Nat) (s : ByteArray), l.length - i = d → 0 < i → i ≤ l.length → s.size ≤ i * 2000 →
    Ev (fun k => spec_l21Words.l0 k l s (i : Int)) ⟨(L s ++ JT (l.drop i)).toArray⟩ := by
  intro d
  induction d with
  | zero =>
    intro i s hd h0 hi hs
    refine ev_round (fun k => rfl) (ev_neg (by omega) (ev_eq (Ev.now _) ?_))
    rw [List.drop_eq_nil_of_le (by omega), JT, List.append_nil, mk_L]
  | succ d ih =>
    intro i s hd h0 hi hs
    have hlt : i < l.length := by omega
    have h1 := hx l[i] (List.getElem_mem hlt)
    have e1 : (⟨#[32]⟩ : ByteArray).size = 1 := rfl
    refine ev_round (fun k => rfl) (ev_pos (by omega) (ev_pos (by omega) (ev_pos (by omega) (ev_pos (by omega) (ev_pos ?_ ?_)))))
    · rw [rd_get hlt, ByteArray.size_append, e1]; omega
    · rw [rd_get hlt, w64 (by omega) (by omega)]
      refine ev_eq (ih (i + 1) _ (by omega) (by omega) (by omega) (by simp only [ByteArray.size_append, e1]; omega)) ?_
      rw [List.drop_eq_getElem_cons hlt]
      refine L_inj ?_
      simp only [L_mk, L_append, JT, List.append_assoc]
      rfl
theorem words_ev (l : List ByteArray) (hl : l.length ≤ 1000) (hx : ∀ x ∈ l, x.size ≤ 1000) : Ev (fun k => spec_l21Words.f k l) (W l) := by
  unfold spec_l21Words.f
  cases l with
  | nil => exact ev_round (fun k => rfl) (ev_neg (by simp) (ev_eq (Ev.now _) rfl))
  | cons x t =>
    have e0 : (⟨#[]⟩ : ByteArray).size = 0 := rfl
    have hr : rdOf ByteArray.empty (x :: t) 0 = x := rfl
    have h1 := hx x (by simp)
    refine ev_round (fun k => rfl) (ev_pos (by simp only [List.length_cons]; omega) (ev_neg (by omega) (ev_pos (by omega) (ev_pos (by rw [hr, e0]; omega) ?_))))
    rw [hr, w64 (by omega) (by omega)]
    refine ev_eq (words_l0 (x :: t) hl hx t.length 1 _ (by simp) (by omega) (by simp) (by rw [ByteArray.size_append, e0]; omega)) ?_
    unfold W
    rw [join_JT]
    refine L_inj ?_
    simp only [L_mk, L_append, List.drop_succ_cons, List.drop_zero]
    rfl
def G (n : Nat) (p : List ByteArray) : Prop := p.length ≤ n ∧ ∀ x ∈ p, x.size ≤ 100
theorem G.snoc {n : Nat} {p : List ByteArray} {x : ByteArray} (h : G n p) (hx : x.size ≤ 100) : G (n + 1) (p ++ [x]) :=
  ⟨by have := h.1; simp; omega, fun y hy => by rcases List.mem_append.1 hy with h1 | h1; exact h.2 y h1; rw [List.mem_singleton.1 h1]; exact hx⟩
theorem G.up {n m : Nat} {p : List ByteArray} (h : G n p) (hm : n ≤ m) : G m p := ⟨Nat.le_trans h.1 hm, h.2⟩
def padB (n : Int) (w : Nat) : ByteArray := ⟨(pad n w).toArray⟩
theorem padB_size (n : Int) (w : Nat) (h0 : -9223372036854775808 ≤ n) (h1 : n ≤ 9223372036854775807) (hw : w ≤ 20) : (padB n w).size ≤ 41 := by
  have := itoa_len h0 h1
  unfold padB; rw [size_mk]; unfold pad; rw [List.length_append, List.length_replicate]; omega
def windP (d s : Int) : List ByteArray := if d = 99 then [((⟨#[86, 82, 66]⟩ : ByteArray) ++ padB s 2) ++ ⟨#[75, 84]⟩] else if d ≥ 0 then [(padB (d * 10) 3 ++ padB s 2) ++ ⟨#[75, 84]⟩] else []
def visP (v : Int) : List ByteArray := if v ≥ 0 then [padB v 4] else []
def weaP (w : ByteArray) : List ByteArray := if L w = [] then [] else [w]
def cloP (c : ByteArray) (b : Int) : List ByteArray := if L c = [83, 75, 67] then [c] else if L c = [] then [] else [c ++ padB b 3]
def skyW (d s v : Int) (w c : ByteArray) (b : Int) : ByteArray := if skyB d s v (L w) (L c) b = true then W (windP d s ++ visP v ++ weaP w ++ cloP c b) else ⟨#[]⟩

/-- A good sky's bounds. -/
structure Good (d s v : Int) (w c : ByteArray) (b : Int) : Prop where
  hd : -1 ≤ d ∧ d ≤ 99
  hs : 0 ≤ s ∧ s ≤ 99
  hv : -1 ≤ v ∧ v ≤ 9999
  hw : w.size ≤ 4
  hc : c.size ≤ 3
  hb : 0 ≤ b ∧ b ≤ 200
theorem good_of {d s v : Int} {w c : ByteArray} {b : Int} (h : skyB d s v (L w) (L c) b = true) : Good d s v w c b := by
  unfold skyB at h
  simp only [Bool.and_eq_true] at h
  obtain ⟨h1, h2, h3, h4⟩ := h
  have hv : -1 ≤ v ∧ v ≤ 9999 := by unfold inB at h2; exact of_decide_eq_true h2
  have hw : w.size ≤ 4 := by
    rw [← L_length]
    unfold weatherB at h3
    have := of_decide_eq_true h3
    rcases this with h | h | h | h | h | h | h | h | h | h | h <;> rw [h] <;> simp
  have hcb : c.size ≤ 3 ∧ 0 ≤ b ∧ b ≤ 200 := by
    rw [← L_length]
    unfold cloudB coverB inB at h4
    split at h4
    · rename_i h
      have := of_decide_eq_true h4
      rcases h with h | h <;> rw [h] <;> simp <;> omega
    · simp only [Bool.and_eq_true] at h4
      have h5 := of_decide_eq_true h4.1
      have h6 := of_decide_eq_true h4.2
      rcases h5 with h | h | h | h <;> rw [h] <;> simp <;> omega
  have hds : (-1 ≤ d ∧ d ≤ 99) ∧ 0 ≤ s ∧ s ≤ 99 := by
    unfold windB inB at h1
    split at h1
    · have := of_decide_eq_true h1
      omega
    · simp only [Bool.and_eq_true, Bool.or_eq_true, decide_eq_true_eq] at h1
      omega
  exact ⟨hds.1, hds.2, hv, hw, hcb.1, hcb.2⟩
theorem padB_small (n : Int) (w : Nat) (h0 : 0 ≤ n) (h1 : n ≤ 100000) (hw : w ≤ 20) : (padB n w).size ≤ 41 := padB_size n w (by omega) (by omega) hw
theorem spec_pad {n : Int} {w : Nat} (h0 : 0 ≤ n) (h1 : n ≤ 100000) (hw : w ≤ 1000) : Ev (fun k => spec_l2Pad.f k n (w : Int)) (padB n w) := l2Pad_ev (by omega) (by omega) hw
theorem impl_pad {n : Int} {w : Nat} (h0 : 0 ≤ n) (h1 : n ≤ 100000) (hw : w ≤ 1000) : impl_fill.f n (w : Int) = some (padB n w) := fill_eq (by omega) (by omega) hw
theorem G.words {n : Nat} {p : List ByteArray} (h : G n p) (hn : n ≤ 1000) : Ev (fun k => spec_l21Words.f k p) (W p) := words_ev p (by have := h.1; omega) (fun x hx => Nat.le_trans (h.2 x hx) (by omega))
theorem G.join {n : Nat} {p : List ByteArray} (h : G n p) (hn : n ≤ 1000) : strings_Join.f p ⟨#[32]⟩ = some (W p) := join_eq p (by have := h.1; omega) (fun x hx => Nat.le_trans (h.2 x hx) (by omega))
theorem st_j2 (p : List ByteArray) (d s v : Int) (w c : ByteArray) (b : Int) (g : Good d s v w c b) (hp : G 5 p) : Ev (fun k => spec_SkyText.j2 k p d s v w c b) (W (p ++ cloP c b)) := by
  have hl := hp.1
  have hz := padB_small b 3 g.hb.1 (by have := g.hb.2; omega) (by omega)
  have hc := g.hc
  refine ev_succ ?_
  simp only [spec_SkyText.j2, toList_L]
  unfold cloP
  by_cases h1 : L c = [83, 75, 67]
  · rw [if_pos h1]
    exact ev_pos h1 (ev_pos (by omega) (Ev.bind ((hp.snoc (by omega)).words (by omega)) (Ev.now _)))
  · rw [if_neg h1]
    refine ev_neg h1 ?_
    by_cases h2 : L c = []
    · rw [if_pos h2, List.append_nil]
      exact ev_pos h2 (Ev.bind (hp.words (by omega)) (Ev.now _))
    · rw [if_neg h2]
      refine ev_neg h2 (Ev.bind (spec_pad (w := 3) g.hb.1 (by have := g.hb.2; omega) (by omega)) (ev_pos (by omega) (ev_pos (by omega) (Ev.bind ((hp.snoc ?_).words (by omega)) (Ev.now _)))))
      rw [ByteArray.size_append]; omega
theorem st_j1 (p : List ByteArray) (d s v : Int) (w c : ByteArray) (b : Int) (g : Good d s v w c b) (hp : G 4 p) : Ev (fun k => spec_SkyText.j1 k p d s v w c b) (W (p ++ weaP w ++ cloP c b)) := by
  have hl := hp.1
  have hw := g.hw
  refine ev_succ ?_
  simp only [spec_SkyText.j1, toList_L]
  unfold weaP
  by_cases h1 : L w = []
  · rw [if_pos h1, List.append_nil]
    exact ev_pos h1 (st_j2 p d s v w c b g (hp.up (by omega)))
  · rw [if_neg h1]
    exact ev_neg h1 (ev_pos (by omega) (st_j2 _ d s v w c b g (hp.snoc (by omega))))
theorem st_j0 (p : List ByteArray) (d s v : Int) (w c : ByteArray) (b : Int) (g : Good d s v w c b) (hp : G 3 p) : Ev (fun k => spec_SkyText.j0 k p d s v w c b) (W (p ++ visP v ++ weaP w ++ cloP c b)) := by
  have hl := hp.1
  refine ev_succ ?_
  simp only [spec_SkyText.j0]
  unfold visP
  by_cases h1 : v ≥ 0
  · rw [if_pos h1]
    have hz := padB_small v 4 h1 (by have := g.hv.2; omega) (by omega)
    exact ev_pos h1 (Ev.bind (spec_pad (w := 4) h1 (by have := g.hv.2; omega) (by omega)) (ev_pos (by omega) (st_j1 _ d s v w c b g (hp.snoc (by omega)))))
  · rw [if_neg h1, List.append_nil]
    exact ev_neg h1 (st_j1 p d s v w c b g (hp.up (by omega)))
theorem G.nil : G 0 [] := ⟨Nat.le_refl _, fun x hx => by simp at hx⟩
theorem text_spec (d s v : Int) (w c : ByteArray) (b : Int) : Ev (fun k => spec_SkyText.f k d s v w c b) (skyW d s v w c b) := by
  unfold spec_SkyText.f
  refine Ev.bind (skyok_spec d s v w c b) ?_
  unfold skyW
  by_cases h : skyB d s v (L w) (L c) b = true
  · have g := good_of h
    obtain ⟨⟨d0, d1⟩, ⟨s0, s1⟩, _, _, _, _⟩ := id g
    have e3 : (⟨#[86, 82, 66]⟩ : ByteArray).size = 3 := rfl
    have e2 : (⟨#[75, 84]⟩ : ByteArray).size = 2 := rfl
    have z1 := padB_small s 2 s0 (by omega) (by omega)
    rw [if_pos h]
    refine ev_pos h ?_
    simp only [Option.bind_some]
    unfold windP
    by_cases h9 : d = 99
    · rw [if_pos h9]
      refine ev_pos h9 (Ev.bind (spec_pad (w := 2) s0 (by omega) (by omega)) (ev_pos (by omega) (ev_pos (by rw [ByteArray.size_append, e3]; omega) (ev_pos (by simp) (st_j0 _ d s v w c b g ((G.nil.snoc ?_).up (by omega)))))))
      simp only [ByteArray.size_append, e3, e2]; omega
    · rw [if_neg h9]
      refine ev_neg h9 ?_
      by_cases h0 : d ≥ 0
      · rw [if_pos h0, w64 (by omega) (by omega)]
        have z2 := padB_small (d * 10) 3 (by omega) (by omega) (by omega)
        refine ev_pos h0 (Ev.bind (spec_pad (w := 3) (by omega) (by omega) (by omega)) (Ev.bind (spec_pad (w := 2) s0 (by omega) (by omega)) (ev_pos (by omega) (ev_pos (by rw [ByteArray.size_append]; omega) (ev_pos (by simp) (st_j0 _ d s v w c b g ((G.nil.snoc ?_).up (by omega))))))))
        simp only [ByteArray.size_append, e2]; omega
      · rw [if_neg h0]
        exact ev_neg h0 (st_j0 [] d s v w c b g (G.nil.up (by omega)))
  · rw [if_neg h]
    exact ev_neg h (Ev.now _)
theorem it_j2 (p : List ByteArray) (d s v : Int) (w c : ByteArray) (b : Int) (x0 x1 x2 : Bool) (g : Good d s v w c b) (hp : G 5 p) : Ev (fun k => impl_SkyText.j2 k p d s v w c b x0 x1 x2 (L c != [])) (W (p ++ cloP c b)) := by
  have hl := hp.1
  have hz := padB_small b 3 g.hb.1 (by have := g.hb.2; omega) (by omega)
  have hc := g.hc
  refine ev_succ ?_
  simp only [impl_SkyText.j2, toList_L]
  by_cases h1 : L c = [83, 75, 67]
  · rw [show cloP c b = [c] from if_pos h1]
    have e : (⟨#[83, 75, 67]⟩ : ByteArray) = c := L_inj (by rw [h1]; rfl)
    rw [e]
    refine ev_pos h1 (ev_pos (by omega) (ev_bindc ((hp.snoc (by omega)).join (by omega)) (Ev.now _)))
  · refine ev_neg h1 ?_
    by_cases h2 : L c = []
    · rw [show cloP c b = [] from (if_neg h1).trans (if_pos h2), List.append_nil]
      exact ev_neg (by simp [h2]) (ev_bindc (hp.join (by omega)) (Ev.now _))
    · rw [show cloP c b = [c ++ padB b 3] from (if_neg h1).trans (if_neg h2)]
      refine ev_pos (by simp [h2]) (ev_bindc (impl_pad (w := 3) g.hb.1 (by have := g.hb.2; omega) (by omega)) (ev_pos (by omega) (ev_pos (by omega) (ev_bindc ((hp.snoc ?_).join (by omega)) (Ev.now _)))))
      rw [ByteArray.size_append]; omega
theorem it_j1 (p : List ByteArray) (d s v : Int) (w c : ByteArray) (b : Int) (x0 x1 : Bool) (g : Good d s v w c b) (hp : G 4 p) : Ev (fun k => impl_SkyText.j1 k p d s v w c b x0 x1 (L w != []) (L c != [])) (W (p ++ weaP w ++ cloP c b)) := by
  have hl := hp.1
  have hw := g.hw
  refine ev_succ ?_
  simp only [impl_SkyText.j1]
  unfold weaP
  by_cases h1 : L w = []
  · rw [if_pos h1, List.append_nil]
    exact ev_neg (by simp [h1]) (it_j2 p d s v w c b x0 x1 _ g (hp.up (by omega)))
  · rw [if_neg h1]
    exact ev_pos (by simp [h1]) (ev_pos (by omega) (it_j2 _ d s v w c b x0 x1 _ g (hp.snoc (by omega))))
theorem it_j0 (p : List ByteArray) (d s v : Int) (w c : ByteArray) (b : Int) (x0 : Bool) (g : Good d s v w c b) (hp : G 3 p) : Ev (fun k => impl_SkyText.j0 k p d s v w c b x0 (v != -1) (L w != []) (L c != [])) (W (p ++ visP v ++ weaP w ++ cloP c b)) := by
  have hl := hp.1
  have hv := g.hv
  refine ev_succ ?_
  simp only [impl_SkyText.j0]
  unfold visP
  by_cases h1 : v ≥ 0
  · rw [if_pos h1]
    have hz := padB_small v 4 h1 (by omega) (by omega)
    have h2 : (v != -1) = true := by simp; omega
    exact ev_pos h2 (ev_bindc (impl_pad (w := 4) h1 (by omega) (by omega)) (ev_pos (by omega) (it_j1 _ d s v w c b x0 _ g (hp.snoc (by omega)))))
  · rw [if_neg h1, List.append_nil]
    have h2 : ¬ (v != -1) = true := by simp; omega
    exact ev_neg h2 (it_j1 p d s v w c b x0 _ g (hp.up (by omega)))
theorem text_impl (d s v : Int) (w c : ByteArray) (b : Int) : Ev (fun k => impl_SkyText.f k d s v w c b) (skyW d s v w c b) := by
  unfold impl_SkyText.f impl_said.f
  refine Ev.bind (skyok_impl d s v w c b) ?_
  unfold skyW
  by_cases h : skyB d s v (L w) (L c) b = true
  · have g := good_of h
    obtain ⟨⟨d0, d1⟩, ⟨s0, s1⟩, _, _, _, _⟩ := id g
    have e3 : (⟨#[86, 82, 66]⟩ : ByteArray).size = 3 := rfl
    have e2 : (⟨#[75, 84]⟩ : ByteArray).size = 2 := rfl
    have z1 := padB_small s 2 s0 (by omega) (by omega)
    rw [if_pos h]
    refine ev_pos h ?_
    simp only [Option.bind_some, toList_L]
    unfold windP
    by_cases h0 : d ≥ 0
    · have hm : (d != -1) = true := by simp; omega
      refine ev_pos hm ?_
      have e10 : (10 * d : Int) = d * 10 := Int.mul_comm _ _
      rw [e10, w64 (by omega) (by omega)]
      have z2 := padB_small (d * 10) 3 (by omega) (by omega) (by omega)
      refine ev_bindc (impl_pad (w := 3) (by omega) (by omega) (by omega)) ?_
      by_cases h9 : d = 99
      · rw [if_pos h9]
        refine ev_pos h9 (ev_bindc (impl_pad (w := 2) s0 (by omega) (by omega)) (ev_pos (by omega) (ev_pos (by rw [ByteArray.size_append, e3]; omega) (ev_pos (by simp) (it_j0 _ d s v w c b _ g ((G.nil.snoc ?_).up (by omega)))))))
        simp only [ByteArray.size_append, e3, e2]; omega
      · rw [if_neg h9, if_pos h0]
        refine ev_neg h9 (ev_bindc (impl_pad (w := 2) s0 (by omega) (by omega)) (ev_pos (by omega) (ev_pos (by rw [ByteArray.size_append]; omega) (ev_pos (by simp) (it_j0 _ d s v w c b _ g ((G.nil.snoc ?_).up (by omega)))))))
        simp only [ByteArray.size_append, e2]; omega
    · have hm : ¬ (d != -1) = true := by simp; omega
      rw [if_neg (by omega), if_neg h0]
      exact ev_neg hm (it_j0 [] d s v w c b _ g (G.nil.up (by omega)))
  · rw [if_neg h]
    exact ev_neg h (Ev.now _)
end Go.Proofs.YtmcmkdiefpepnaaDoor.PKSK
