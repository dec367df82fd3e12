/-
  The program's mark and both whole judgements of a heading; both texts of a heading. No condition but that texts are no longer than Go lets them be.
-/
import Derived.Test.YtmcmkdiefpepnaaDoorPureHeadHT
namespace Go.Proofs.YtmcmkdiefpepnaaDoor.PNHT
set_option linter.unusedSimpArgs false
set_option linter.unusedVariables false
open Go Go.RowKit Go.Proofs.YtmcmkdiefpepnaaDoorW.PrintWords Go.Proofs.YtmcmkdiefpepnaaDoor.PB Go.Proofs.YtmcmkdiefpepnaaDoor.XHT Go.Proofs.YtmcmkdiefpepnaaDoor.Ext

theorem capitals_eq (s : ByteArray) (n : Nat) (hs : s.size ≤ maxLen) : Ev (fun k => impl_capitals.f k s (n : Int)) (decide ((L s).length = n) && (L s).all up) :=
  ev_eq (capitals_ev s n hs) (by rw [L_length, Bool.and_comm])
theorem mark_impl_l (s : ByteArray) (x : List ByteArray) (a b c : UInt8) (habc : L s = [a, b, c]) (hx : x = [⟨#[82, 82]⟩, ⟨#[67, 67]⟩, ⟨#[65, 65]⟩]) (hc : up c = true) :
    Ev (fun k => impl_MarkOf.l0 k s x 3 0) (if a = b ∧ c.toNat ≤ 88 then (if a = 82 then (1, (c.toNat : Int) - 64) else if a = 67 then (2, (c.toNat : Int) - 64) else if a = 65 then (3, (c.toNat : Int) - 64) else (-1, 0)) else (-1, 0)) := by
  have hz := L_length s
  rw [habc] at hz
  have hsz : s.size = 3 := by rw [← hz]; rfl
  have b2 : bt s 2 = (c.toNat : Int) := by have := bt_nat s 2 (by rw [habc]; simp); simpa [habc] using this
  have nc := up_nat hc
  have ec : ((c.toNat : Int) - 65) % 256 + 1 = (c.toNat : Int) - 64 := by omega
  have e2 : L (s.extract 0 2) = [a, b] := by rw [L_extract, habc]; rfl
  have w1 : wrap64 (0 + 1) = 1 := w64 (n := 1) (by omega) (by omega)
  have w2 : wrap64 (1 + 1) = 2 := w64 (n := 2) (by omega) (by omega)
  have w3 : wrap64 (2 + 1) = 3 := w64 (n := 3) (by omega) (by omega)
  have l3 : (x.length : Int) = 3 := by rw [hx]; rfl
  have r0 : (rdOf ByteArray.empty x 0).toList = [82, 82] := by rw [hx, toList_L]; rfl
  have r1 : (rdOf ByteArray.empty x 1).toList = [67, 67] := by rw [hx, toList_L]; rfl
  have r2 : (rdOf ByteArray.empty x 2).toList = [65, 65] := by rw [hx, toList_L]; rfl
  have round : ∀ (i : Int) (n : UInt8) (j : Int) (v : Int × Int), 0 ≤ i → i < 3 → wrap64 (i + 1) = j → (rdOf ByteArray.empty x i).toList = [n, n] → Ev (fun k => impl_MarkOf.l0 k s x 3 j) v →
      Ev (fun k => impl_MarkOf.l0 k s x 3 i) (if a = n ∧ b = n ∧ c.toNat ≤ 88 then (j, (c.toNat : Int) - 64) else v) := by
    intro i n j v h0 h1 hw hr hv
    refine ev_succ ?_
    simp only [impl_MarkOf.l0, toList_L, e2, hw, b2, ec, hsz, l3]
    rw [← toList_L, hr]
    refine ev_pos h1 (ev_pos h0 (ev_pos h1 (ev_pos (by omega) (ev_pos (by omega) ?_))))
    by_cases hab : a = n ∧ b = n
    · refine ev_pos (by rw [hab.1, hab.2]) (ev_pos (by omega) ?_)
      by_cases hc8 : c.toNat ≤ 88
      · exact ev_eq (ev_pos (by omega) (Ev.now _)) (if_pos ⟨hab.1, hab.2, hc8⟩).symm
      · exact ev_eq (ev_neg (by omega) hv) (if_neg (fun h => hc8 h.2.2)).symm
    · refine ev_neg (fun h => hab (by simpa using h)) (ev_eq hv (if_neg (fun h => hab ⟨h.1, h.2.1⟩)).symm)
  have last : Ev (fun k => impl_MarkOf.l0 k s x 3 3) ((-1, 0) : Int × Int) := by
    refine ev_succ ?_
    simp only [impl_MarkOf.l0]
    exact ev_neg (by omega) (Ev.now _)
  refine ev_eq (round 0 82 1 _ (by omega) (by omega) w1 r0 (round 1 67 2 _ (by omega) (by omega) w2 r1 (round 2 65 3 _ (by omega) (by omega) w3 r2 last))) ?_
  by_cases h1 : a = 82
  · subst h1
    by_cases h2 : b = 82
    · subst h2; by_cases h3 : c.toNat ≤ 88 <;> simp [h3]
    · have : ¬ (82 : UInt8) = b := fun h => h2 h.symm
      simp [h2, this]
  · by_cases h1 : a = 67
    · subst h1
      by_cases h2 : b = 67
      · subst h2; by_cases h3 : c.toNat ≤ 88 <;> simp [h3]
      · have : ¬ (67 : UInt8) = b := fun h => h2 h.symm
        simp [h2, this]
    · by_cases h1 : a = 65
      · subst h1
        by_cases h2 : b = 65
        · subst h2; by_cases h3 : c.toNat ≤ 88 <;> simp [h3]
        · have : ¬ (65 : UInt8) = b := fun h => h2 h.symm
          simp [h2, this]
      · simp [*]
theorem mark_impl (s : ByteArray) (hs : s.size ≤ maxLen) : Ev (fun k => impl_MarkOf.f k s) (mark (L s)) := by
  unfold impl_MarkOf.f
  rw [toList_L]
  by_cases h0 : L s = []
  · rw [h0]; exact ev_pos rfl (Ev.now _)
  refine ev_neg h0 (Ev.bind (capitals_eq s 3 hs) ?_)
  by_cases h3 : ¬ (L s).length = 3
  · rw [mark_other h0 h3, decide_eq_false h3]
    exact ev_neg (by simp) (Ev.now _)
  replace h3 := Classical.not_not.1 h3
  obtain ⟨a, b, c, habc⟩ := three h3
  have hz := L_length s
  have b0 : bt s 0 = (a.toNat : Int) := by have := bt_nat s 0 (by omega); simpa [habc] using this
  have b1 : bt s 1 = (b.toNat : Int) := by have := bt_nat s 1 (by omega); simpa [habc] using this
  have b2 : bt s 2 = (c.toNat : Int) := by have := bt_nat s 2 (by omega); simpa [habc] using this
  simp only [b0, b1, b2]
  rw [decide_eq_true h3, Bool.true_and, habc]
  simp only [List.all_cons, List.all_nil, Bool.and_true, mark]
  by_cases hu : ¬ (up a && (up b && up c)) = true
  · exact ev_eq (ev_neg hu (Ev.now _)) (if_neg hu).symm
  replace hu := Classical.not_not.1 hu
  refine ev_eq (ev_pos hu (ev_pos (by omega) ?_)) (if_pos hu).symm
  obtain ⟨ha, hb, hc⟩ : up a = true ∧ up b = true ∧ up c = true := by simpa using hu
  have na := up_nat ha; have nb := up_nat hb; have nc := up_nat hc
  have eb : ((b.toNat : Int) - 65) % 256 = (b.toNat : Int) - 65 := by omega
  have ec : ((c.toNat : Int) - 65) % 256 = (c.toNat : Int) - 65 := by omega
  simp only [eb, ec]
  by_cases hp : a = 80
  · refine ev_eq (ev_pos (by rw [hp]; rfl) (ev_pos (by omega) (ev_pos (by omega) (Ev.now _)))) (if_pos hp).symm
  · have hp' : ¬ (a.toNat : Int) = 80 := fun h => hp (toNat_inj.1 (h : (a.toNat : Int) = ((80 : UInt8).toNat : Int)))
    refine ev_eq (ev_neg hp' ?_) (if_neg hp).symm
    simp only [Option.bind_some]
    exact mark_impl_l s _ a b c habc rfl hc

/-- Is a heading right? -/
def hok (kind area : ByteArray) (no : Int) (cen : ByteArray) (day hour minute : Int) (mk : ByteArray) : Bool :=
  (decide ((L kind).length = 2) && (L kind).all up) && ((decide ((L area).length = 2) && (L area).all up) && ((decide (0 ≤ no) && decide (no ≤ 99)) && (centre (L cen) && ((decide (1 ≤ day) && decide (day ≤ 31)) && ((decide (0 ≤ hour) && decide (hour ≤ 23)) && ((decide (0 ≤ minute) && decide (minute ≤ 59)) && decide (0 ≤ (mark (L mk)).1)))))))
theorem mark_code (l : List UInt8) : (mark l).1 = -1 ∨ 0 ≤ (mark l).1 := by
  unfold mark
  repeat' split
  all_goals first | (left; rfl) | (right; dsimp only; omega)
theorem hok_spec (kind area : ByteArray) (no : Int) (cen : ByteArray) (day hour minute : Int) (mk : ByteArray) (h1 : kind.size ≤ maxLen) (h2 : area.size ≤ maxLen) (h8 : mk.size ≤ maxLen) :
    Ev (fun k => spec_l4HeadingOk.f k kind area no cen day hour minute mk) (hok kind area no cen day hour minute mk) := by
  unfold spec_l4HeadingOk.f hok
  have hk := L_length kind
  have ha := L_length area
  refine Ev.bind (mark_spec mk h8) ?_
  by_cases k2 : ¬ (kind.size : Int) = 2
  · refine ev_neg k2 (ev_eq (Ev.now _) ?_); rw [decide_eq_false (by omega)]; rfl
  replace k2 := Classical.not_not.1 k2
  by_cases a2 : ¬ (area.size : Int) = 2
  · refine ev_pos k2 (ev_neg a2 (ev_eq (Ev.now _) ?_)); rw [decide_eq_false (p := (L area).length = 2) (by omega)]; simp
  replace a2 := Classical.not_not.1 a2
  refine ev_pos k2 (ev_pos a2 (ev_pos (by omega) (Ev.bind (letters_ev _ (by rw [ByteArray.size_append, maxLen_eq]; omega)) ?_)))
  rw [L_append, List.all_append, decide_eq_true (p := (L kind).length = 2) (by omega), decide_eq_true (p := (L area).length = 2) (by omega), Bool.true_and, Bool.true_and]
  simp only [in_spec, Option.bind_some]
  rw [← Bool.and_assoc]
  refine ev_and (fun _ => ev_and (fun _ => Ev.bind (centre_spec cen) (ev_and (fun _ => ev_and (fun _ => ev_and (fun _ => ev_and (fun _ => Ev.now _)))))))
theorem hok_impl (kind area : ByteArray) (no : Int) (cen : ByteArray) (day hour minute : Int) (mk : ByteArray) (h1 : kind.size ≤ maxLen) (h2 : area.size ≤ maxLen) (h8 : mk.size ≤ maxLen) :
    Ev (fun k => impl_headingOk.f k kind area no cen day hour minute mk) (hok kind area no cen day hour minute mk) := by
  unfold impl_headingOk.f hok
  refine Ev.bind (mark_impl mk h8) (Ev.bind (capitals_eq kind 2 h1) (ev_and (fun _ => Ev.bind (capitals_eq area 2 h2) (ev_and (fun _ => ?_)))))
  simp only [in_impl, Option.bind_some]
  refine ev_and (fun _ => Ev.bind (centre_impl cen) (ev_and (fun _ => ev_and (fun _ => ev_and (fun _ => ev_and (fun _ => ev_eq (Ev.now _) ?_))))))
  rcases mark_code (L mk) with h | h
  · rw [h]; rfl
  · rw [decide_eq_true h]; simp; omega

theorem pad2 {n : Int} (h0 : 0 ≤ n) (h1 : n ≤ 99) : (pad n 2).length ≤ 30 := by
  have := itoa_len (n := n) (by omega) (by omega)
  unfold pad; simp; omega
/-- A heading's text. -/
def htext (kind area : ByteArray) (no : Int) (cen : ByteArray) (day hour minute : Int) (mk : ByteArray) : List UInt8 :=
  L kind ++ L area ++ pad no 2 ++ [32] ++ L cen ++ [32] ++ pad day 2 ++ pad hour 2 ++ pad minute 2 ++ (if L mk = [] then [] else 32 :: L mk)
theorem hok_facts {kind area : ByteArray} {no : Int} {cen : ByteArray} {day hour minute : Int} {mk : ByteArray} (h : hok kind area no cen day hour minute mk = true) :
    (L kind).length = 2 ∧ (L area).length = 2 ∧ 0 ≤ no ∧ no ≤ 99 ∧ (L cen).length = 4 ∧ 1 ≤ day ∧ day ≤ 31 ∧ 0 ≤ hour ∧ hour ≤ 23 ∧ 0 ≤ minute ∧ minute ≤ 59 ∧ 0 ≤ (mark (L mk)).1 := by
  simp only [hok, centre, Bool.and_eq_true, decide_eq_true_eq] at h
  obtain ⟨⟨a1, _⟩, ⟨a2, _⟩, ⟨a3, a4⟩, ⟨⟨a5, _⟩, _⟩, ⟨a6, a7⟩, ⟨a8, a9⟩, ⟨b1, b2⟩, b3⟩ := h
  exact ⟨a1, a2, a3, a4, a5, a6, a7, a8, a9, b1, b2, b3⟩
theorem mark_len {l : List UInt8} (h : 0 ≤ (mark l).1) : l.length ≤ 3 := by
  by_cases h0 : l = []
  · rw [h0]; simp
  · by_cases h3 : l.length = 3
    · omega
    · rw [mark_other h0 h3] at h; exact absurd h (by decide)
theorem app_mk (a : ByteArray) (l : List UInt8) : a ++ ⟨l.toArray⟩ = ⟨(L a ++ l).toArray⟩ := L_inj (by rw [L_append]; simp only [L_mk])
theorem mk_app (l : List UInt8) (b : ByteArray) : (⟨l.toArray⟩ : ByteArray) ++ b = ⟨(l ++ L b).toArray⟩ := L_inj (by rw [L_append]; simp only [L_mk])
theorem htext_spec (kind area : ByteArray) (no : Int) (cen : ByteArray) (day hour minute : Int) (mk : ByteArray) (h1 : kind.size ≤ maxLen) (h2 : area.size ≤ maxLen) (h8 : mk.size ≤ maxLen) :
    Ev (fun k => spec_HeadingText.f k kind area no cen day hour minute mk) (if hok kind area no cen day hour minute mk = true then (⟨(htext kind area no cen day hour minute mk).toArray⟩, true) else (⟨#[]⟩, false)) := by
  unfold spec_HeadingText.f
  refine Ev.bind (hok_spec kind area no cen day hour minute mk h1 h2 h8) ?_
  refine ev_ite (fun h => ?_) (fun _ => Ev.now _)
  obtain ⟨a1, a2, a3, a4, a5, a6, a7, a8, a9, b1, b2, b3⟩ := hok_facts h
  have c1 := mark_len b3
  rw [L_length] at a1 a2 a5 c1
  have p1 := pad2 a3 a4; have p2 := pad2 (n := day) (by omega) (by omega); have p3 := pad2 (n := hour) (by omega) (by omega); have p4 := pad2 (n := minute) (by omega) (by omega)
  have s1 : (⟨#[32]⟩ : ByteArray).size = 1 := rfl
  have e1 := l2Pad_ev (n := no) (w := 2) (by omega) (by omega) (by omega)
  have e2 := l2Pad_ev (n := day) (w := 2) (by omega) (by omega) (by omega)
  have e3 := l2Pad_ev (n := hour) (w := 2) (by omega) (by omega) (by omega)
  have e4 := l2Pad_ev (n := minute) (w := 2) (by omega) (by omega) (by omega)
  refine ev_pos (by omega) (Ev.bind e1 ?_)
  simp only [ByteArray.size_append, size_mk, s1]
  refine ev_pos (by omega) (ev_pos (by omega) (ev_pos (by omega) (ev_pos (by omega) (Ev.bind e2 ?_))))
  simp only [ByteArray.size_append, size_mk, s1]
  refine ev_pos (by omega) (Ev.bind e3 ?_)
  simp only [ByteArray.size_append, size_mk, s1]
  refine ev_pos (by omega) (Ev.bind e4 ?_)
  simp only [ByteArray.size_append, size_mk, s1, toList_L]
  refine ev_pos (by omega) ?_
  by_cases hm : L mk = []
  · refine ev_pos hm (ev_eq (Ev.now _) ?_)
    refine Prod.ext (L_inj ?_) rfl
    simp only [L_append, L_mk, htext, if_pos hm, List.append_nil]
    first | done | rfl
  · refine ev_neg hm (ev_pos (by omega) (ev_pos (by omega) (ev_eq (Ev.now _) ?_)))
    refine Prod.ext (L_inj ?_) rfl
    simp only [L_append, L_mk, htext, if_neg hm, List.append_assoc]; rfl
theorem htext_impl (kind area : ByteArray) (no : Int) (cen : ByteArray) (day hour minute : Int) (mk : ByteArray) (h1 : kind.size ≤ maxLen) (h2 : area.size ≤ maxLen) (h8 : mk.size ≤ maxLen) :
    Ev (fun k => impl_HeadingText.f k kind area no cen day hour minute mk) (if hok kind area no cen day hour minute mk = true then (⟨(htext kind area no cen day hour minute mk).toArray⟩, true) else (⟨#[]⟩, false)) := by
  unfold impl_HeadingText.f
  refine Ev.bind (hok_impl kind area no cen day hour minute mk h1 h2 h8) ?_
  refine ev_ite (fun h => ?_) (fun _ => Ev.now _)
  obtain ⟨a1, a2, a3, a4, a5, a6, a7, a8, a9, b1, b2, b3⟩ := hok_facts h
  have c1 := mark_len b3
  rw [L_length] at a1 a2 a5 c1
  have p1 := pad2 a3 a4; have p2 := pad2 (n := day) (by omega) (by omega); have p3 := pad2 (n := hour) (by omega) (by omega); have p4 := pad2 (n := minute) (by omega) (by omega)
  have s1 : (⟨#[32]⟩ : ByteArray).size = 1 := rfl
  have e1 : impl_fill.f no 2 = some ⟨(pad no 2).toArray⟩ := fill_eq (n := no) (w := 2) (by omega) (by omega) (by omega)
  have e2 : impl_fill.f day 2 = some ⟨(pad day 2).toArray⟩ := fill_eq (n := day) (w := 2) (by omega) (by omega) (by omega)
  have e3 : impl_fill.f hour 2 = some ⟨(pad hour 2).toArray⟩ := fill_eq (n := hour) (w := 2) (by omega) (by omega) (by omega)
  have e4 : impl_fill.f minute 2 = some ⟨(pad minute 2).toArray⟩ := fill_eq (n := minute) (w := 2) (by omega) (by omega) (by omega)
  simp only [e1, e2, e3, e4, Option.bind_some, ByteArray.size_append, size_mk, s1, toList_L]
  refine ev_pos (by omega) (ev_pos (by omega) (ev_pos (by omega) (ev_pos (by omega) (ev_pos (by omega) (ev_pos (by omega) (ev_pos (by omega) (ev_pos (by omega) ?_)))))))
  by_cases hm : L mk = []
  · refine ev_pos hm (ev_eq (Ev.now _) ?_)
    refine Prod.ext (L_inj ?_) rfl
    simp only [L_append, L_mk, htext, if_pos hm, List.append_nil]
    first | done | rfl
  · refine ev_neg hm (ev_pos (by omega) (ev_pos (by omega) (ev_eq (Ev.now _) ?_)))
    refine Prod.ext (L_inj ?_) rfl
    simp only [L_append, L_mk, htext, if_neg hm, List.append_assoc]; rfl
end Go.Proofs.YtmcmkdiefpepnaaDoor.PNHT
