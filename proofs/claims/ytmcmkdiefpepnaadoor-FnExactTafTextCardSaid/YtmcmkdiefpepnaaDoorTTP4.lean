/-
  Part of a proof by the engine: texts that a program of ours printed, or plain lemmas on them. No condition but what each theorem says.
-/
import Derived.Test.YtmcmkdiefpepnaaDoorTTP3
import Derived.Test.YtmcmkdiefpepnaaDoorSAPure
set_option linter.unusedVariables false
set_option linter.unusedSimpArgs false
namespace Go.Proofs.YtmcmkdiefpepnaaDoor.TT
open Go Go.Eng Go.Proofs.YtmcmkdiefpepnaaDoor.SA Go.Proofs.YtmcmkdiefpepnaaDoor.EX
theorem chs_all {vf vt : Int} : ∀ (xs : List Ch) (p : Option Int) (e : Int), chs vf vt xs p e = true → ∀ c ∈ xs, chOk vf vt c = true
  | [], _, _, _ => fun c hc => by simp at hc
  | x :: r, p, e, h => by
    simp only [chs, Bool.and_eq_true] at h
    intro c hc
    rcases List.mem_cons.1 hc with rfl | hc
    · exact h.1
    · have ht := h.2.2
      unfold tailV at ht
      split at ht
      · simp only [Bool.and_eq_true] at ht; exact chs_all r _ _ ht.2 c hc
      · exact chs_all r _ _ ht c hc
/-- What a change's text needs. -/
structure ChF (c : Ch) : Prop where
  sky : skyV c.2.2.2.1 c.2.2.2.2.1 c.2.2.2.2.2.1 c.2.2.2.2.2.2.1 c.2.2.2.2.2.2.2.1 c.2.2.2.2.2.2.2.2 = true
  f : 0 ≤ c.2.1 ∧ c.2.1 ≤ 52596000
  kind : c.1 = 1 ∨ ((c.1 = 2 ∨ c.1 = 3 ∨ c.1 = 4) ∧ 0 < c.2.2.1 ∧ c.2.2.1 ≤ 52596000 ∧ c.2.2.1 % 60 = 0)
theorem ch_facts {vf vt : Int} {c : Ch} (h : chOk vf vt c = true) (h0 : 0 ≤ vf) (h1 : vt ≤ 52596000) : ChF c := by
  simp only [chOk, Bool.and_eq_true] at h
  obtain ⟨hs, _, hk⟩ := h
  unfold kindV at hk
  split at hk
  · rename_i h1'
    simp only [Bool.and_eq_true, decide_eq_true_eq] at hk
    exact ⟨hs, by omega, Or.inl h1'⟩
  · simp only [Bool.and_eq_true, decide_eq_true_eq] at hk
    refine ⟨hs, by omega, Or.inr ⟨by omega, by omega, by omega, ?_⟩⟩
    have := hk.2.2.1
    rw [Int.tmod_eq_emod_of_nonneg (by omega)] at this
    exact this
/-- The words of a change. -/
noncomputable def chW (c : Ch) : List ByteArray :=
  (if c.1 = 1 then [bs [70, 77] ++ bs (dh c.2.1.toNat ++ d2 (c.2.1.toNat % 60))]
   else if c.1 = 2 then [bs [66, 69, 67, 77, 71], bs (spanT c.2.1.toNat c.2.2.1.toNat)]
   else if c.1 = 3 then [bs [84, 69, 77, 80, 79], bs (spanT c.2.1.toNat c.2.2.1.toNat)]
   else [bs [80, 82, 79, 66, 51, 48], bs (spanT c.2.1.toNat c.2.2.1.toNat)]) ++ [skyT c.2.2.2.1 c.2.2.2.2.1 c.2.2.2.2.2.1 c.2.2.2.2.2.2.1 c.2.2.2.2.2.2.2.1 c.2.2.2.2.2.2.2.2]
theorem span_size (a b : Nat) : (bs (spanT a b)).size ≤ 9 := by
  rw [size_bs]; unfold spanT dh d2; split <;> simp
theorem fm_size (t : Nat) : (bs (dh t ++ d2 (t % 60))).size = 6 := rfl
theorem chW_bound {c : Ch} (h : ChF c) : (chW c).length ≤ 3 ∧ ∀ x ∈ chW c, x.size ≤ 300 := by
  have hs := skyT_size h.sky
  have hp := span_size c.2.1.toNat c.2.2.1.toNat
  have hf : (bs [70, 77] ++ bs (dh c.2.1.toNat ++ d2 (c.2.1.toNat % 60))).size = 8 := rfl
  have k2 : (bs [66, 69, 67, 77, 71]).size = 5 := rfl
  have k3 : (bs [84, 69, 77, 80, 79]).size = 5 := rfl
  have k4 : (bs [80, 82, 79, 66, 51, 48]).size = 6 := rfl
  unfold chW
  constructor
  · (repeat' split) <;> simp
  · intro x hx
    (repeat' split at hx) <;> simp only [List.cons_append, List.nil_append, List.mem_cons, List.not_mem_nil, or_false] at hx
    · rcases hx with rfl | rfl <;> omega
    · rcases hx with rfl | rfl | rfl <;> omega
    · rcases hx with rfl | rfl | rfl <;> omega
    · rcases hx with rfl | rfl | rfl <;> omega
noncomputable def chsW (xs : List Ch) : List ByteArray := (xs.map chW).flatten
theorem mb : maxBytes / 16 = 8796093022208 := by decide
theorem spec_loop (a1 : ByteArray) (a2 a3 a4 a5 a6 a7 : Int) (a8 a9 : ByteArray) (a10 : Int) (xs : List Ch) (hx : xs.length ≤ 10) (hc : ∀ c ∈ xs, ChF c) : ∀ (m n : Nat) (ws : List ByteArray), xs.length - n = m → n ≤ xs.length → ws.length ≤ 5 + 3 * n → (∀ x ∈ ws, x.size ≤ 300) →
    Ev (fun k => spec_TafText_L5 k (n : Int) a1 a2 a3 a4 a5 a6 a7 a8 a9 a10 xs ws) (bs (J (ws ++ chsW (xs.drop n)) ++ [61])) := by
  intro m
  induction m with
  | zero =>
    intro n ws hm hn hl hs
    obtain rfl : n = xs.length := by omega
    have hj := J_bound hs
    apply ev_succ
    simp only [spec_TafText_L5, Int.lt_irrefl, decide_false, cond_false, words_eq (show ws.length ≤ 1000 by omega) (fun x hx => Nat.le_trans (hs x hx) (by omega)), Option.bind_some, size_bs, List.length_singleton,
      show (J ws).length + 1 ≤ 9223372036854775807 by omega, decide_true, cond_true]
    refine ev_eq (ev_now _) ?_
    rw [List.drop_length, chsW, List.map_nil, List.flatten_nil, List.append_nil]
    exact L_inj (by rw [L_append, L_bs, L_bs, L_bs])
  | succ m ih =>
    intro n ws hm hn hl hs
    have hlt : n < xs.length := by omega
    have hcf := hc _ (List.getElem_mem hlt)
    obtain ⟨b1, b2⟩ := chW_bound hcf
    have ih' := ih (n + 1) (ws ++ chW xs[n]) (by omega) (by omega) (by rw [List.length_append]; omega) (fun x hx => by
      rcases List.mem_append.1 hx with hx | hx
      · exact hs x hx
      · exact b2 x hx)
    rw [show ws ++ chW xs[n] ++ chsW (xs.drop (n + 1)) = ws ++ chsW (xs.drop n) from by rw [List.append_assoc, drop_cons hlt]; rfl] at ih'
    obtain ⟨hsky, hf, hk⟩ := hcf
    apply ev_succ
    simp only [spec_TafText_L5, show (n : Int) < (xs.length : Int) by omega, show (0 : Int) ≤ (n : Int) by omega, decide_true, cond_true, rd_nat (k := K9_0) hlt, wsucc (show n < 9223372036854775807 by omega)]
    generalize xs[n] = c at *
    have ef : c.2.1 = (c.2.1.toNat : Int) := by omega
    simp only [sky_spec hsky, beqI, Option.bind_some, mb, List.length_append, List.length_cons, List.length_nil]
    unfold chW at ih'
    rcases hk with h1 | ⟨hk, ht0, ht1, ht6⟩
    · have hd := dayTime_eq c.2.1.toNat (by omega)
      rw [← ef] at hd
      rw [if_pos h1] at ih'
      simp only [h1, decide_true, cond_true, hd, Option.bind_some, fm_size, show (bs [70, 77]).size + 6 ≤ 9223372036854775807 from by decide, show ws.length + (0 + 1) ≤ 8796093022208 by omega, show ws.length + (0 + 1) + (0 + 1) ≤ 8796093022208 by omega, List.append_assoc] at ih' ⊢
      exact ih'
    · have et : c.2.2.1 = (c.2.2.1.toNat : Int) := by omega
      have hd := spanText_spec c.2.1.toNat c.2.2.1.toNat (by omega) (by omega) (by omega) (by omega)
      rw [← ef, ← et] at hd
      have g1 : ws.length + (0 + 1 + 1) ≤ 8796093022208 := by omega
      have g2 : ws.length + (0 + 1 + 1) + (0 + 1) ≤ 8796093022208 := by omega
      rcases hk with h2 | h2 | h2 <;> simp only [h2, hd, g1, g2, decide_true, cond_true, cond_false, Option.bind_some, show decide ((2 : Int) = 1) = false from rfl, show decide ((3 : Int) = 1) = false from rfl, show decide ((4 : Int) = 1) = false from rfl, show decide ((3 : Int) = 2) = false from rfl, show decide ((4 : Int) = 2) = false from rfl, show decide ((4 : Int) = 3) = false from rfl,
        show ¬ ((2 : Int) = 1) by omega, show ¬ ((3 : Int) = 1) by omega, show ¬ ((4 : Int) = 1) by omega, show ¬ ((3 : Int) = 2) by omega, show ¬ ((4 : Int) = 2) by omega, show ¬ ((4 : Int) = 3) by omega, if_false, if_true, List.append_assoc, List.cons_append, List.nil_append] at ih' ⊢ <;> exact ih'
theorem impl_loop (xs : List Ch) (hx : xs.length ≤ 10) (hc : ∀ c ∈ xs, ChF c) : ∀ (m n : Nat) (ws : List ByteArray), xs.length - n = m → n ≤ xs.length → ws.length ≤ 5 + 3 * n → (∀ x ∈ ws, x.size ≤ 300) →
    Ev (fun k => impl_TafText_L5 k xs (xs.length : Int) (n : Int) ws) (bs (J (ws ++ chsW (xs.drop n)) ++ [61])) := by
  intro m
  induction m with
  | zero =>
    intro n ws hm hn hl hs
    obtain rfl : n = xs.length := by omega
    have hj := J_bound hs
    apply ev_succ
    simp only [impl_TafText_L5, Int.lt_irrefl, decide_false, cond_false, join_eq (show ws.length ≤ 1000 by omega) (fun x hx => Nat.le_trans (hs x hx) (by omega)), Option.bind_some, size_bs, List.length_singleton,
      show (J ws).length + 1 ≤ 9223372036854775807 by omega, decide_true, cond_true]
    refine ev_eq (ev_now _) ?_
    rw [List.drop_length, chsW, List.map_nil, List.flatten_nil, List.append_nil]
    exact L_inj (by rw [L_append, L_bs, L_bs, L_bs])
  | succ m ih =>
    intro n ws hm hn hl hs
    have hlt : n < xs.length := by omega
    have hcf := hc _ (List.getElem_mem hlt)
    obtain ⟨b1, b2⟩ := chW_bound hcf
    have ih' := ih (n + 1) (ws ++ chW xs[n]) (by omega) (by omega) (by rw [List.length_append]; omega) (fun x hx => by
      rcases List.mem_append.1 hx with hx | hx
      · exact hs x hx
      · exact b2 x hx)
    rw [show ws ++ chW xs[n] ++ chsW (xs.drop (n + 1)) = ws ++ chsW (xs.drop n) from by rw [List.append_assoc, drop_cons hlt]; rfl] at ih'
    obtain ⟨hsky, hf, hk⟩ := hcf
    apply ev_succ
    simp only [impl_TafText_L5, show (n : Int) < (xs.length : Int) by omega, show (0 : Int) ≤ (n : Int) by omega, decide_true, cond_true, rd_nat (k := K9_0) hlt, wsucc (show n < 9223372036854775807 by omega)]
    generalize xs[n] = c at *
    have ef : c.2.1 = (c.2.1.toNat : Int) := by omega
    simp only [sky_impl hsky, beqI, Option.bind_some, mb, List.length_append, List.length_cons, List.length_nil]
    unfold chW at ih'
    rcases hk with h1 | ⟨hk, ht0, ht1, ht6⟩
    · have hd := dayHourMinute_eq c.2.1.toNat (by omega)
      rw [← ef] at hd
      rw [if_pos h1] at ih'
      simp only [h1, decide_true, cond_true, hd, Option.bind_some, fm_size, show (bs [70, 77]).size + 6 ≤ 9223372036854775807 from by decide, show ws.length + (0 + 1) ≤ 8796093022208 by omega, show ws.length + (0 + 1) + (0 + 1) ≤ 8796093022208 by omega, List.append_assoc] at ih' ⊢
      exact ih'
    · have et : c.2.2.1 = (c.2.2.1.toNat : Int) := by omega
      have hd := spanText_impl c.2.1.toNat c.2.2.1.toNat (by omega) (by omega) (by omega)
      rw [← ef, ← et] at hd
      have g1 : ws.length + (0 + 1 + 1) ≤ 8796093022208 := by omega
      have g2 : ws.length + (0 + 1 + 1) + (0 + 1) ≤ 8796093022208 := by omega
      have r2 : rd Kind.str [bs [], bs [], bs [66, 69, 67, 77, 71], bs [84, 69, 77, 80, 79], bs [80, 82, 79, 66, 51, 48]] 2 = bs [66, 69, 67, 77, 71] := rfl
      have r3 : rd Kind.str [bs [], bs [], bs [66, 69, 67, 77, 71], bs [84, 69, 77, 80, 79], bs [80, 82, 79, 66, 51, 48]] 3 = bs [84, 69, 77, 80, 79] := rfl
      have r4 : rd Kind.str [bs [], bs [], bs [66, 69, 67, 77, 71], bs [84, 69, 77, 80, 79], bs [80, 82, 79, 66, 51, 48]] 4 = bs [80, 82, 79, 66, 51, 48] := rfl
      rcases hk with h2 | h2 | h2 <;> simp only [h2, hd, g1, g2, r2, r3, r4, decide_true, cond_true, cond_false, Option.bind_some, show decide ((2 : Int) = 1) = false from rfl, show decide ((3 : Int) = 1) = false from rfl, show decide ((4 : Int) = 1) = false from rfl, show decide ((0 : Int) ≤ 2) = true from rfl, show decide ((0 : Int) ≤ 3) = true from rfl, show decide ((0 : Int) ≤ 4) = true from rfl, show decide ((2 : Int) < ((5 : Nat) : Int)) = true from rfl, show decide ((3 : Int) < ((5 : Nat) : Int)) = true from rfl, show decide ((4 : Int) < ((5 : Nat) : Int)) = true from rfl,
        show ¬ ((2 : Int) = 1) by omega, show ¬ ((3 : Int) = 1) by omega, show ¬ ((4 : Int) = 1) by omega, show ¬ ((3 : Int) = 2) by omega, show ¬ ((4 : Int) = 2) by omega, show ¬ ((4 : Int) = 3) by omega, if_false, if_true, List.append_assoc, List.cons_append, List.nil_append] at ih' ⊢ <;> exact ih'
/-- The whole text. -/
noncomputable def tafT (a0 : ByteArray) (a1 vf vt d s v : Int) (w c : ByteArray) (b : Int) (xs : List Ch) : ByteArray :=
  if tafV a0 a1 vf vt d s v w c b xs = true then bs (J ([bs [84, 65, 70], a0, bs (dh a1.toNat ++ d2 (a1.toNat % 60)) ++ bs [90], bs (spanT vf.toNat vt.toNat), skyT d s v w c b] ++ chsW xs) ++ [61]) else bs []
structure TafF (a0 : ByteArray) (a1 vf vt d s v : Int) (w c : ByteArray) (b : Int) (xs : List Ch) : Prop where
  z : a0.size = 4
  t : 0 ≤ a1 ∧ a1 ≤ 52596000
  f : 0 ≤ vf ∧ vf ≤ 52596000
  u : 0 < vt ∧ vt ≤ 52596000
  u6 : vt % 60 = 0
  sky : skyV d s v w c b = true
  len : xs.length ≤ 10
  all : ∀ c ∈ xs, ChF c
theorem taf_facts {a0 : ByteArray} {a1 vf vt d s v : Int} {w c : ByteArray} {b : Int} {xs : List Ch} (h : tafV a0 a1 vf vt d s v w c b xs = true) : TafF a0 a1 vf vt d s v w c b xs := by
  have hlen := taf_len h
  simp only [tafV, Bool.and_eq_true, Bool.not_eq_true', Bool.not_eq_false', decide_eq_false_iff_not, decide_eq_true_eq] at h
  obtain ⟨h1, h2, h3, h4, h5, h6, h7, h8, h9, h10⟩ := h
  have hs := span_facts h3
  have hc : a0.size = 4 := by
    simp only [centreV, Bool.and_eq_true, decide_eq_true_eq] at h1
    exact h1.1
  have hf : skyV d s v w c b = true := by
    simp only [fullV, Bool.and_eq_true] at h8
    exact h8.1
  refine ⟨hc, h2, hs.1, by omega, ?_, hf, hlen, fun c hc => ch_facts (chs_all xs _ _ h10 c hc) hs.1.1 hs.2.1.2⟩
  rw [Int.tmod_eq_emod_of_nonneg (by omega)] at h5
  exact h5
theorem head_bound {a0 : ByteArray} {a1 vf vt d s v : Int} {w c : ByteArray} {b : Int} (hz : a0.size = 4) (hsky : skyV d s v w c b = true) : ∀ x ∈ [bs [84, 65, 70], a0, bs (dh a1.toNat ++ d2 (a1.toNat % 60)) ++ bs [90], bs (spanT vf.toNat vt.toNat), skyT d s v w c b], x.size ≤ 300 := by
  have hs := skyT_size hsky
  have hp := span_size vf.toNat vt.toNat
  have hf : (bs (dh a1.toNat ++ d2 (a1.toNat % 60)) ++ bs [90]).size = 7 := rfl
  have k3 : (bs [84, 65, 70]).size = 3 := rfl
  intro x hx
  simp only [List.mem_cons, List.not_mem_nil, or_false] at hx
  rcases hx with rfl | rfl | rfl | rfl | rfl <;> omega
theorem spec_TafText_eq (a0 : ByteArray) (a1 vf vt d s v : Int) (w c : ByteArray) (b : Int) (xs : List Ch) : spec_TafText a0 a1 vf vt d s v w c b xs = some (tafT a0 a1 vf vt d s v w c b xs) := by
  refine evF_eq ?_
  unfold spec_TafText_F tafT
  simp only [spec_TafOk_eq, Option.bind_some]
  cases h : tafV a0 a1 vf vt d s v w c b xs with
  | false => exact ev_eq (ev_now _) (by simp)
  | true =>
    obtain ⟨hz, ht, hf, hu, h6, hsky, hlen, hall⟩ := taf_facts h
    have e1 : a1 = (a1.toNat : Int) := by omega
    have ef : vf = (vf.toNat : Int) := by omega
    have et : vt = (vt.toNat : Int) := by omega
    have hd := dayTime_eq a1.toNat (by omega)
    have hp := spanText_spec vf.toNat vt.toNat (by omega) (by omega) (by omega) (by omega)
    rw [← e1] at hd
    rw [← ef, ← et] at hp
    simp only [Bool.not_true, cond_false, hd, hp, sky_spec hsky, Option.bind_some, fm_size, show 6 + (bs [90]).size ≤ 9223372036854775807 from by decide, decide_true, cond_true, if_true]
    exact spec_loop a0 a1 vf vt d s v w c b xs hlen hall xs.length 0 _ (by omega) (by omega) (by simp) (head_bound hz hsky)
theorem impl_TafText_eq (a0 : ByteArray) (a1 vf vt d s v : Int) (w c : ByteArray) (b : Int) (xs : List Ch) : impl_TafText a0 a1 vf vt d s v w c b xs = some (tafT a0 a1 vf vt d s v w c b xs) := by
  refine evF_eq ?_
  unfold impl_TafText_F tafT
  simp only [impl_TafOk_eq, Option.bind_some]
  cases h : tafV a0 a1 vf vt d s v w c b xs with
  | false => exact ev_eq (ev_now _) (by simp)
  | true =>
    obtain ⟨hz, ht, hf, hu, h6, hsky, hlen, hall⟩ := taf_facts h
    have e1 : a1 = (a1.toNat : Int) := by omega
    have ef : vf = (vf.toNat : Int) := by omega
    have et : vt = (vt.toNat : Int) := by omega
    have hd := dayHourMinute_eq a1.toNat (by omega)
    have hp := spanText_impl vf.toNat vt.toNat (by omega) (by omega) (by omega)
    rw [← e1] at hd
    rw [← ef, ← et] at hp
    simp only [Bool.not_true, cond_false, hd, hp, sky_impl hsky, Option.bind_some, fm_size, show 6 + (bs [90]).size ≤ 9223372036854775807 from by decide, decide_true, cond_true, if_true]
    exact impl_loop xs hlen hall xs.length 0 _ (by omega) (by omega) (by simp) (head_bound hz hsky)
end Go.Proofs.YtmcmkdiefpepnaaDoor.TT
