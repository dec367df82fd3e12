/-
  Part of a proof by the engine: texts that a program of ours printed, or plain lemmas on them. No condition but what each theorem says.
-/
import Derived.Test.YtondfjckadlabaaGreatDoorTT
import Derived.Test.YtondfjckadlabaaGreatDoorDTPlain
import Derived.Test.YtondfjckadlabaaGreatDoorSAPlain
set_option linter.unusedVariables false
set_option linter.unusedSimpArgs false
namespace Go.Proofs.YtondfjckadlabaaGreatDoor.TT
open Go Go.Eng Go.Proofs.YtondfjckadlabaaGreatDoor.DT Go.Proofs.YtondfjckadlabaaGreatDoor.EX Go.Proofs.YtondfjckadlabaaGreatDoor.SA Go.Proofs.YtondfjckadlabaaGreatDoor.EX
/-! ### two digits -/
/-! ### the day -/
noncomputable def mon (d : Nat) : Nat := (month_of d).choose
theorem mon_spec (d : Nat) : Sm (mon d) ≤ d ∧ d < Sm (mon d + 1) := (month_of d).choose_spec
noncomputable def dayN (d : Nat) : Nat := d - Sm (mon d) + 1
theorem dayN_le (d : Nat) : dayN d ≤ 31 := by
  have h := mon_spec d
  have h1 := ml_pos (mon d)
  have h2 : Sm (mon d + 1) = Sm (mon d) + ml (mon d) := rfl
  unfold dayN; omega
noncomputable def dh (t : Nat) : List UInt8 := d2 (dayN (t / 1440)) ++ d2 (t / 60 % 24)
theorem day_cast (d : Nat) : ((d - Sm (mon d) : Nat) : Int) + 1 = (dayN d : Int) := by unfold dayN; omega
theorem dayHour_eq (t : Nat) (ht : t ≤ 52596000) : impl_dayHour (t : Int) = some (bs (dh t)) := by
  unfold impl_dayHour
  rw [date_impl t _ ht (mon_spec _), Option.bind_some]
  simp only [dateV, day_cast, pad2_impl (show dayN (t / 1440) < 100 from Nat.lt_of_le_of_lt (dayN_le _) (by omega)), pad2_impl (show t / 60 % 24 < 100 by omega), Option.bind_some]
  have e : ∀ a b, bs (d2 a) ++ bs (d2 b) = bs (d2 a ++ d2 b) := fun a b => rfl
  have e1 : ∀ a, (bs (d2 a)).size = 2 := fun a => rfl
  simp only [e, e1]
  rfl
theorem dayHourMinute_eq (t : Nat) (ht : t ≤ 52596000) : impl_dayHourMinute (t : Int) = some (bs (dh t ++ d2 (t % 60))) := by
  unfold impl_dayHourMinute
  rw [date_impl t _ ht (mon_spec _), Option.bind_some, dayHour_eq t ht]
  simp only [dateV, pad2_impl (show t % 60 < 100 by omega), Option.bind_some]
  have e1 : ∀ a, (bs (d2 a)).size = 2 := fun a => rfl
  have e2 : (bs (dh t)).size = 4 := rfl
  simp only [e1, e2]
  rfl
/-! ### spans -/
noncomputable def spanT (a b : Nat) : List UInt8 := dh a ++ [47] ++ (if b % 1440 = 0 then d2 (dayN (b / 1440 - 1)) ++ [50, 52] else dh b)
theorem cut2' (a b : Nat) : (bs (d2 a ++ d2 b)).extract 0 2 = bs (d2 a) := L_inj (by rw [L_extract]; rfl)
theorem spanText_impl (a b : Nat) (ha : a ≤ 52596000) (hb : b ≤ 52596000) (hb0 : 0 < b) : impl_spanText (a : Int) (b : Int) = some (bs (spanT a b)) := by
  unfold impl_spanText spanT
  have s4 : ∀ x y, (bs (d2 x ++ d2 y)).size = 4 := fun x y => rfl
  have t0 : Int.toNat 0 = 0 := rfl
  have t2 : Int.toNat 2 = 2 := rfl
  have c4 : ((4 : Nat) : Int) = 4 := rfl
  have hm : (Int.tmod (b : Int) 1440) = ((b % 1440 : Nat) : Int) := by rw [Int.tmod_eq_emod_of_nonneg (by omega)]; omega
  rw [dayHour_eq b hb, Option.bind_some, dayHour_eq a ha, hm, beqI]
  by_cases h : b % 1440 = 0
  · rw [if_pos h]
    have e : IntKind.i64.wrap ((b : Int) - 1440) = ((b - 1440 : Nat) : Int) := by rw [w64 (by omega) (by omega)]; omega
    rw [e, dayHour_eq (b - 1440) (by omega), h]
    simp only [dh, cut2', s4, t0, t2, c4, show (b - 1440) / 1440 = b / 1440 - 1 by omega, Option.bind_some, Int.natCast_zero, decide_true, cond_true]
    rfl
  · rw [if_neg h]
    simp only [show ¬ (((b % 1440 : Nat) : Int) = 0) by omega, decide_false, cond_false, Option.bind_some]
    rfl
/-! ### words -/
def J (xs : List ByteArray) : List UInt8 := Lib.join (xs.map L) [32]
theorem J_len {xs : List ByteArray} (hl : xs.length ≤ 1000) (hs : ∀ x ∈ xs, x.size ≤ 1000) : (J xs).length ≤ 2000000 := by
  unfold J
  cases xs with
  | nil => exact Nat.zero_le _
  | cons x r =>
    rw [List.map_cons, Lib.join_cons, List.length_append, Lib.joinTail_length]
    have hx := hs x List.mem_cons_self
    have : ∀ l : List ByteArray, (∀ x ∈ l, x.size ≤ 1000) → Lib.lens (l.map L) ≤ 1000 * l.length := by
      intro l
      induction l with
      | nil => intro _; exact Nat.le_refl _
      | cons y l ih =>
        intro h
        have h1 := h y List.mem_cons_self
        have h2 := ih fun z hz => h z (List.mem_cons_of_mem _ hz)
        simp only [Lib.lens, List.map_cons, List.sum_cons, L_length, List.length_cons] at h2 ⊢
        omega
    have h2 := this r fun z hz => hs z (List.mem_cons_of_mem _ hz)
    rw [L_length, List.length_map]
    simp only [List.length_cons, List.length_nil] at hl ⊢
    omega
theorem join_eq {xs : List ByteArray} (hl : xs.length ≤ 1000) (hs : ∀ x ∈ xs, x.size ≤ 1000) : dJoin xs (bs [32]) = some (bs (J xs)) := by
  have h := J_len hl hs
  have e : Lib.join (xs.map (·.data.toList)) (bs [32]).data.toList = J xs := rfl
  unfold dJoin
  rw [e]
  simp only [show xs.length ≤ 140737488355328 by omega, show (J xs).length ≤ 140737488355328 by omega, decide_true, Bool.and_self, cond_true]
end Go.Proofs.YtondfjckadlabaaGreatDoor.TT

namespace Go.Proofs.YtondfjckadlabaaGreatDoor.TT
open Go Go.Eng Go.Proofs.YtondfjckadlabaaGreatDoor.DT Go.Proofs.YtondfjckadlabaaGreatDoor.EX Go.Proofs.YtondfjckadlabaaGreatDoor.SA Go.Proofs.YtondfjckadlabaaGreatDoor.EX
theorem fill_w (n : Int) (w : Nat) (c : Int) (hc : c = (w : Int)) (h0 : -9223372036854775808 ≤ n) (h1 : n ≤ 9223372036854775807) (hw : w ≤ 1000) : impl_fill n c = some (bs (pad n w)) := by subst hc; exact fill_eq h0 h1 hw
/-- The words of a sky. -/
def skyW (d s v : Int) (w c : ByteArray) (b : Int) : List ByteArray :=
  (if d = 99 then [bs [86, 82, 66] ++ bs (pad s 2) ++ bs [75, 84]] else if 0 ≤ d then [bs (pad (d * 10) 3) ++ bs (pad s 2) ++ bs [75, 84]] else []) ++
  ((if 0 ≤ v then [bs (pad v 4)] else []) ++ ((if w = bs [] then [] else [w]) ++ (if c = bs [] then [] else if c = bs [83, 75, 67] then [c] else [c ++ bs (pad b 3)])))
structure SkyF (d s v : Int) (w c : ByteArray) (b : Int) : Prop where
  d : d = -1 ∨ d = 99 ∨ (0 ≤ d ∧ d ≤ 36)
  s : 0 ≤ s ∧ s ≤ 99
  v : v = -1 ∨ (0 ≤ v ∧ v ≤ 9999)
  w : w.size ≤ 10
  c : c.size ≤ 10
  b : 0 ≤ b ∧ b ≤ 200
theorem sky_facts {d s v : Int} {w c : ByteArray} {b : Int} (h : skyV d s v w c b = true) : SkyF d s v w c b := by
  simp only [skyV, Bool.and_eq_true, decide_eq_true_eq] at h
  obtain ⟨h1, h2, h3, h4⟩ := h
  have hw : w.size ≤ 10 := by
    simp only [weaV, Bool.or_eq_true, decide_eq_true_eq, L_impl_weathers, List.any_cons, List.any_nil, Bool.or_false] at h3
    rcases h3 with rfl | rfl | rfl | rfl | rfl | rfl | rfl | rfl | rfl | rfl | rfl <;> decide
  have hc : c.size ≤ 10 ∧ 0 ≤ b ∧ b ≤ 200 := by
    unfold cloudV at h4
    split at h4
    · rename_i hq
      simp only [decide_eq_true_eq] at h4
      refine ⟨?_, by omega, by omega⟩
      rcases hq with rfl | rfl <;> decide
    · simp only [Bool.and_eq_true, Bool.or_eq_true, decide_eq_true_eq, L_impl_covers, List.any_cons, List.any_nil, Bool.or_false] at h4
      refine ⟨?_, by omega, by omega⟩
      rcases h4.1 with rfl | rfl | rfl | rfl <;> decide
  have hd : (d = -1 ∨ d = 99 ∨ (0 ≤ d ∧ d ≤ 36)) ∧ 0 ≤ s ∧ s ≤ 99 := by
    unfold windV at h1
    split at h1
    · simp only [decide_eq_true_eq] at h1; omega
    · simp only [Bool.and_eq_true, Bool.or_eq_true, decide_eq_true_eq] at h1; omega
  exact ⟨hd.1, hd.2, by omega, hw, hc.1, hc.2⟩
theorem sz3 (n : Int) (w : Nat) (h0 : -9223372036854775808 ≤ n) (h1 : n ≤ 9223372036854775807) : (bs (pad n w)).size ≤ 21 + w := by rw [size_bs]; exact pad_len h0 h1
theorem bind_id {α : Type} (x : Option α) : (x.bind fun v => some v) = x := by cases x <;> rfl
theorem skyText_impl (d s v : Int) (w c : ByteArray) (b : Int) (h : skyV d s v w c b = true) : impl_SkyText d s v w c b = dJoin (skyW d s v w c b) (bs [32]) := by
  obtain ⟨hd, hs, hv, hw, hc, hb⟩ := sky_facts h
  have z1 := sz3 s 2 (by omega) (by omega)
  have z2 := sz3 (d * 10) 3 (by omega) (by omega)
  have z3 := sz3 b 3 (by omega) (by omega)
  have v3 : (bs [86, 82, 66]).size = 3 := rfl
  have v2 : (bs [75, 84]).size = 2 := rfl
  have hcm : 10 * d = d * 10 := Int.mul_comm _ _
  unfold impl_SkyText skyW
  simp only [impl_SkyOk_eq, said_eq, h, hcm, Option.bind_some, Bool.not_true, cond_false, beq_bytes, beqI, bind_id, List.nil_append,
    fill_w s 2 2 rfl (by omega) (by omega) (by omega), fill_w b 3 3 rfl (by omega) (by omega) (by omega), w64 (n := d * 10) (by omega) (by omega), fill_w (d * 10) 3 3 rfl (by omega) (by omega) (by omega), fill_w v 4 4 rfl (by omega) (by omega) (by omega),
    ByteArray.size_append, v3, v2, show 3 + (bs (pad s 2)).size ≤ 9223372036854775807 by omega, show 3 + (bs (pad s 2)).size + 2 ≤ 9223372036854775807 by omega, show (bs (pad (d * 10) 3)).size + (bs (pad s 2)).size ≤ 9223372036854775807 by omega, show (bs (pad (d * 10) 3)).size + (bs (pad s 2)).size + 2 ≤ 9223372036854775807 by omega, show c.size + (bs (pad b 3)).size ≤ 9223372036854775807 by omega, decide_true, cond_true]
  have hskc : ¬ bs [83, 75, 67] = bs [] := by decide
  have hskc' : ¬ bs [] = bs [83, 75, 67] := by decide
  have ed : decide (d ≠ -1) = decide (0 ≤ d) := by rw [decide_eq_decide]; omega
  have ev : decide (v ≠ -1) = decide (0 ≤ v) := by rw [decide_eq_decide]; omega
  simp only [ed, ev]
  by_cases h99 : d = 99
  · have hd0 : 0 ≤ d := by omega
    by_cases hv0 : 0 ≤ v <;> by_cases hw0 : w = bs [] <;> by_cases hc0 : c = bs [83, 75, 67] <;> by_cases hc1 : c = bs [] <;> simp [h99, hv0, hw0, hc0, hc1, hskc, hskc']
  · by_cases hd0 : 0 ≤ d
    · by_cases hv0 : 0 ≤ v <;> by_cases hw0 : w = bs [] <;> by_cases hc0 : c = bs [83, 75, 67] <;> by_cases hc1 : c = bs [] <;> simp [h99, hd0, hv0, hw0, hc0, hc1, hskc, hskc']
    · by_cases hv0 : 0 ≤ v <;> by_cases hw0 : w = bs [] <;> by_cases hc0 : c = bs [83, 75, 67] <;> by_cases hc1 : c = bs [] <;> simp [h99, hd0, hv0, hw0, hc0, hc1, hskc, hskc']
theorem skyW_bound {d s v : Int} {w c : ByteArray} {b : Int} (h : skyV d s v w c b = true) : (skyW d s v w c b).length ≤ 4 ∧ ∀ x ∈ skyW d s v w c b, x.size ≤ 60 := by
  obtain ⟨hd, hs, hv, hw, hc, hb⟩ := sky_facts h
  have z1 := sz3 s 2 (by omega) (by omega)
  have z2 := sz3 (d * 10) 3 (by omega) (by omega)
  have z3 := sz3 b 3 (by omega) (by omega)
  have z4 := sz3 v 4 (by omega) (by omega)
  have v3 : (bs [86, 82, 66]).size = 3 := rfl
  have v2 : (bs [75, 84]).size = 2 := rfl
  unfold skyW
  constructor
  · simp only [List.length_append]
    have a1 : (if d = 99 then [bs [86, 82, 66] ++ bs (pad s 2) ++ bs [75, 84]] else if 0 ≤ d then [bs (pad (d * 10) 3) ++ bs (pad s 2) ++ bs [75, 84]] else []).length ≤ 1 := by (repeat' split) <;> simp
    have a2 : (if 0 ≤ v then [bs (pad v 4)] else []).length ≤ 1 := by split <;> simp
    have a3 : (if w = bs [] then [] else [w]).length ≤ 1 := by split <;> simp
    have a4 : (if c = bs [] then [] else if c = bs [83, 75, 67] then [c] else [c ++ bs (pad b 3)]).length ≤ 1 := by (repeat' split) <;> simp
    omega
  · intro x hx
    rcases List.mem_append.1 hx with hx | hx
    · split at hx
      · obtain rfl := List.mem_singleton.1 hx
        rw [ByteArray.size_append, ByteArray.size_append]; omega
      · split at hx
        · obtain rfl := List.mem_singleton.1 hx
          rw [ByteArray.size_append, ByteArray.size_append]; omega
        · simp at hx
    · rcases List.mem_append.1 hx with hx | hx
      · split at hx
        · obtain rfl := List.mem_singleton.1 hx
          omega
        · simp at hx
      · rcases List.mem_append.1 hx with hx | hx
        · split at hx
          · simp at hx
          · obtain rfl := List.mem_singleton.1 hx
            omega
        · split at hx
          · simp at hx
          · split at hx
            · obtain rfl := List.mem_singleton.1 hx
              omega
            · obtain rfl := List.mem_singleton.1 hx
              rw [ByteArray.size_append]; omega
/-- A sky's text. -/
def skyT (d s v : Int) (w c : ByteArray) (b : Int) : ByteArray := bs (J (skyW d s v w c b))
theorem J_bound {xs : List ByteArray} {m : Nat} (hs : ∀ x ∈ xs, x.size ≤ m) : (J xs).length ≤ (m + 1) * xs.length := by
  unfold J
  cases xs with
  | nil => exact Nat.zero_le _
  | cons x r =>
    rw [List.map_cons, Lib.join_cons, List.length_append, Lib.joinTail_length]
    have hx := hs x List.mem_cons_self
    have : ∀ l : List ByteArray, (∀ x ∈ l, x.size ≤ m) → Lib.lens (l.map L) ≤ m * l.length := by
      intro l
      induction l with
      | nil => intro _; exact Nat.le_refl _
      | cons y l ih =>
        intro h
        have h1 := h y List.mem_cons_self
        have h2 := ih fun z hz => h z (List.mem_cons_of_mem _ hz)
        simp only [Lib.lens, List.map_cons, List.sum_cons, L_length, List.length_cons, Nat.mul_succ] at h2 ⊢
        omega
    have h2 := this r fun z hz => hs z (List.mem_cons_of_mem _ hz)
    rw [L_length, List.length_map]
    simp only [List.length_cons, List.length_nil, Nat.mul_succ, Nat.add_mul]
    omega
theorem sky_impl {d s v : Int} {w c : ByteArray} {b : Int} (h : skyV d s v w c b = true) : impl_SkyText d s v w c b = some (skyT d s v w c b) := by
  obtain ⟨h1, h2⟩ := skyW_bound h
  rw [skyText_impl d s v w c b h]
  exact join_eq (by omega) fun x hx => Nat.le_trans (h2 x hx) (by omega)
theorem skyT_size {d s v : Int} {w c : ByteArray} {b : Int} (h : skyV d s v w c b = true) : (skyT d s v w c b).size ≤ 300 := by
  obtain ⟨h1, h2⟩ := skyW_bound h
  have h3 := J_bound h2
  unfold skyT
  rw [size_bs]
  omega
end Go.Proofs.YtondfjckadlabaaGreatDoor.TT

namespace Go.Proofs.YtondfjckadlabaaGreatDoor.TT
open Go Go.Eng Go.Proofs.YtondfjckadlabaaGreatDoor.DT Go.Proofs.YtondfjckadlabaaGreatDoor.EX Go.Proofs.YtondfjckadlabaaGreatDoor.SA Go.Proofs.YtondfjckadlabaaGreatDoor.EX
theorem chs_all {vf vt : Int} : ∀ (xs : List Ch) (p : Option Int) (e : Int), chs vf vt xs p e = true → ∀ c ∈ xs, chOk vf vt c = true
  | [], _, _, _ => fun c hc => by simp at hc
  | x :: r, p, e, h => by
    simp only [chs, Bool.and_eq_true] at h
    intro c hc
    rcases List.mem_cons.1 hc with rfl | hc
    · exact h.1
    · have ht := h.2.2
      unfold tailV at ht
      split at ht
      · simp only [Bool.and_eq_true] at ht; exact chs_all r _ _ ht.2 c hc
      · exact chs_all r _ _ ht c hc
/-- What a change's text needs. -/
structure ChF (c : Ch) : Prop where
  sky : skyV c.2.2.2.1 c.2.2.2.2.1 c.2.2.2.2.2.1 c.2.2.2.2.2.2.1 c.2.2.2.2.2.2.2.1 c.2.2.2.2.2.2.2.2 = true
  f : 0 ≤ c.2.1 ∧ c.2.1 ≤ 52596000
  kind : c.1 = 1 ∨ ((c.1 = 2 ∨ c.1 = 3 ∨ c.1 = 4) ∧ 0 < c.2.2.1 ∧ c.2.2.1 ≤ 52596000 ∧ c.2.2.1 % 60 = 0)
theorem ch_facts {vf vt : Int} {c : Ch} (h : chOk vf vt c = true) (h0 : 0 ≤ vf) (h1 : vt ≤ 52596000) : ChF c := by
  simp only [chOk, Bool.and_eq_true] at h
  obtain ⟨hs, _, hk⟩ := h
  unfold kindV at hk
  split at hk
  · rename_i h1'
    simp only [Bool.and_eq_true, decide_eq_true_eq] at hk
    exact ⟨hs, by omega, Or.inl h1'⟩
  · simp only [Bool.and_eq_true, decide_eq_true_eq] at hk
    refine ⟨hs, by omega, Or.inr ⟨by omega, by omega, by omega, ?_⟩⟩
    have := hk.2.2.1
    rw [Int.tmod_eq_emod_of_nonneg (by omega)] at this
    exact this
/-- The words of a change. -/
noncomputable def chW (c : Ch) : List ByteArray :=
  (if c.1 = 1 then [bs [70, 77] ++ bs (dh c.2.1.toNat ++ d2 (c.2.1.toNat % 60))]
   else if c.1 = 2 then [bs [66, 69, 67, 77, 71], bs (spanT c.2.1.toNat c.2.2.1.toNat)]
   else if c.1 = 3 then [bs [84, 69, 77, 80, 79], bs (spanT c.2.1.toNat c.2.2.1.toNat)]
   else [bs [80, 82, 79, 66, 51, 48], bs (spanT c.2.1.toNat c.2.2.1.toNat)]) ++ [skyT c.2.2.2.1 c.2.2.2.2.1 c.2.2.2.2.2.1 c.2.2.2.2.2.2.1 c.2.2.2.2.2.2.2.1 c.2.2.2.2.2.2.2.2]
theorem span_size (a b : Nat) : (bs (spanT a b)).size ≤ 9 := by
  rw [size_bs]; unfold spanT dh d2; split <;> simp
theorem fm_size (t : Nat) : (bs (dh t ++ d2 (t % 60))).size = 6 := rfl
theorem chW_bound {c : Ch} (h : ChF c) : (chW c).length ≤ 3 ∧ ∀ x ∈ chW c, x.size ≤ 300 := by
  have hs := skyT_size h.sky
  have hp := span_size c.2.1.toNat c.2.2.1.toNat
  have hf : (bs [70, 77] ++ bs (dh c.2.1.toNat ++ d2 (c.2.1.toNat % 60))).size = 8 := rfl
  have k2 : (bs [66, 69, 67, 77, 71]).size = 5 := rfl
  have k3 : (bs [84, 69, 77, 80, 79]).size = 5 := rfl
  have k4 : (bs [80, 82, 79, 66, 51, 48]).size = 6 := rfl
  unfold chW
  constructor
  · (repeat' split) <;> simp
  · intro x hx
    (repeat' split at hx) <;> simp only [List.cons_append, List.nil_append, List.mem_cons, List.not_mem_nil, or_false] at hx
    · rcases hx with rfl | rfl <;> omega
    · rcases hx with rfl | rfl | rfl <;> omega
    · rcases hx with rfl | rfl | rfl <;> omega
    · rcases hx with rfl | rfl | rfl <;> omega
noncomputable def chsW (xs : List Ch) : List ByteArray := (xs.map chW).flatten
theorem mb : maxBytes / 16 = 8796093022208 := by decide
theorem impl_loop (xs : List Ch) (hx : xs.length ≤ 10) (hc : ∀ c ∈ xs, ChF c) : ∀ (m n : Nat) (ws : List ByteArray), xs.length - n = m → n ≤ xs.length → ws.length ≤ 5 + 3 * n → (∀ x ∈ ws, x.size ≤ 300) →
    Ev (fun k => impl_TafText_L5 k xs (xs.length : Int) (n : Int) ws) (bs (J (ws ++ chsW (xs.drop n)) ++ [61])) := by
  intro m
  induction m with
  | zero =>
    intro n ws hm hn hl hs
    obtain rfl : n = xs.length := by omega
    have hj := J_bound hs
    apply ev_succ
    simp only [impl_TafText_L5, Int.lt_irrefl, decide_false, cond_false, join_eq (show ws.length ≤ 1000 by omega) (fun x hx => Nat.le_trans (hs x hx) (by omega)), Option.bind_some, size_bs, List.length_singleton,
      show (J ws).length + 1 ≤ 9223372036854775807 by omega, decide_true, cond_true]
    refine ev_eq (ev_now _) ?_
    rw [List.drop_length, chsW, List.map_nil, List.flatten_nil, List.append_nil]
    exact L_inj (by rw [L_append, L_bs, L_bs, L_bs])
  | succ m ih =>
    intro n ws hm hn hl hs
    have hlt : n < xs.length := by omega
    have hcf := hc _ (List.getElem_mem hlt)
    obtain ⟨b1, b2⟩ := chW_bound hcf
    have ih' := ih (n + 1) (ws ++ chW xs[n]) (by omega) (by omega) (by rw [List.length_append]; omega) (fun x hx => by
      rcases List.mem_append.1 hx with hx | hx
      · exact hs x hx
      · exact b2 x hx)
    rw [show ws ++ chW xs[n] ++ chsW (xs.drop (n + 1)) = ws ++ chsW (xs.drop n) from by rw [List.append_assoc, drop_cons hlt]; rfl] at ih'
    obtain ⟨hsky, hf, hk⟩ := hcf
    apply ev_succ
    simp only [impl_TafText_L5, show (n : Int) < (xs.length : Int) by omega, show (0 : Int) ≤ (n : Int) by omega, decide_true, cond_true, rd_nat (k := K9_SA0) hlt, wsucc (show n < 9223372036854775807 by omega)]
    generalize xs[n] = c at *
    have ef : c.2.1 = (c.2.1.toNat : Int) := by omega
    simp only [sky_impl hsky, beqI, Option.bind_some, mb, List.length_append, List.length_cons, List.length_nil]
    unfold chW at ih'
    rcases hk with h1 | ⟨hk, ht0, ht1, ht6⟩
    · have hd := dayHourMinute_eq c.2.1.toNat (by omega)
      rw [← ef] at hd
      rw [if_pos h1] at ih'
      simp only [h1, decide_true, cond_true, hd, Option.bind_some, fm_size, show (bs [70, 77]).size + 6 ≤ 9223372036854775807 from by decide, show ws.length + (0 + 1) ≤ 8796093022208 by omega, show ws.length + (0 + 1) + (0 + 1) ≤ 8796093022208 by omega, List.append_assoc] at ih' ⊢
      exact ih'
    · have et : c.2.2.1 = (c.2.2.1.toNat : Int) := by omega
      have hd := spanText_impl c.2.1.toNat c.2.2.1.toNat (by omega) (by omega) (by omega)
      rw [← ef, ← et] at hd
      have g1 : ws.length + (0 + 1 + 1) ≤ 8796093022208 := by omega
      have g2 : ws.length + (0 + 1 + 1) + (0 + 1) ≤ 8796093022208 := by omega
      have r2 : rd Kind.str [bs [], bs [], bs [66, 69, 67, 77, 71], bs [84, 69, 77, 80, 79], bs [80, 82, 79, 66, 51, 48]] 2 = bs [66, 69, 67, 77, 71] := rfl
      have r3 : rd Kind.str [bs [], bs [], bs [66, 69, 67, 77, 71], bs [84, 69, 77, 80, 79], bs [80, 82, 79, 66, 51, 48]] 3 = bs [84, 69, 77, 80, 79] := rfl
      have r4 : rd Kind.str [bs [], bs [], bs [66, 69, 67, 77, 71], bs [84, 69, 77, 80, 79], bs [80, 82, 79, 66, 51, 48]] 4 = bs [80, 82, 79, 66, 51, 48] := rfl
      rcases hk with h2 | h2 | h2 <;> simp only [h2, hd, g1, g2, r2, r3, r4, decide_true, cond_true, cond_false, Option.bind_some, show decide ((2 : Int) = 1) = false from rfl, show decide ((3 : Int) = 1) = false from rfl, show decide ((4 : Int) = 1) = false from rfl, show decide ((0 : Int) ≤ 2) = true from rfl, show decide ((0 : Int) ≤ 3) = true from rfl, show decide ((0 : Int) ≤ 4) = true from rfl, show decide ((2 : Int) < ((5 : Nat) : Int)) = true from rfl, show decide ((3 : Int) < ((5 : Nat) : Int)) = true from rfl, show decide ((4 : Int) < ((5 : Nat) : Int)) = true from rfl,
        show ¬ ((2 : Int) = 1) by omega, show ¬ ((3 : Int) = 1) by omega, show ¬ ((4 : Int) = 1) by omega, show ¬ ((3 : Int) = 2) by omega, show ¬ ((4 : Int) = 2) by omega, show ¬ ((4 : Int) = 3) by omega, if_false, if_true, List.append_assoc, List.cons_append, List.nil_append] at ih' ⊢ <;> exact ih'
/-- The whole text. -/
noncomputable def tafT (a0 : ByteArray) (a1 vf vt d s v : Int) (w c : ByteArray) (b : Int) (xs : List Ch) : ByteArray :=
  if tafV a0 a1 vf vt d s v w c b xs = true then bs (J ([bs [84, 65, 70], a0, bs (dh a1.toNat ++ d2 (a1.toNat % 60)) ++ bs [90], bs (spanT vf.toNat vt.toNat), skyT d s v w c b] ++ chsW xs) ++ [61]) else bs []
structure TafF (a0 : ByteArray) (a1 vf vt d s v : Int) (w c : ByteArray) (b : Int) (xs : List Ch) : Prop where
  z : a0.size = 4
  t : 0 ≤ a1 ∧ a1 ≤ 52596000
  f : 0 ≤ vf ∧ vf ≤ 52596000
  u : 0 < vt ∧ vt ≤ 52596000
  u6 : vt % 60 = 0
  sky : skyV d s v w c b = true
  len : xs.length ≤ 10
  all : ∀ c ∈ xs, ChF c
theorem taf_facts {a0 : ByteArray} {a1 vf vt d s v : Int} {w c : ByteArray} {b : Int} {xs : List Ch} (h : tafV a0 a1 vf vt d s v w c b xs = true) : TafF a0 a1 vf vt d s v w c b xs := by
  have hlen := taf_len h
  simp only [tafV, Bool.and_eq_true, Bool.not_eq_true', Bool.not_eq_false', decide_eq_false_iff_not, decide_eq_true_eq] at h
  obtain ⟨h1, h2, h3, h4, h5, h6, h7, h8, h9, h10⟩ := h
  have hs := span_facts h3
  have hc : a0.size = 4 := by
    simp only [centreV, Bool.and_eq_true, decide_eq_true_eq] at h1
    exact h1.1
  have hf : skyV d s v w c b = true := by
    simp only [fullV, Bool.and_eq_true] at h8
    exact h8.1
  refine ⟨hc, h2, hs.1, by omega, ?_, hf, hlen, fun c hc => ch_facts (chs_all xs _ _ h10 c hc) hs.1.1 hs.2.1.2⟩
  rw [Int.tmod_eq_emod_of_nonneg (by omega)] at h5
  exact h5
theorem head_bound {a0 : ByteArray} {a1 vf vt d s v : Int} {w c : ByteArray} {b : Int} (hz : a0.size = 4) (hsky : skyV d s v w c b = true) : ∀ x ∈ [bs [84, 65, 70], a0, bs (dh a1.toNat ++ d2 (a1.toNat % 60)) ++ bs [90], bs (spanT vf.toNat vt.toNat), skyT d s v w c b], x.size ≤ 300 := by
  have hs := skyT_size hsky
  have hp := span_size vf.toNat vt.toNat
  have hf : (bs (dh a1.toNat ++ d2 (a1.toNat % 60)) ++ bs [90]).size = 7 := rfl
  have k3 : (bs [84, 65, 70]).size = 3 := rfl
  intro x hx
  simp only [List.mem_cons, List.not_mem_nil, or_false] at hx
  rcases hx with rfl | rfl | rfl | rfl | rfl <;> omega
theorem impl_TafText_eq (a0 : ByteArray) (a1 vf vt d s v : Int) (w c : ByteArray) (b : Int) (xs : List Ch) : impl_TafText a0 a1 vf vt d s v w c b xs = some (tafT a0 a1 vf vt d s v w c b xs) := by
  refine evF_eq ?_
  unfold impl_TafText_F tafT
  simp only [impl_TafOk_eq, Option.bind_some]
  cases h : tafV a0 a1 vf vt d s v w c b xs with
  | false => exact ev_eq (ev_now _) (by simp)
  | true =>
    obtain ⟨hz, ht, hf, hu, h6, hsky, hlen, hall⟩ := taf_facts h
    have e1 : a1 = (a1.toNat : Int) := by omega
    have ef : vf = (vf.toNat : Int) := by omega
    have et : vt = (vt.toNat : Int) := by omega
    have hd := dayHourMinute_eq a1.toNat (by omega)
    have hp := spanText_impl vf.toNat vt.toNat (by omega) (by omega) (by omega)
    rw [← e1] at hd
    rw [← ef, ← et] at hp
    simp only [Bool.not_true, cond_false, hd, hp, sky_impl hsky, Option.bind_some, fm_size, show 6 + (bs [90]).size ≤ 9223372036854775807 from by decide, decide_true, cond_true, if_true]
    exact impl_loop xs hlen hall xs.length 0 _ (by omega) (by omega) (by simp) (head_bound hz hsky)
end Go.Proofs.YtondfjckadlabaaGreatDoor.TT
