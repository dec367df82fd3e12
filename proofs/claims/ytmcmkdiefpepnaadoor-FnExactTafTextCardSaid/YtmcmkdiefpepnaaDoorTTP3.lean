/-
  Part of a proof by the engine: texts that a program of ours printed, or plain lemmas on them. No condition but what each theorem says.
-/
import Derived.Test.YtmcmkdiefpepnaaDoorTTP2
import Derived.Test.YtmcmkdiefpepnaaDoorSAP5
set_option linter.unusedVariables false
set_option linter.unusedSimpArgs false
namespace Go.Proofs.YtmcmkdiefpepnaaDoor.TT
open Go Go.Eng Go.Proofs.YtmcmkdiefpepnaaDoor.SA Go.Proofs.YtmcmkdiefpepnaaDoor.EX
theorem fill_w (n : Int) (w : Nat) (c : Int) (hc : c = (w : Int)) (h0 : -9223372036854775808 ≤ n) (h1 : n ≤ 9223372036854775807) (hw : w ≤ 1000) : impl_fill n c = some (bs (pad n w)) := by subst hc; exact fill_eq h0 h1 hw
theorem pad_w (n : Int) (w : Nat) (c : Int) (hc : c = (w : Int)) (h0 : -9223372036854775808 ≤ n) (h1 : n ≤ 9223372036854775807) (hw : w ≤ 1000) : spec_l2Pad n c = some (bs (pad n w)) := by subst hc; exact l2Pad_eq h0 h1 hw
/-- The words of a sky. -/
def skyW (d s v : Int) (w c : ByteArray) (b : Int) : List ByteArray :=
  (if d = 99 then [bs [86, 82, 66] ++ bs (pad s 2) ++ bs [75, 84]] else if 0 ≤ d then [bs (pad (d * 10) 3) ++ bs (pad s 2) ++ bs [75, 84]] else []) ++
  ((if 0 ≤ v then [bs (pad v 4)] else []) ++ ((if w = bs [] then [] else [w]) ++ (if c = bs [] then [] else if c = bs [83, 75, 67] then [c] else [c ++ bs (pad b 3)])))
structure SkyF (d s v : Int) (w c : ByteArray) (b : Int) : Prop where
  d : d = -1 ∨ d = 99 ∨ (0 ≤ d ∧ d ≤ 36)
  s : 0 ≤ s ∧ s ≤ 99
  v : v = -1 ∨ (0 ≤ v ∧ v ≤ 9999)
  w : w.size ≤ 10
  c : c.size ≤ 10
  b : 0 ≤ b ∧ b ≤ 200
theorem sky_facts {d s v : Int} {w c : ByteArray} {b : Int} (h : skyV d s v w c b = true) : SkyF d s v w c b := by
  simp only [skyV, Bool.and_eq_true, decide_eq_true_eq] at h
  obtain ⟨h1, h2, h3, h4⟩ := h
  have hw : w.size ≤ 10 := by
    simp only [weaV, Bool.or_eq_true, decide_eq_true_eq, L_impl_weathers, List.any_cons, List.any_nil, Bool.or_false] at h3
    rcases h3 with rfl | rfl | rfl | rfl | rfl | rfl | rfl | rfl | rfl | rfl | rfl <;> decide
  have hc : c.size ≤ 10 ∧ 0 ≤ b ∧ b ≤ 200 := by
    unfold cloudV at h4
    split at h4
    · rename_i hq
      simp only [decide_eq_true_eq] at h4
      refine ⟨?_, by omega, by omega⟩
      rcases hq with rfl | rfl <;> decide
    · simp only [Bool.and_eq_true, Bool.or_eq_true, decide_eq_true_eq, L_impl_covers, List.any_cons, List.any_nil, Bool.or_false] at h4
      refine ⟨?_, by omega, by omega⟩
      rcases h4.1 with rfl | rfl | rfl | rfl <;> decide
  have hd : (d = -1 ∨ d = 99 ∨ (0 ≤ d ∧ d ≤ 36)) ∧ 0 ≤ s ∧ s ≤ 99 := by
    unfold windV at h1
    split at h1
    · simp only [decide_eq_true_eq] at h1; omega
    · simp only [Bool.and_eq_true, Bool.or_eq_true, decide_eq_true_eq] at h1; omega
  exact ⟨hd.1, hd.2, by omega, hw, hc.1, hc.2⟩
theorem sz3 (n : Int) (w : Nat) (h0 : -9223372036854775808 ≤ n) (h1 : n ≤ 9223372036854775807) : (bs (pad n w)).size ≤ 21 + w := by rw [size_bs]; exact pad_len h0 h1
theorem bind_id {α : Type} (x : Option α) : (x.bind fun v => some v) = x := by cases x <;> rfl
theorem skyText_spec (d s v : Int) (w c : ByteArray) (b : Int) (h : skyV d s v w c b = true) : spec_SkyText d s v w c b = spec_l21Words (skyW d s v w c b) := by
  obtain ⟨hd, hs, hv, hw, hc, hb⟩ := sky_facts h
  have z1 := sz3 s 2 (by omega) (by omega)
  have z2 := sz3 (d * 10) 3 (by omega) (by omega)
  have z3 := sz3 b 3 (by omega) (by omega)
  have v3 : (bs [86, 82, 66]).size = 3 := rfl
  have v2 : (bs [75, 84]).size = 2 := rfl
  unfold spec_SkyText skyW
  simp only [spec_SkyOk_eq, h, Option.bind_some, Bool.not_true, cond_false, beq_bytes, beqI, bind_id, List.nil_append,
    pad_w s 2 2 rfl (by omega) (by omega) (by omega), pad_w b 3 3 rfl (by omega) (by omega) (by omega), w64 (n := d * 10) (by omega) (by omega), pad_w (d * 10) 3 3 rfl (by omega) (by omega) (by omega), pad_w v 4 4 rfl (by omega) (by omega) (by omega),
    ByteArray.size_append, v3, v2, show 3 + (bs (pad s 2)).size ≤ 9223372036854775807 by omega, show 3 + (bs (pad s 2)).size + 2 ≤ 9223372036854775807 by omega, show (bs (pad (d * 10) 3)).size + (bs (pad s 2)).size ≤ 9223372036854775807 by omega, show (bs (pad (d * 10) 3)).size + (bs (pad s 2)).size + 2 ≤ 9223372036854775807 by omega, show c.size + (bs (pad b 3)).size ≤ 9223372036854775807 by omega, decide_true, cond_true]
  have hskc : ¬ bs [83, 75, 67] = bs [] := by decide
  have hskc' : ¬ bs [] = bs [83, 75, 67] := by decide
  by_cases h99 : d = 99
  · by_cases hv0 : v ≥ 0 <;> by_cases hw0 : w = bs [] <;> by_cases hc0 : c = bs [83, 75, 67] <;> by_cases hc1 : c = bs [] <;> simp [h99, hv0, hw0, hc0, hc1, hskc, hskc']
  · by_cases hd0 : d ≥ 0
    · by_cases hv0 : v ≥ 0 <;> by_cases hw0 : w = bs [] <;> by_cases hc0 : c = bs [83, 75, 67] <;> by_cases hc1 : c = bs [] <;> simp [h99, hd0, hv0, hw0, hc0, hc1, hskc, hskc']
    · by_cases hv0 : v ≥ 0 <;> by_cases hw0 : w = bs [] <;> by_cases hc0 : c = bs [83, 75, 67] <;> by_cases hc1 : c = bs [] <;> simp [h99, hd0, hv0, hw0, hc0, hc1, hskc, hskc']
theorem skyText_impl (d s v : Int) (w c : ByteArray) (b : Int) (h : skyV d s v w c b = true) : impl_SkyText d s v w c b = dJoin (skyW d s v w c b) (bs [32]) := by
  obtain ⟨hd, hs, hv, hw, hc, hb⟩ := sky_facts h
  have z1 := sz3 s 2 (by omega) (by omega)
  have z2 := sz3 (d * 10) 3 (by omega) (by omega)
  have z3 := sz3 b 3 (by omega) (by omega)
  have v3 : (bs [86, 82, 66]).size = 3 := rfl
  have v2 : (bs [75, 84]).size = 2 := rfl
  have hcm : 10 * d = d * 10 := Int.mul_comm _ _
  unfold impl_SkyText skyW
  simp only [impl_SkyOk_eq, said_eq, h, hcm, Option.bind_some, Bool.not_true, cond_false, beq_bytes, beqI, bind_id, List.nil_append,
    fill_w s 2 2 rfl (by omega) (by omega) (by omega), fill_w b 3 3 rfl (by omega) (by omega) (by omega), w64 (n := d * 10) (by omega) (by omega), fill_w (d * 10) 3 3 rfl (by omega) (by omega) (by omega), fill_w v 4 4 rfl (by omega) (by omega) (by omega),
    ByteArray.size_append, v3, v2, show 3 + (bs (pad s 2)).size ≤ 9223372036854775807 by omega, show 3 + (bs (pad s 2)).size + 2 ≤ 9223372036854775807 by omega, show (bs (pad (d * 10) 3)).size + (bs (pad s 2)).size ≤ 9223372036854775807 by omega, show (bs (pad (d * 10) 3)).size + (bs (pad s 2)).size + 2 ≤ 9223372036854775807 by omega, show c.size + (bs (pad b 3)).size ≤ 9223372036854775807 by omega, decide_true, cond_true]
  have hskc : ¬ bs [83, 75, 67] = bs [] := by decide
  have hskc' : ¬ bs [] = bs [83, 75, 67] := by decide
  have ed : decide (d ≠ -1) = decide (0 ≤ d) := by rw [decide_eq_decide]; omega
  have ev : decide (v ≠ -1) = decide (0 ≤ v) := by rw [decide_eq_decide]; omega
  simp only [ed, ev]
  by_cases h99 : d = 99
  · have hd0 : 0 ≤ d := by omega
    by_cases hv0 : 0 ≤ v <;> by_cases hw0 : w = bs [] <;> by_cases hc0 : c = bs [83, 75, 67] <;> by_cases hc1 : c = bs [] <;> simp [h99, hv0, hw0, hc0, hc1, hskc, hskc']
  · by_cases hd0 : 0 ≤ d
    · by_cases hv0 : 0 ≤ v <;> by_cases hw0 : w = bs [] <;> by_cases hc0 : c = bs [83, 75, 67] <;> by_cases hc1 : c = bs [] <;> simp [h99, hd0, hv0, hw0, hc0, hc1, hskc, hskc']
    · by_cases hv0 : 0 ≤ v <;> by_cases hw0 : w = bs [] <;> by_cases hc0 : c = bs [83, 75, 67] <;> by_cases hc1 : c = bs [] <;> simp [h99, hd0, hv0, hw0, hc0, hc1, hskc, hskc']
theorem skyW_bound {d s v : Int} {w c : ByteArray} {b : Int} (h : skyV d s v w c b = true) : (skyW d s v w c b).length ≤ 4 ∧ ∀ x ∈ skyW d s v w c b, x.size ≤ 60 := by
  obtain ⟨hd, hs, hv, hw, hc, hb⟩ := sky_facts h
  have z1 := sz3 s 2 (by omega) (by omega)
  have z2 := sz3 (d * 10) 3 (by omega) (by omega)
  have z3 := sz3 b 3 (by omega) (by omega)
  have z4 := sz3 v 4 (by omega) (by omega)
  have v3 : (bs [86, 82, 66]).size = 3 := rfl
  have v2 : (bs [75, 84]).size = 2 := rfl
  unfold skyW
  constructor
  · simp only [List.length_append]
    have a1 : (if d = 99 then [bs [86, 82, 66] ++ bs (pad s 2) ++ bs [75, 84]] else if 0 ≤ d then [bs (pad (d * 10) 3) ++ bs (pad s 2) ++ bs [75, 84]] else []).length ≤ 1 := by (repeat' split) <;> simp
    have a2 : (if 0 ≤ v then [bs (pad v 4)] else []).length ≤ 1 := by split <;> simp
    have a3 : (if w = bs [] then [] else [w]).length ≤ 1 := by split <;> simp
    have a4 : (if c = bs [] then [] else if c = bs [83, 75, 67] then [c] else [c ++ bs (pad b 3)]).length ≤ 1 := by (repeat' split) <;> simp
    omega
  · intro x hx
    rcases List.mem_append.1 hx with hx | hx
    · split at hx
      · obtain rfl := List.mem_singleton.1 hx
        rw [ByteArray.size_append, ByteArray.size_append]; omega
      · split at hx
        · obtain rfl := List.mem_singleton.1 hx
          rw [ByteArray.size_append, ByteArray.size_append]; omega
        · simp at hx
    · rcases List.mem_append.1 hx with hx | hx
      · split at hx
        · obtain rfl := List.mem_singleton.1 hx
          omega
        · simp at hx
      · rcases List.mem_append.1 hx with hx | hx
        · split at hx
          · simp at hx
          · obtain rfl := List.mem_singleton.1 hx
            omega
        · split at hx
          · simp at hx
          · split at hx
            · obtain rfl := List.mem_singleton.1 hx
              omega
            · obtain rfl := List.mem_singleton.1 hx
              rw [ByteArray.size_append]; omega
/-- A sky's text. -/
def skyT (d s v : Int) (w c : ByteArray) (b : Int) : ByteArray := bs (J (skyW d s v w c b))
theorem J_bound {xs : List ByteArray} {m : Nat} (hs : ∀ x ∈ xs, x.size ≤ m) : (J xs).length ≤ (m + 1) * xs.length := by
  unfold J
  cases xs with
  | nil => exact Nat.zero_le _
  | cons x r =>
    rw [List.map_cons, Lib.join_cons, List.length_append, Lib.joinTail_length]
    have hx := hs x List.mem_cons_self
    have : ∀ l : List ByteArray, (∀ x ∈ l, x.size ≤ m) → Lib.lens (l.map L) ≤ m * l.length := by
      intro l
      induction l with
      | nil => intro _; exact Nat.le_refl _
      | cons y l ih =>
        intro h
        have h1 := h y List.mem_cons_self
        have h2 := ih fun z hz => h z (List.mem_cons_of_mem _ hz)
        simp only [Lib.lens, List.map_cons, List.sum_cons, L_length, List.length_cons, Nat.mul_succ] at h2 ⊢
        omega
    have h2 := this r fun z hz => hs z (List.mem_cons_of_mem _ hz)
    rw [L_length, List.length_map]
    simp only [List.length_cons, List.length_nil, Nat.mul_succ, Nat.add_mul]
    omega
theorem sky_spec {d s v : Int} {w c : ByteArray} {b : Int} (h : skyV d s v w c b = true) : spec_SkyText d s v w c b = some (skyT d s v w c b) := by
  obtain ⟨h1, h2⟩ := skyW_bound h
  rw [skyText_spec d s v w c b h]
  exact words_eq (by omega) fun x hx => Nat.le_trans (h2 x hx) (by omega)
theorem sky_impl {d s v : Int} {w c : ByteArray} {b : Int} (h : skyV d s v w c b = true) : impl_SkyText d s v w c b = some (skyT d s v w c b) := by
  obtain ⟨h1, h2⟩ := skyW_bound h
  rw [skyText_impl d s v w c b h]
  exact join_eq (by omega) fun x hx => Nat.le_trans (h2 x hx) (by omega)
theorem skyT_size {d s v : Int} {w c : ByteArray} {b : Int} (h : skyV d s v w c b = true) : (skyT d s v w c b).size ≤ 300 := by
  obtain ⟨h1, h2⟩ := skyW_bound h
  have h3 := J_bound h2
  unfold skyT
  rw [size_bs]
  omega
end Go.Proofs.YtmcmkdiefpepnaaDoor.TT
