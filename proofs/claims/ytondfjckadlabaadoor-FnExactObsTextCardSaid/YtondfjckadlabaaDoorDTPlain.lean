/-
  Part of a proof by the engine: texts that a program of ours printed, or plain lemmas on them. No condition but what each theorem says.
-/
import Derived.Test.YtondfjckadlabaaDoorDT
import Derived.Test.YtondfjckadlabaaDoorCal
set_option linter.unusedVariables false
set_option linter.unusedSimpArgs false
namespace Go.Proofs.YtondfjckadlabaaDoor.DT
open Go Go.Eng Go.Proofs.YtondfjckadlabaaDoor.EX
theorem in_eq (a b c : Int) : impl_in a b c = some (decide (b ≤ a) && decide (a ≤ c)) := by
  unfold impl_in
  by_cases h : a ≥ b
  · simp [h]
  · simp [h]
/-! ### numbers -/
theorem dec_loop (x0 : Int) : ∀ (u : Nat) (s : ByteArray), 0 < u → u < 18446744073709551616 → s.size + (Lib.decDigits u).length ≤ 40 →
    Ev (fun k => spec_l1Dec_L7 k x0 s (u : Int)) (if x0 < 0 then bs [45] ++ (bs (Lib.decDigits u) ++ s) else bs (Lib.decDigits u) ++ s) := by
  intro u
  induction u using Nat.strongRecOn with
  | _ u ih =>
    intro s h0 h1 hs
    have hd : IntKind.u8.wrap (IntKind.u64.wrap (48 + Int.tmod (u : Int) 10)) = ((48 + u % 10 : Nat) : Int) := by
      rw [Int.tmod_eq_emod_of_nonneg (by omega), wu64 (by omega) (by omega), wu8 (by omega) (by omega)]; omega
    have hq : IntKind.u64.wrap (Int.tdiv (u : Int) 10) = ((u / 10 : Nat) : Int) := by
      rw [Int.tdiv_eq_ediv_of_nonneg (by omega), wu64 (by omega) (by omega)]; omega
    have hone : bytesOf [((48 + u % 10 : Nat) : Int)] = bs [UInt8.ofNat (48 + u % 10)] := rfl
    have hsz : (bs [UInt8.ofNat (48 + u % 10)]).size = 1 := rfl
    apply ev_succ
    simp only [spec_l1Dec_L7, show (u : Int) > 0 by omega, decide_true, cond_true, hd, hq, hone, hsz, show 1 + s.size ≤ 9223372036854775807 by omega]
    by_cases h : u < 10
    · have e0 : u / 10 = 0 := by omega
      have e1 : u % 10 = u := by omega
      rw [e0, e1, Lib.decDigits_one h]
      apply ev_succ
      simp only [spec_l1Dec_L7, show ¬ ((0 : Nat) : Int) > 0 by omega, decide_false, cond_false]
      by_cases hx : x0 < 0
      · simp only [hx, decide_true, cond_true, if_true, show (bs [45]).size + (bs [UInt8.ofNat (48 + u)] ++ s).size ≤ 9223372036854775807 by rw [ByteArray.size_append]; simp only [size_bs, List.length_singleton]; omega]
        exact ev_now _
      · simp only [hx, decide_false, cond_false, if_false]
        exact ev_now _
    · have hl : (Lib.decDigits u).length = (Lib.decDigits (u / 10)).length + 1 := by rw [decDigits_step u h]; simp
      refine ev_eq (ih (u / 10) (by omega) _ (by omega) (by omega) (by rw [ByteArray.size_append, hsz]; omega)) ?_
      have : bs (Lib.decDigits (u / 10)) ++ (bs [UInt8.ofNat (48 + u % 10)] ++ s) = bs (Lib.decDigits u) ++ s := by
        refine L_inj ?_
        rw [decDigits_step u h]
        simp [L_append, L_bs]
      rw [this]
theorem l1Dec_eq {n : Int} (h0 : -9223372036854775808 ≤ n) (h1 : n ≤ 9223372036854775807) : spec_l1Dec n = some (bs (Lib.itoa n)) := by
  refine evF_eq ?_
  unfold spec_l1Dec_F
  by_cases hz : n = 0
  · subst hz
    simp only [beq_self_eq_true, cond_true]
    refine ev_eq (ev_now _) ?_
    rw [itoa_pos (by omega)]
    exact congrArg bs (Lib.decDigits_one (i := 0) (by omega)).symm
  · simp only [beqI, hz, decide_false, cond_false]
    by_cases hn : n < 0
    · have hu : IntKind.u64.wrap (0 - (IntKind.u64.wrap n)) = (n.natAbs : Int) := by
        simp [IntKind.wrap, IntKind.bits, IntKind.signed]; omega
      simp only [hn, decide_true, cond_true, hu]
      have hl := dec_len n.natAbs (by omega)
      refine ev_eq (dec_loop n n.natAbs _ (by omega) (by omega) (by rw [size_bs]; simp; omega)) ?_
      rw [if_pos hn]
      refine L_inj ?_
      unfold Lib.itoa
      rw [if_pos hn]
      simp [L_append, L_bs]
    · have hu : IntKind.u64.wrap n = (n.toNat : Int) := by rw [wu64 (by omega) (by omega)]; omega
      simp only [hn, decide_false, cond_false, hu]
      have hl := dec_len n.toNat (by omega)
      refine ev_eq (dec_loop n n.toNat _ (by omega) (by omega) (by rw [size_bs]; simp; omega)) ?_
      rw [if_neg hn]
      refine L_inj ?_
      rw [itoa_pos (by omega)]
      simp [L_append, L_bs]
theorem pad_loop (w : Nat) (hw : w ≤ 1000) : ∀ (d : Nat) (s : ByteArray), w - s.size = d → s.size ≤ 2000 → Ev (fun k => spec_l2Pad_L2 k (w : Int) s) (bs (List.replicate d 48 ++ L s)) := by
  intro d
  induction d with
  | zero =>
    intro s hd hs
    apply ev_succ
    simp only [spec_l2Pad_L2, show ¬ (s.size : Int) < (w : Int) by omega, decide_false, cond_false]
    exact ev_eq (ev_now _) (by simp [bs_L])
  | succ d ih =>
    intro s hd hs
    have e1 : (bs [48]).size = 1 := rfl
    apply ev_succ
    simp only [spec_l2Pad_L2, show (s.size : Int) < (w : Int) by omega, decide_true, cond_true, e1, show 1 + s.size ≤ 9223372036854775807 by omega]
    refine ev_eq (ih _ (by rw [ByteArray.size_append, e1]; omega) (by rw [ByteArray.size_append, e1]; omega)) ?_
    rw [L_append, L_bs, List.replicate_succ']
    simp
theorem itoa_len {n : Int} (h0 : -9223372036854775808 ≤ n) (h1 : n ≤ 9223372036854775807) : (Lib.itoa n).length ≤ 21 := Lib.itoa_length_le n h0 h1
theorem l2Pad_eq {n : Int} {w : Nat} (h0 : -9223372036854775808 ≤ n) (h1 : n ≤ 9223372036854775807) (hw : w ≤ 1000) : spec_l2Pad n (w : Int) = some (bs (pad n w)) := by
  refine evF_eq ?_
  simp only [spec_l2Pad_F, l1Dec_eq h0 h1, Option.bind_some]
  have := itoa_len h0 h1
  refine ev_eq (pad_loop w hw _ _ rfl (by rw [size_bs]; omega)) ?_
  rw [size_bs, L_bs]; rfl
theorem dec_eq {n : Int} (h0 : -9223372036854775808 ≤ n) (h1 : n ≤ 9223372036854775807) : impl_dec n = some (bs (Lib.itoa n)) := by
  simp [impl_dec, dFmt, h0, h1]
theorem pad_len {n : Int} {w : Nat} (h0 : -9223372036854775808 ≤ n) (h1 : n ≤ 9223372036854775807) : (pad n w).length ≤ 21 + w := by
  have := itoa_len h0 h1
  simp [pad]; omega
theorem fill_eq {n : Int} {w : Nat} (h0 : -9223372036854775808 ≤ n) (h1 : n ≤ 9223372036854775807) (hw : w ≤ 1000) : impl_fill n (w : Int) = some (bs (pad n w)) := by
  have hl := itoa_len h0 h1
  unfold impl_fill
  rw [dec_eq h0 h1, Option.bind_some, size_bs, w64 (by omega) (by omega)]
  have hc : (if (w : Int) - ((Lib.itoa n).length : Int) > 0 then (w : Int) - ((Lib.itoa n).length : Int) else 0) = ((w - (Lib.itoa n).length : Nat) : Int) := by split <;> omega
  rw [hc]
  have hr : dRep (bs [48]) ((w - (Lib.itoa n).length : Nat) : Int) = some (bs (List.replicate (w - (Lib.itoa n).length) 48)) := by
    unfold dRep
    simp only [size_bs, List.length_singleton, Int.toNat_natCast, Nat.one_mul, show (0 : Int) ≤ ((w - (Lib.itoa n).length : Nat) : Int) by omega, show ((w - (Lib.itoa n).length : Nat) : Int) ≤ 9223372036854775807 by omega, show w - (Lib.itoa n).length ≤ 140737488355328 by omega, decide_true, Bool.and_self, cond_true]
    congr 2
    exact repeat_one _
  rw [hr, Option.bind_some]
  simp only [size_bs, List.length_replicate, show w - (Lib.itoa n).length + (Lib.itoa n).length ≤ 9223372036854775807 by omega, decide_true, cond_true]
  congr 1
end Go.Proofs.YtondfjckadlabaaDoor.DT
