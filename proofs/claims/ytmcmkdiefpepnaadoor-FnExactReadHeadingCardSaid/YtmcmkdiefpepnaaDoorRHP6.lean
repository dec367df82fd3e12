/-
  Part of a proof by the engine: texts that a program of ours printed, or plain lemmas on them. No condition but what each theorem says.
-/
import Derived.Test.YtmcmkdiefpepnaaDoorRHP5
set_option linter.unusedVariables false
set_option linter.unusedSimpArgs false
namespace Go.Proofs.YtmcmkdiefpepnaaDoor.RH
open Go Go.Eng Go.Proofs.YtmcmkdiefpepnaaDoor.DT Go.Proofs.YtmcmkdiefpepnaaDoor.EX
theorem pair_eq (a b v : UInt8) : (bs [a, b] = bs [v, v]) ↔ (a = v ∧ b = v) := by
  constructor
  · intro h
    have := congrArg L h
    rw [L_bs, L_bs] at this
    simpa using this
  · rintro ⟨rfl, rfl⟩; rfl
theorem impl_mark (s : ByteArray) (hs : s.size ≤ 9223372036854775807) : ∃ n, impl_MarkOf s = some (mk s, n) := by
  suffices h : ∃ n, Ev (fun k => impl_MarkOf_F k s) (mk s, n) by
    obtain ⟨n, h⟩ := h; exact ⟨n, evF_eq h⟩
  unfold impl_MarkOf_F
  simp only [beq_bytes]
  by_cases h0 : s = bs []
  · subst h0; exact ⟨0, by simp only [decide_true, cond_true]; exact ev_eq (ev_now _) (by simp [mk, L_bs])⟩
  simp only [h0, decide_false, cond_false, impl_capitals_eq 3 hs, Option.bind_some]
  by_cases h3 : s.size = 3
  · obtain ⟨a, b, c, rfl⟩ := size3 h3
    have hz : ((bs [a, b, c]).size : Int) = 3 := rfl
    have b0 : bt (bs [a, b, c]) 0 = (a.toNat : Int) := rfl
    have b2 : bt (bs [a, b, c]) 2 = (c.toNat : Int) := rfl
    have hm : mk (bs [a, b, c]) = if (isUp a && (isUp b && isUp c)) = true then (if a = 80 then 4 else if a ≠ b ∨ 88 < c.toNat then -1 else if a = 82 then 1 else if a = 67 then 2 else if a = 65 then 3 else -1) else -1 := rfl
    have hx : (bs [a, b, c]).extract (Int.toNat 0) (Int.toNat 2) = bs [a, b] := L_inj (by rw [L_extract, L_bs, L_bs]; rfl)
    rw [hm, L_bs]
    simp only [hz, b0, List.all_cons, List.all_nil, Bool.and_true, decide_true]
    cases hu : (isUp a && (isUp b && isUp c)) with
    | false => exact ⟨0, by simp only [Bool.not_false, cond_true]; exact ev_eq (ev_now _) (by simp)⟩
    | true =>
      have k80 : ((a.toNat : Int) == 80) = decide (a = 80) := by rw [beqI, decide_eq_decide]; exact u8_eq (b := 80)
      simp only [k80, Bool.not_true, cond_false, show decide ((0 : Int) < 3) = true from rfl, show decide ((1 : Int) < 3) = true from rfl, show decide ((2 : Int) < 3) = true from rfl, cond_true, if_true]
      by_cases a80 : a = 80
      · simp only [a80, decide_true, cond_true, if_true]; exact ⟨_, ev_now _⟩
      simp only [a80, decide_false, cond_false, if_false]
      have r0 : rd Kind.str [bs [82, 82], bs [67, 67], bs [65, 65]] 0 = bs [82, 82] := rfl
      have r1 : rd Kind.str [bs [82, 82], bs [67, 67], bs [65, 65]] 1 = bs [67, 67] := rfl
      have r2 : rd Kind.str [bs [82, 82], bs [67, 67], bs [65, 65]] 2 = bs [65, 65] := rfl
      have c88 : decide ((c.toNat : Int) ≤ 88) = !decide (88 < c.toNat) := by
        by_cases h : 88 < c.toNat
        · simp [h]; omega
        · simp [h]; omega
      have l3 : (([bs [82, 82], bs [67, 67], bs [65, 65]] : List ByteArray).length : Int) = 3 := rfl
      have w1 : IntKind.i64.wrap (0 + 1) = 1 := rfl
      have w2 : IntKind.i64.wrap (1 + 1) = 2 := rfl
      have w3 : IntKind.i64.wrap (2 + 1) = 3 := rfl
      have pe : ∀ v : UInt8, decide (bs [a, b] = bs [v, v]) = (decide (a = v) && decide (b = v)) := fun v => by
        rw [Bool.eq_iff_iff]; simp only [decide_eq_true_eq, Bool.and_eq_true]; exact pair_eq a b v
      have rnd : ∀ (k : Nat) (i : Int) (v : UInt8), 0 ≤ i → i < 3 → rd Kind.str [bs [82, 82], bs [67, 67], bs [65, 65]] i = bs [v, v] → impl_MarkOf_L8 (k + 1) (bs [a, b, c]) 3 i [bs [82, 82], bs [67, 67], bs [65, 65]] =
          bif (decide (a = v) && decide (b = v)) && !decide (88 < c.toNat) then some (IntKind.i64.wrap (i + 1), IntKind.i64.wrap (IntKind.i64.wrap (IntKind.u8.wrap ((c.toNat : Int) - 65)) + 1)) else impl_MarkOf_L8 k (bs [a, b, c]) 3 (IntKind.i64.wrap (i + 1)) [bs [82, 82], bs [67, 67], bs [65, 65]] := by
        intro k i v g0 g1 hr
        simp only [impl_MarkOf_L8, g0, g1, l3, hz, hx, hr, beq_bytes, pe, b2, c88, decide_true, cond_true, show decide ((0 : Int) ≤ 2) = true from rfl, show decide ((2 : Int) ≤ 3) = true from rfl, show decide ((2 : Int) < 3) = true from rfl, Bool.and_self]
        cases (decide (a = v) && decide (b = v)) <;> cases decide (88 < c.toNat) <;> rfl
      have last : Ev (fun k => impl_MarkOf_L8 k (bs [a, b, c]) 3 3 [bs [82, 82], bs [67, 67], bs [65, 65]]) (-1, 0) := by
        apply ev_succ
        simp only [impl_MarkOf_L8, Int.lt_irrefl, decide_false, cond_false]
        exact ev_now _
      have step : ∃ n, Ev (fun k => impl_MarkOf_L8 k (bs [a, b, c]) 3 0 [bs [82, 82], bs [67, 67], bs [65, 65]]) (if a ≠ b ∨ 88 < c.toNat then -1 else if a = 82 then 1 else if a = 67 then 2 else if a = 65 then 3 else -1, n) := by
        cases q1 : ((decide (a = 82) && decide (b = 82)) && !decide (88 < c.toNat)) with
        | true =>
          have q := q1
          simp only [Bool.and_eq_true, decide_eq_true_eq, Bool.not_eq_true', decide_eq_false_iff_not] at q
          refine ⟨IntKind.i64.wrap (IntKind.i64.wrap (IntKind.u8.wrap ((c.toNat : Int) - 65)) + 1), ev_eq (ev_succ (ev_congr (fun k => rnd k 0 82 (by omega) (by omega) r0) (by rw [q1]; exact ev_now _))) ?_⟩
          rw [if_neg (by rintro (h | h); exact h (q.1.1.trans q.1.2.symm); exact q.2 h), if_pos q.1.1, w1]
        | false =>
          cases q2 : ((decide (a = 67) && decide (b = 67)) && !decide (88 < c.toNat)) with
          | true =>
            have q := q2
            simp only [Bool.and_eq_true, decide_eq_true_eq, Bool.not_eq_true', decide_eq_false_iff_not] at q
            refine ⟨IntKind.i64.wrap (IntKind.i64.wrap (IntKind.u8.wrap ((c.toNat : Int) - 65)) + 1), ev_eq (ev_succ (ev_congr (fun k => rnd k 0 82 (by omega) (by omega) r0) (by rw [q1, w1]; exact ev_succ (ev_congr (fun k => rnd k 1 67 (by omega) (by omega) r1) (by rw [q2]; exact ev_now _))))) ?_⟩
            rw [if_neg (by rintro (h | h); exact h (q.1.1.trans q.1.2.symm); exact q.2 h), if_neg (by rw [q.1.1]; decide), if_pos q.1.1, w2]
          | false =>
            cases q3 : ((decide (a = 65) && decide (b = 65)) && !decide (88 < c.toNat)) with
            | true =>
              have q := q3
              simp only [Bool.and_eq_true, decide_eq_true_eq, Bool.not_eq_true', decide_eq_false_iff_not] at q
              refine ⟨IntKind.i64.wrap (IntKind.i64.wrap (IntKind.u8.wrap ((c.toNat : Int) - 65)) + 1), ev_eq (ev_succ (ev_congr (fun k => rnd k 0 82 (by omega) (by omega) r0) (by rw [q1, w1]; exact ev_succ (ev_congr (fun k => rnd k 1 67 (by omega) (by omega) r1) (by rw [q2, w2]; exact ev_succ (ev_congr (fun k => rnd k 2 65 (by omega) (by omega) r2) (by rw [q3]; exact ev_now _))))))) ?_⟩
              rw [if_neg (by rintro (h | h); exact h (q.1.1.trans q.1.2.symm); exact q.2 h), if_neg (by rw [q.1.1]; decide), if_neg (by rw [q.1.1]; decide), if_pos q.1.1, w3]
            | false =>
              refine ⟨0, ev_eq (ev_succ (ev_congr (fun k => rnd k 0 82 (by omega) (by omega) r0) (by rw [q1, w1]; exact ev_succ (ev_congr (fun k => rnd k 1 67 (by omega) (by omega) r1) (by rw [q2, w2]; exact ev_succ (ev_congr (fun k => rnd k 2 65 (by omega) (by omega) r2) (by rw [q3, w3]; exact last))))))) ?_⟩
              by_cases hab : a ≠ b ∨ 88 < c.toNat
              · rw [if_pos hab]
              · rw [if_neg hab]
                have hab' : a = b := Classical.byContradiction fun h => hab (.inl h)
                have hc : ¬ 88 < c.toNat := fun h => hab (.inr h)
                subst hab'
                rw [if_neg (by intro e; simp [e, hc] at q1), if_neg (by intro e; simp [e, hc] at q2), if_neg (by intro e; simp [e, hc] at q3)]
      exact step
  · have h3' : ¬ (s.size : Int) = 3 := by omega
    refine ⟨0, ?_⟩
    simp only [h3', decide_false, Bool.and_false, Bool.not_false, cond_true, mk_not h0 h3]
    exact ev_now _
end Go.Proofs.YtmcmkdiefpepnaaDoor.RH
