/-
  Part of a proof by the engine: texts that a program of ours printed, or plain lemmas on them. No condition but what each theorem says.
-/
import Derived.Test.YtmcmkdiefpepnaaDoorRHP7
set_option linter.unusedVariables false
set_option linter.unusedSimpArgs false
namespace Go.Proofs.YtmcmkdiefpepnaaDoor.RH
open Go Go.Eng Go.Proofs.YtmcmkdiefpepnaaDoor.DT Go.Proofs.YtmcmkdiefpepnaaDoor.EX
theorem num2 {s : ByteArray} {i j : Nat} (hs : (s.extract i j).size = 2) : spec_l2Number (s.extract i j) = some (if (L (s.extract i j)).all isDig = true then sp s i j else -1) := number_eq (by omega) (by omega)
noncomputable abbrev specL (k : Nat) (n : Int) (ps : List ByteArray) := spec_ReadHeading_L6 k n (bs []) (bs []) 0 (bs []) 0 0 0 (bs []) (bs []) (bs []) 0 (bs []) 0 0 0 (bs []) ps
noncomputable abbrev implL (k : Nat) (N n : Int) (ps : List ByteArray) := impl_ReadHeading_L5 k N n (bs []) (bs []) 0 (bs []) 0 0 0 (bs []) ps
theorem spec_tail (k : Nat) (p0 p1 p2 : ByteArray) (ms : List ByteArray) (hms : ms.length ≤ 1) (hsz : ∀ m ∈ ms, m.size ≤ 9223372036854775807) :
    specL (k + 1) (((p0 :: p1 :: p2 :: ms).length : Nat) : Int) (p0 :: p1 :: p2 :: ms) = some (rhv p0 p1 p2 ms) := by
  have r0 : rd Kind.str (p0 :: p1 :: p2 :: ms) 0 = p0 := rfl
  have r1 : rd Kind.str (p0 :: p1 :: p2 :: ms) 1 = p1 := rfl
  have r2 : rd Kind.str (p0 :: p1 :: p2 :: ms) 2 = p2 := rfl
  have hl : (((p0 :: p1 :: p2 :: ms).length : Nat) : Int) = (ms.length : Int) + 3 := by simp; omega
  unfold specL rhv
  simp only [spec_ReadHeading_L6, r0, r1, r2, hl, Int.lt_irrefl, decide_false, cond_false, show (0 : Int) < (ms.length : Int) + 3 by omega, show (1 : Int) < (ms.length : Int) + 3 by omega, show (2 : Int) < (ms.length : Int) + 3 by omega, decide_true, cond_true, bneI]
  by_cases h0 : p0.size = 6
  · have h0' : (p0.size : Int) = 6 := by omega
    obtain ⟨z1, z2, z3, z4⟩ := ext_size6 h0
    have hcap : spec_l4Letters (p0.extract 0 4) = some ((L (p0.extract 0 4)).all isUp) := spec_l4Letters_eq (by omega)
    have hno : spec_l2Number (p0.extract 4 6) = some (if (L (p0.extract 4 6)).all isDig = true then sp p0 4 6 else -1) := num2 z3
    have i0 : Int.toNat 0 = 0 := rfl
    have i2 : Int.toNat 2 = 2 := rfl
    have i4 : Int.toNat 4 = 4 := rfl
    have i6 : Int.toNat 6 = 6 := rfl
    rw [if_pos h0]
    simp only [h0', hcap, hno, i0, i2, i4, i6, decide_true, Bool.not_true, cond_false, cond_true, show decide ((0 : Int) ≤ 4) = true from rfl, show decide ((4 : Int) ≤ 6) = true from rfl, show decide ((0 : Int) ≤ 2) = true from rfl, show decide ((2 : Int) ≤ 6) = true from rfl, Bool.and_self, Option.bind_some, if_true]
    cases hc : (L (p0.extract 0 4)).all isUp with
    | false => simp [kindOk, hc, no]
    | true =>
      cases hd : (L (p0.extract 4 6)).all isDig with
      | false => simp [kindOk, hc, hd, no]
      | true =>
        have hr := sp_range z3 hd
        simp only [kindOk, hc, hd, if_true, Bool.not_true, cond_false, show ¬ sp p0 4 6 < 0 by omega, decide_false, Bool.and_self, spec_l4CentreOk_eq, Option.bind_some]
        cases hv : centreV p1 with
        | false => simp [no]
        | true =>
          simp only [Bool.not_true, cond_false, if_true]
          by_cases h2 : p2.size = 6
          · have h2' : (p2.size : Int) = 6 := by omega
            obtain ⟨y1, y2, y3, _⟩ := ext_size6 h2
            have hn2 : spec_l2Number p2 = some (if (L p2).all isDig = true then spell 0 (L p2) else -1) := number_eq (by omega) (by omega)
            rw [if_pos h2]
            simp only [h2', hn2, i6, decide_true, Bool.not_true, cond_false, Option.bind_some, if_true]
            cases hd2 : (L p2).all isDig with
            | false => simp [no]
            | true =>
              have sge : ∀ (l : List UInt8) (a : Int), l.all isDig = true → 0 ≤ a → 0 ≤ spell a l := by
                intro l
                induction l with
                | nil => intro a _ h; exact h
                | cons c l ih =>
                  intro a hl ha
                  simp only [List.all_cons, Bool.and_eq_true, isDig, decide_eq_true_eq] at hl
                  exact ih _ (by simp only [List.all_eq_true]; intro x hx; have := hl.2; rw [List.all_eq_true] at this; have := this x hx; simpa [isDig] using this) (by omega)
              have hge := sge (L p2) 0 hd2 (by omega)
              have e1 := all_ext hd2 0 2
              have e2 := all_ext hd2 2 4
              have e3 := all_ext hd2 4 6
              have hab := up_ext h0 hc
              have b1 := sp_range y1 e1
              have b2 := sp_range y2 e2
              have b3 := sp_range y3 e3
              have ok0 : ∀ m : ByteArray, m.size ≤ 9223372036854775807 → spec_l4HeadingOk (p0.extract 0 2) (p0.extract 2 4) (sp p0 4 6) p1 (sp p2 0 2) (sp p2 2 4) (sp p2 4 6) m = some (timeOk (sp p2 0 2) (sp p2 2 4) (sp p2 4 6) && decide (0 ≤ mk m)) := fun m hm => hok z1 z2 hab hv hr b2.1 b3.1 hm
              have mk0 : decide ((0 : Int) ≤ mk (bs [])) = true := by decide
              simp only [num2 y1, num2 y2, num2 y3, e1, e2, e3, if_true, show ¬ spell 0 (L p2) < 0 by omega, decide_false, cond_false, Option.bind_some, ok0 (bs []) (by decide), mk0, Bool.and_true]
              cases ht : timeOk (sp p2 0 2) (sp p2 2 4) (sp p2 4 6) with
              | false => simp [no]
              | true =>
                match ms, hms with
                | [], _ => simp [markv, okv, ok0 (bs []) (by decide), ht, mk0]
                | [m], _ =>
                  have hm := hsz m (by simp)
                  have r3 : rd Kind.str [p0, p1, p2, m] 3 = m := rfl
                  have l4 : ((([m] : List ByteArray).length : Nat) : Int) + 3 = 4 := rfl
                  simp only [l4, r3, ok0 m hm, ht, beq_self_eq_true, Bool.not_true, cond_false, cond_true, Option.bind_some, show decide ((3 : Int) < 4) = true from rfl, Bool.true_and, if_true]
                  rcases mk_cases m with h | h
                  · rw [h]; simp [markv, h, no]
                  · simp [markv, h, show ¬ mk m = -1 by omega, okv]
          · have h2' : ¬ (p2.size : Int) = 6 := by omega
            simp [h2', h2, no]
  · have h0' : ¬ (p0.size : Int) = 6 := by omega
    simp [h0', h0, no]
theorem wh {s : ByteArray} {i j : Nat} (hs : (s.extract i j).size = 2) (hd : (L (s.extract i j)).all isDig = true) : impl_whole (s.extract i j) = some (sp s i j) := whole_eq hs hd
theorem impl_tail (k : Nat) (p0 p1 p2 : ByteArray) (ms : List ByteArray) (hms : ms.length ≤ 1) (hsz : ∀ m ∈ ms, m.size ≤ 9223372036854775807) :
    implL (k + 1) (((p0 :: p1 :: p2 :: ms).length : Nat) : Int) (((p0 :: p1 :: p2 :: ms).length : Nat) : Int) (p0 :: p1 :: p2 :: ms) = some (rhv p0 p1 p2 ms) := by
  have r0 : rd Kind.str (p0 :: p1 :: p2 :: ms) 0 = p0 := rfl
  have r1 : rd Kind.str (p0 :: p1 :: p2 :: ms) 1 = p1 := rfl
  have r2 : rd Kind.str (p0 :: p1 :: p2 :: ms) 2 = p2 := rfl
  have hl : (((p0 :: p1 :: p2 :: ms).length : Nat) : Int) = (ms.length : Int) + 3 := by simp; omega
  unfold implL rhv
  simp only [impl_ReadHeading_L5, r0, r1, r2, hl, Int.lt_irrefl, decide_false, cond_false, show (0 : Int) < (ms.length : Int) + 3 by omega, show (1 : Int) < (ms.length : Int) + 3 by omega, show (2 : Int) < (ms.length : Int) + 3 by omega, decide_true, cond_true, bneI]
  by_cases h0 : p0.size = 6
  · have h0' : (p0.size : Int) = 6 := by omega
    obtain ⟨z1, z2, z3, z4⟩ := ext_size6 h0
    have hcap : impl_capitals (p0.extract 0 4) 4 = some ((L (p0.extract 0 4)).all isUp) := by rw [impl_capitals_eq 4 (by omega), z4]; simp
    have hno : impl_digits (p0.extract 4 6) = some ((L (p0.extract 4 6)).all isDig) := by rw [impl_digits_eq (by omega), z3]; simp
    have i0 : Int.toNat 0 = 0 := rfl
    have i2 : Int.toNat 2 = 2 := rfl
    have i4 : Int.toNat 4 = 4 := rfl
    have i6 : Int.toNat 6 = 6 := rfl
    rw [if_pos h0]
    simp only [h0', hcap, hno, i0, i2, i4, i6, decide_true, Bool.not_true, cond_false, cond_true, show decide ((0 : Int) ≤ 4) = true from rfl, show decide ((4 : Int) ≤ 6) = true from rfl, show decide ((0 : Int) ≤ 2) = true from rfl, show decide ((2 : Int) ≤ 6) = true from rfl, Bool.and_self, Option.bind_some, if_true, show decide ((2 : Int) ≤ 4) = true from rfl]
    cases hc : (L (p0.extract 0 4)).all isUp with
    | false => simp [kindOk, hc, no]
    | true =>
      cases hd : (L (p0.extract 4 6)).all isDig with
      | false => simp [kindOk, hc, hd, no]
      | true =>
        simp only [kindOk, hc, hd, if_true, Bool.not_true, cond_false, Bool.and_self, wh z3 hd, impl_centreOk_eq, Option.bind_some]
        cases hv : centreV p1 with
        | false => simp [no]
        | true =>
          simp only [Bool.not_true, cond_false, if_true]
          by_cases h2 : p2.size = 6
          · have h2' : (p2.size : Int) = 6 := by omega
            obtain ⟨y1, y2, y3, _⟩ := ext_size6 h2
            have hn2 : impl_digits p2 = some ((L p2).all isDig) := by rw [impl_digits_eq (by omega), h2]; simp
            rw [if_pos h2]
            simp only [h2', hn2, i6, decide_true, Bool.not_true, cond_false, Option.bind_some, if_true]
            cases hd2 : (L p2).all isDig with
            | false => simp [no]
            | true =>
              have e1 := all_ext hd2 0 2
              have e2 := all_ext hd2 2 4
              have e3 := all_ext hd2 4 6
              simp only [wh y1 e1, wh y2 e2, wh y3 e3, Bool.not_true, cond_false, if_true, Option.bind_some, in_eq]
              have end1 : (bif (ms.length : Int) + 3 == 4 then bif decide (3 < (ms.length : Int) + 3) then (bif decide (3 < (ms.length : Int) + 3) then (impl_MarkOf (rd Kind.str (p0 :: p1 :: p2 :: ms) 3)).bind fun val_7 => bif val_7.fst == -1 then some (no 5) else some (okv p0 p1 p2 (rd Kind.str (p0 :: p1 :: p2 :: ms) 3)) else none) else none else some (okv p0 p1 p2 (bs []))) = some (markv p0 p1 p2 ms) := by
                match ms, hms with
                | [], _ => rfl
                | [m], _ =>
                  obtain ⟨x, hx⟩ := impl_mark m (hsz m (by simp))
                  have r3 : rd Kind.str [p0, p1, p2, m] 3 = m := rfl
                  have l4 : ((([m] : List ByteArray).length : Nat) : Int) + 3 = 4 := rfl
                  simp only [l4, r3, hx, beq_self_eq_true, cond_true, Option.bind_some, show decide ((3 : Int) < 4) = true from rfl, beqI]
                  by_cases h : mk m = -1 <;> simp [h, markv]
              simp only [no, okv] at end1
              clear hms hsz
              simp only [end1, no, okv, timeOk, gt_iff_lt]
              by_cases t1 : 1 ≤ sp p2 0 2
              · by_cases t2 : sp p2 0 2 ≤ 31
                · by_cases t3 : sp p2 2 4 ≤ 23
                  · by_cases t4 : sp p2 4 6 ≤ 59
                    · simp [t1, t2, t3, t4, show ¬ 23 < sp p2 2 4 by omega, show ¬ 59 < sp p2 4 6 by omega]
                    · simp [t1, t2, t3, t4, show ¬ 23 < sp p2 2 4 by omega, show 59 < sp p2 4 6 by omega]
                  · simp [t1, t2, t3, show 23 < sp p2 2 4 by omega]
                · simp [t1, t2]
              · simp [t1]
          · have h2' : ¬ (p2.size : Int) = 6 := by omega
            simp [h2', h2, no]
  · have h0' : ¬ (p0.size : Int) = 6 := by omega
    simp [h0', h0, no]
end Go.Proofs.YtmcmkdiefpepnaaDoor.RH
