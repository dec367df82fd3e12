/-
  What a stamp's reader does with one part of its text (its inner function): -1 where a sign is no digit, else the number; in the form of the printed texts. Conditions: the part lies within the text; the text has at most 1000 bytes.
-/
import Derived.Test.YtmcmkdiefpepnaaDoorXDG1
import Derived.Test.YtmcmkdiefpepnaaDoorShelfParse
import Derived.Test.YtmcmkdiefpepnaaDoorExtStr
import Derived.Test.YtmcmkdiefpepnaaDoorPureBase
namespace Go.Proofs.YtmcmkdiefpepnaaDoor.Ext
open Go Go.RowKit Go.Proofs.YtmcmkdiefpepnaaDoorW.PrintWords Go.Proofs.YtmcmkdiefpepnaaDoorW.PrintLast Go.Proofs.YtmcmkdiefpepnaaDoor.PB Go.Proofs.YtmcmkdiefpepnaaDoor.Sq Go.Proofs.YtmcmkdiefpepnaaDoor.XDG

def digB (c : UInt8) : Bool := decide (48 ≤ c.toNat) && decide (c.toNat ≤ 57)
theorem digits_l0 (s : ByteArray) (hs : s.size ≤ 1000000) : ∀ (d i : Nat), (L s).length - i = d → i ≤ (L s).length → Ev (fun k => impl_digits.l0 k s (i : Int)) (((L s).drop i).all digB && decide (0 < s.size)) := by
  intro d
  have hz := L_length s
  induction d with
  | zero =>
    intro i hd hi
    refine ev_round (fun k => rfl) (ev_neg (by omega) (ev_eq (Ev.now _) ?_))
    rw [List.drop_eq_nil_of_le (by omega), List.all_nil, Bool.true_and, Bool.eq_iff_iff, decide_eq_true_eq, decide_eq_true_eq]; omega
  | succ d ih =>
    intro i hd hi
    have hl : i < (L s).length := by omega
    have hu := u8_lt (L s)[i]
    refine ev_round (fun k => rfl) (ev_pos (by omega) (ev_pos (by omega) ?_))
    rw [List.drop_eq_getElem_cons hl, List.all_cons, bt_nat s i hl]
    by_cases h1 : (((L s)[i]).toNat : Int) < 48
    · refine ev_pos h1 (ev_eq (Ev.now _) ?_)
      have : digB (L s)[i] = false := by unfold digB; simp; omega
      rw [this]; simp
    · refine ev_neg h1 ?_
      by_cases h2 : (((L s)[i]).toNat : Int) > 57
      · refine ev_pos h2 (ev_eq (Ev.now _) ?_)
        have : digB (L s)[i] = false := by unfold digB; simp; omega
        rw [this]; simp
      · refine ev_neg h2 ?_
        have : digB (L s)[i] = true := by unfold digB; simp; omega
        rw [this, Bool.true_and, w64 (by omega) (by omega)]
        exact ih (i + 1) (by omega) (by omega)
theorem digits_ev (s : ByteArray) (hs : s.size ≤ 1000000) : Ev (fun k => impl_digits.f k s) ((L s).all digB && decide (0 < s.size)) :=
  ev_eq (digits_l0 s hs (L s).length 0 (by omega) (by omega)) (by simp)

def impl_ReadStamp_1.f (a0 a1 : Int) (x : ByteArray) : Option Int :=
  if 0 ≤ a0 ∧ a0 ≤ a1 ∧ a1 ≤ (x.size : Int) ∧ x.size ≤ 1000 then
    (if ((L (x.extract a0.toNat a1.toNat)).all digB && decide (0 < (x.extract a0.toNat a1.toNat).size)) = true then
      (match Lib.parseIntB 64 (x.extract a0.toNat a1.toNat).data.toList with | .ok v => some v | _ => none)
     else some (-1))
  else none
theorem below_bytes {w w' : World} {n : Nat} (h : w' = w ∨ ∃ t, w' = Lib.bytesWorld w n t) : Below w.heap.size w w' := by
  rcases h with rfl | ⟨t, rfl⟩
  · exact Below.refl _ _
  · exact Lib.bytesWorld_below w n t
theorem impl_ReadStamp_1.calls (a0 a1 : Int) (x : ByteArray) (g : Nat) (r : Int) (w : World) (hx : w.cell? ⟨g, 0, none⟩ = some (.string x)) (h : impl_ReadStamp_1.f a0 a1 x = some r) :
    Calls Tryd.prog 95 #[.int .i64 a0, .int .i64 a1, .pointer (some ⟨g, 0, none⟩)] w fun e w' => e = .returned (.int .i64 r) ∧ Below w.heap.size w w' := by
  unfold impl_ReadStamp_1.f at h
  split at h
  · rename_i c
    obtain ⟨h0, h1, h2, h3⟩ := c
    have p0 := eq_true h0
    have p1 := eq_true h1
    have p2 := eq_true h2
    obtain ⟨k, hk⟩ := (digits_ev (x.extract a0.toNat a1.toNat) (by rw [ByteArray.size_extract]; omega)).rounds
    have HB := am (Below.refl w.heap.size w)
    by_cases hd : ((L (x.extract a0.toNat a1.toNat)).all digB && decide (0 < (x.extract a0.toNat a1.toNat).size)) = true
    · rw [if_pos hd] at h
      rw [hd] at hk
      have hv : Lib.parseIntB 64 (x.extract a0.toNat a1.toNat).data.toList = .ok r := by
        split at h
        · rename_i v hv; cases h; exact hv
        · cases h
      go_enter Tryd.func95, Tryd.ntmps95
      go_wp2_with (first | (go_at_call 96; (with_reducible refine (impl_digits.calls k _ true _ hk).mono ?_); rintro e w' ⟨rfl, ⟨nd, rfl⟩⟩) | (go_at_call 97; (with_reducible refine (Tryd.strconv_ParseInt_10_at64_ok _ (by rw [ByteArray.size_extract]; omega) r hv _).mono ?_); rintro e w2 ⟨rfl, hb⟩; have HB2 := am (below_step (bl HB) (below_bytes hb)); clear hb))
      go_ret
      exact ⟨rfl, bl HB2⟩
    · rw [if_neg hd] at h
      rw [Bool.eq_false_iff.mpr hd] at hk
      obtain rfl := Option.some.inj h
      go_enter Tryd.func95, Tryd.ntmps95
      go_wp2_with (first | (go_at_call 96; (with_reducible refine (impl_digits.calls k _ false _ hk).mono ?_); rintro e w' ⟨rfl, ⟨nd, rfl⟩⟩))
      go_ret
      exact ⟨rfl, bl HB⟩
  · cases h
end Go.Proofs.YtmcmkdiefpepnaaDoor.Ext
