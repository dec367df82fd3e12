/-
  What the functions that write numbers come to: the reference's (l1Dec, l2Pad) and the program's (dec, fill): the decimal digits, noughts ahead. No condition.
-/
import Derived.Test.YtmcmkdiefpepnaaDoorXRS
import Derived.Test.YtmcmkdiefpepnaaDoorPureBase
namespace Go.Proofs.YtmcmkdiefpepnaaDoor.PNRS
open Go Go.RowKit Go.Proofs.YtmcmkdiefpepnaaDoorW.PrintWords Go.Proofs.YtmcmkdiefpepnaaDoor.PB Go.Proofs.YtmcmkdiefpepnaaDoor.XRS Go.Proofs.YtmcmkdiefpepnaaDoor.Ext

theorem nd_bound (u : Nat) : ∀ b, u < 10 ^ (b + 1) → Lib.nDigits u ≤ b + 1 := by
  induction u using Nat.strongRecOn with
  | _ u ih =>
    intro b hb
    rw [Lib.nDigits]
    split
    · omega
    · rename_i h
      cases b with
      | zero => omega
      | succ b =>
        have := ih (u / 10) (by omega) b (by rw [Nat.pow_succ] at hb; omega)
        omega
theorem dec_len (u : Nat) (h : u < 18446744073709551616) : (Lib.decDigits u).length ≤ 20 := by
  rw [Lib.decDigits_length]; exact nd_bound u 19 (by omega)
theorem dec_l0 (x0 : Int) : ∀ (u : Nat) (s : ByteArray), 0 < u → u < 18446744073709551616 → s.size + (Lib.decDigits u).length ≤ 40 →
    Ev (fun k => spec_l1Dec.l0 k x0 s (u : Int)) (if x0 < 0 then ⟨#[45]⟩ ++ (⟨(Lib.decDigits u).toArray⟩ ++ s) else ⟨(Lib.decDigits u).toArray⟩ ++ s) := by
  intro u
  induction u using Nat.strongRecOn with
  | _ u ih =>
    intro s h0 h1 hs
    have hd : (IntKind.u64.wrap (48 + Int.tmod (u : Int) 10)) % 256 = ((48 + u % 10 : Nat) : Int) := by
      rw [Int.tmod_eq_emod_of_nonneg (by omega), wu64 (by omega) (by omega)]; omega
    have hq : IntKind.u64.wrap (Int.tdiv (u : Int) 10) = ((u / 10 : Nat) : Int) := by
      rw [Int.tdiv_eq_ediv_of_nonneg (by omega), wu64 (by omega) (by omega)]; omega
    have hone : strOfNums [((48 + u % 10 : Nat) : Int)] = ⟨#[UInt8.ofNat (48 + u % 10)]⟩ := by
      unfold strOfNums; simp only [List.map_cons, List.map_nil, Int.toNat_natCast]
    refine ev_round (fun k => rfl) ?_
    refine ev_pos (by omega) ?_
    simp only [Option.bind_some, hd, hq, hone]
    have hsz : (⟨#[UInt8.ofNat (48 + u % 10)]⟩ : ByteArray).size = 1 := rfl
    refine ev_pos (by rw [hsz]; omega) ?_
    by_cases h : u < 10
    · have e0 : u / 10 = 0 := by omega
      have e1 : u % 10 = u := by omega
      rw [e0, e1, Lib.decDigits_one h]
      refine ev_round (fun k => rfl) ?_
      refine ev_neg (by simp) ?_
      by_cases hx : x0 < 0
      · simp only [if_pos hx]
        refine ev_pos ?_ (ev_const rfl)
        rw [ByteArray.size_append]
        have : (⟨#[UInt8.ofNat (48 + u)]⟩ : ByteArray).size = 1 := rfl
        omega
      · simp only [if_neg hx]
        exact ev_const rfl
    · have hl : (Lib.decDigits u).length = (Lib.decDigits (u / 10)).length + 1 := by rw [decDigits_step u h]; simp
      refine ev_eq (ih (u / 10) (by omega) _ (by omega) (by omega) (by rw [ByteArray.size_append, hsz]; omega)) ?_
      have : (⟨(Lib.decDigits (u / 10)).toArray⟩ : ByteArray) ++ (⟨#[UInt8.ofNat (48 + u % 10)]⟩ ++ s) = ⟨(Lib.decDigits u).toArray⟩ ++ s := by
        refine L_inj ?_
        rw [decDigits_step u h]
        simp [L]
      rw [this]
/-- The reference's decimal number. -/
theorem l1Dec_ev {n : Int} (h0 : -9223372036854775808 ≤ n) (h1 : n ≤ 9223372036854775807) : Ev (fun k => spec_l1Dec.f k n) ⟨(Lib.itoa n).toArray⟩ := by
  unfold spec_l1Dec.f
  by_cases hz : n = 0
  · subst hz
    refine ev_pos rfl (ev_eq (Ev.now _) ?_)
    rw [itoa_pos (by omega)]
    exact congrArg ByteArray.mk (congrArg List.toArray (Lib.decDigits_one (i := 0) (by omega)).symm)
  · refine ev_neg hz ?_
    have e0 : (⟨#[]⟩ : ByteArray).size = 0 := rfl
    by_cases hn : n < 0
    · refine ev_pos hn (ev_round (fun k => rfl) ?_)
      have hu : IntKind.u64.wrap (-(IntKind.u64.wrap n)) = (n.natAbs : Int) := by
        simp [IntKind.wrap, IntKind.bits, IntKind.signed]; omega
      rw [hu]
      have hl := dec_len n.natAbs (by omega)
      refine ev_eq (dec_l0 n n.natAbs _ (by omega) (by omega) (by omega)) ?_
      rw [if_pos hn]
      refine L_inj ?_
      unfold Lib.itoa
      rw [if_pos hn]
      simp [L]
    · refine ev_neg hn (ev_round (fun k => rfl) ?_)
      have hu : IntKind.u64.wrap n = (n.toNat : Int) := by rw [wu64 (by omega) (by omega)]; omega
      rw [hu]
      have hl := dec_len n.toNat (by omega)
      refine ev_eq (dec_l0 n n.toNat _ (by omega) (by omega) (by omega)) ?_
      rw [if_neg hn]
      refine L_inj ?_
      rw [itoa_pos (by omega)]
      simp [L]
theorem pad_l0 (w : Nat) (hw : w ≤ 1000) : ∀ (d : Nat) (s : ByteArray), w - s.size = d → s.size ≤ 2000 → Ev (fun k => spec_l2Pad.l0 k (w : Int) s) ⟨(List.replicate d 48 ++ L s).toArray⟩ := by
  intro d
  induction d with
  | zero =>
    intro s hd hs
    refine ev_round (fun k => rfl) (ev_neg (by omega) (ev_eq (Ev.now _) ?_))
    exact L_inj (by simp only [L_mk]; simp)
  | succ d ih =>
    intro s hd hs
    refine ev_round (fun k => rfl) (ev_pos (by omega) (ev_pos (by omega) ?_))
    have e1 : (⟨#[48]⟩ : ByteArray).size = 1 := rfl
    refine ev_eq (ih _ (by rw [ByteArray.size_append, e1]; omega) (by rw [ByteArray.size_append, e1]; omega)) ?_
    refine L_inj ?_
    simp only [L_mk]
    have e2 : L ((⟨#[48]⟩ : ByteArray) ++ s) = 48 :: L s := by rw [L_append]; rfl
    rw [e2, show List.replicate (d + 1) (48 : UInt8) = List.replicate d 48 ++ [48] from List.replicate_succ']
    simp
theorem itoa_len {n : Int} (h0 : -9223372036854775808 ≤ n) (h1 : n ≤ 9223372036854775807) : (Lib.itoa n).length ≤ 21 := Lib.itoa_length_le n h0 h1
/-- The reference's padded number. -/
theorem l2Pad_ev {n : Int} {w : Nat} (h0 : -9223372036854775808 ≤ n) (h1 : n ≤ 9223372036854775807) (hw : w ≤ 1000) : Ev (fun k => spec_l2Pad.f k n (w : Int)) ⟨(pad n w).toArray⟩ := by
  unfold spec_l2Pad.f
  refine Ev.bind (l1Dec_ev h0 h1) ?_
  have hl := itoa_len h0 h1
  refine ev_eq (pad_l0 w hw (w - (Lib.itoa n).length) _ (by rw [size_mk]) (by rw [size_mk]; omega)) ?_
  simp only [L_mk]; rfl
theorem dec_eq {n : Int} (h0 : -9223372036854775808 ≤ n) (h1 : n ≤ 9223372036854775807) : impl_dec.f n = some ⟨(Lib.itoa n).toArray⟩ := by
  unfold impl_dec.f strconv_FormatInt.f
  rw [if_pos ⟨rfl, h0, h1⟩]; rfl
/-- The program's padded number. -/
theorem fill_eq {n : Int} {w : Nat} (h0 : -9223372036854775808 ≤ n) (h1 : n ≤ 9223372036854775807) (hw : w ≤ 1000) : impl_fill.f n (w : Int) = some ⟨(pad n w).toArray⟩ := by
  have hl := itoa_len h0 h1
  unfold impl_fill.f
  rw [dec_eq h0 h1]
  simp only [Option.bind_some, size_mk]
  have hm : mx 0 (wrap64 ((w : Int) - ((Lib.itoa n).length : Int))) = ((w - (Lib.itoa n).length : Nat) : Int) := by
    rw [w64 (by omega) (by omega)]; unfold mx; split <;> omega
  have e1 : (⟨#[48]⟩ : ByteArray).size = 1 := rfl
  rw [hm]
  unfold strings_Repeat.f
  rw [if_pos ⟨by omega, by omega, by rw [e1]; omega⟩]
  simp only [Option.bind_some]
  have hr : Lib.repeatL (⟨#[48]⟩ : ByteArray).data.toList ((w - (Lib.itoa n).length : Nat) : Int).toNat = List.replicate (w - (Lib.itoa n).length) 48 := repeat_one _
  rw [hr, size_mk, List.length_replicate, if_pos (by omega)]
  refine congrArg some (L_inj ?_)
  rw [L_append]; simp only [L_mk]; rfl
end Go.Proofs.YtmcmkdiefpepnaaDoor.PNRS
