/-
  Part of a proof by the engine: texts that a program of ours printed, or plain lemmas on them. No condition but what each theorem says.
-/
import Derived.Test.YtgkejafaggaocaaDoorTB
import Derived.Test.YtgkejafaggaocaaDoorRNPlain
import Derived.Test.YtgkejafaggaocaaDoorDRP
import Derived.Test.YtgkejafaggaocaaDoorFT
set_option linter.unusedVariables false
set_option linter.unusedSimpArgs false
namespace Go.Proofs.YtgkejafaggaocaaDoor.TB
open Go Go.Eng Go.FT Go.Proofs.YtgkejafaggaocaaDoor.DT Go.Proofs.YtgkejafaggaocaaDoor.EX Go.Proofs.YtgkejafaggaocaaDoor.NR Go.Proofs.YtgkejafaggaocaaDoor.TD Go.Proofs.YtgkejafaggaocaaDoor.RN Go.Proofs.YtgkejafaggaocaaDoor.DR
theorem fin_ten {p : Nat} (hp : p ≤ 6) : Fin (tenB p) (((10 ^ p : Nat) : Int) * (DD : Int)) ∧ 1 ≤ 10 ^ p ∧ 10 ^ p ≤ 17179869184 := by
  have h1 : 10 ^ p ≤ 10 ^ 6 := Nat.pow_le_pow_right (by omega) hp
  have h6 : (10 : Nat) ^ 6 = 1000000 := by decide
  have h0 : 0 < 10 ^ p := Nat.pow_pos (by omega)
  rw [← ten_of p (by omega)]
  refine ⟨fin_of ?_, h0, by omega⟩
  have : (2 : Nat) ^ 53 = 9007199254740992 := by decide
  omega
theorem near_one {y : Nat} {Y n : Int} (h : Fin y Y) (hd : 2 * (Y - n * (DD : Int)).natAbs < DD) (hn : n.natAbs < 1000000000000000) : impl_Nearest y = some (n, true) := by
  have hD := DD_pos
  have hi : inBig Y = true := by
    unfold inBig big
    have h1 : n * (DD : Int) ≤ 999999999999999 * (DD : Int) := Int.mul_le_mul_of_nonneg_right (by omega) (by omega)
    have h2 : -999999999999999 * (DD : Int) ≤ n * (DD : Int) := Int.mul_le_mul_of_nonneg_right (by omega) (by omega)
    rw [Bool.and_eq_true, decide_eq_true_eq, decide_eq_true_eq]
    generalize n * (DD : Int) = q at hd h1 h2
    omega
  rw [impl_in' h hi, near_close hd]
theorem edge_back : ∀ p, p < 7 → fmul (fdiv (fofi 1000000000000000) (tenB p)) (tenB p) = fofi 1000000000000000 ∧ fmul (fdiv (fofi (-1000000000000000)) (tenB p)) (tenB p) = fofi (-1000000000000000) := by decide +kernel
theorem near_edge {n : Int} (hn : n.natAbs = 1000000000000000) : impl_Nearest (fofi n) = some (n, true) := by
  have hD := DD_pos
  have hf : Fin (fofi n) (n * (DD : Int)) := fin_of (by
    have : (2 : Nat) ^ 53 = 9007199254740992 := by decide
    omega)
  have hi : inBig (n * (DD : Int)) = true := by
    unfold inBig big
    rw [Bool.and_eq_true, decide_eq_true_eq, decide_eq_true_eq, ← Int.neg_mul]
    exact ⟨Int.mul_le_mul_of_nonneg_right (by omega) (by omega), Int.mul_le_mul_of_nonneg_right (by omega) (by omega)⟩
  rw [impl_in' hf hi, near_close (m := n) (by rw [Int.sub_self]; simpa using hD)]
/-- Of a whole number over a power of ten the same is told. -/
theorem told_back {n : Int} {p : Nat} (hn : n.natAbs ≤ 1000000000000000) (hp : p ≤ 6) : toldV (fdiv (fofi n) (tenB p)) p = some (ntxt n p) ∧ feq (fdiv (fofi n) (tenB p)) (fdiv (fofi n) (tenB p)) = true := by
  obtain ⟨hb, hT⟩ := fin_ten hp
  obtain ⟨⟨X, hX⟩, Y, hY, hc⟩ := trip15 hn hb hT
  have hne : impl_Nearest (fmul (fdiv (fofi n) (tenB p)) (tenB p)) = some (n, true) := by
    by_cases h : n.natAbs = 1000000000000000
    · have hk := edge_back p (by omega)
      have : n = 1000000000000000 ∨ n = -1000000000000000 := by omega
      rcases this with rfl | rfl
      · rw [hk.1]; exact near_edge h
      · rw [hk.2]; exact near_edge h
    · exact near_one hY hc (by omega)
  refine ⟨?_, self_fin hX⟩
  unfold toldV
  rw [self_fin hX, known_fin hX, hne, if_neg (by simp), if_neg (by simp)]
  rfl
theorem nan_back (p : Nat) : impl_ReadNumber (bs [47]) = some (9221120237041090560, true) ∧ toldV 9221120237041090560 p = some (bs [47]) ∧ feq 9221120237041090560 9221120237041090560 = false := by
  have h : feq 9221120237041090560 9221120237041090560 = false := by decide +kernel
  refine ⟨?_, ?_, h⟩
  · have e : impl_nan = some 9221120237041090560 := by
      have : canonF (9221120237041090561 : Int).toNat = 9221120237041090560 := by decide +kernel
      unfold impl_nan math_NaN dFf
      rw [this]; rfl
    unfold impl_ReadNumber
    rw [beq_self_bytes, cond_true, e]; rfl
  · unfold toldV
    rw [if_pos h]
theorem high_back (p : Nat) : impl_ReadNumber (bs [104, 105, 103, 104]) = some (9218868437227405312, true) ∧ toldV 9218868437227405312 p = some (bs [104, 105, 103, 104]) ∧ feq 9218868437227405312 9218868437227405312 = true := by
  have h1 : feq 9218868437227405312 9218868437227405312 = true := by decide +kernel
  have h2 : feq (fsub 9218868437227405312 9218868437227405312) 0 = false := by decide +kernel
  have h3 : fgt 9218868437227405312 0 = true := by decide +kernel
  refine ⟨?_, ?_, h1⟩
  · have e : math_Inf 1 = some 9218868437227405312 := by
      have : canonF (9218868437227405312 : Int).toNat = 9218868437227405312 := by decide +kernel
      unfold math_Inf dFf
      rw [this]; rfl
    unfold impl_ReadNumber
    rw [show ((bs [104, 105, 103, 104]).toList == (bs [47]).toList) = false from not_text (by decide), cond_false, beq_self_bytes, cond_true, e]; rfl
  · unfold toldV
    rw [h1, h2, h3]; rfl
theorem low_back (p : Nat) : impl_ReadNumber (bs [108, 111, 119]) = some (18442240474082181120, true) ∧ toldV 18442240474082181120 p = some (bs [108, 111, 119]) ∧ feq 18442240474082181120 18442240474082181120 = true := by
  have h1 : feq 18442240474082181120 18442240474082181120 = true := by decide +kernel
  have h2 : feq (fsub 18442240474082181120 18442240474082181120) 0 = false := by decide +kernel
  have h3 : fgt 18442240474082181120 0 = false := by decide +kernel
  refine ⟨?_, ?_, h1⟩
  · have e : math_Inf (-1) = some 18442240474082181120 := by
      have : canonF (18442240474082181120 : Int).toNat = 18442240474082181120 := by decide +kernel
      unfold math_Inf dFf
      rw [this]; rfl
    unfold impl_ReadNumber
    rw [show ((bs [108, 111, 119]).toList == (bs [47]).toList) = false from not_text (by decide), cond_false, show ((bs [108, 111, 119]).toList == (bs [104, 105, 103, 104]).toList) = false from not_text (by decide), cond_false, beq_self_bytes, cond_true, e]; rfl
  · unfold toldV
    rw [h1, h2, h3]; rfl
end Go.Proofs.YtgkejafaggaocaaDoor.TB

namespace Go.Proofs.YtgkejafaggaocaaDoor.TB
open Go Go.Eng Go.FT Ieee Go.Proofs.YtgkejafaggaocaaDoor.EX Go.Proofs.YtgkejafaggaocaaDoor.DR
theorem word_loop : ∀ (m n : Nat) (v : Int) (l : List Int) (p : Int), n + m = 8 → Rdr l p → ∃ y, Ev (fun k => spec_l1Rd_word_L3 k v (n : Int) l p) y ∧ Rdr y.2.1 y.2.2
  | 0, n, v, l, p, h, hr => by
    refine ⟨(v, l, p), ?_, hr⟩
    apply ev_succ
    simp only [spec_l1Rd_word_L3, show ¬ ((n : Int) < 8) by omega, decide_false, cond_false]
    exact ev_now _
  | m + 1, n, v, l, p, h, hr => by
    obtain ⟨⟨u, l1, p1⟩, e, hr1, _⟩ := next_good hr
    obtain ⟨y, hy, hyr⟩ := word_loop m (n + 1) (IntKind.u64.wrap (↑(BitVec.ofInt IntKind.u64.bits (IntKind.u64.wrap (v * 2 ^ min (Int.toNat 8) IntKind.u64.bits)) ||| BitVec.ofInt IntKind.u64.bits (IntKind.u64.wrap u)).toNat : Int)) l1 p1 (by omega) hr1
    refine ⟨y, ?_, hyr⟩
    apply ev_succ
    simp only [spec_l1Rd_word_L3, show ((n : Int) < 8) by omega, decide_true, cond_true, e, Option.bind_some, wsucc (show n < 9223372036854775807 by omega)]
    exact hy
theorem word_good {l : List Int} {p : Int} (h : Rdr l p) : Answ (fun y => Rdr y.2.1 y.2.2) (spec_l1Rd_word l p) := by
  obtain ⟨y, hy, hyr⟩ := word_loop 8 0 0 l p (by omega) h
  exact ⟨y, evF_eq hy, hyr⟩
theorem number_good {l : List Int} {p : Int} (h : Rdr l p) : Answ (fun y => Rdr y.2.1 y.2.2) (spec_l1Rd_number l p) := by
  unfold spec_l1Rd_number
  refine good_bind (below_good 5 (by omega) h) fun y hy => good_bif (fun _ => ?_) fun _ => good_bif (fun _ => ?_) fun _ => good_bif (fun _ => ?_) fun _ => ?_
  · exact good_bind (below_good 300 (by omega) hy.1) fun z hz => ⟨_, rfl, hz.1⟩
  · refine good_bind (below_good 12 (by omega) hy.1) fun z hz => ?_
    have hz5 : z.1 < 12 := hz.2.2.2.1 (by omega)
    exact good_chk (chk_le hz.2.1) (good_chk (chk_lt hz5) (good_chk (chk_lt hz5) ⟨_, rfl, hz.1⟩))
  · refine good_bind (word_good hy.1) fun z hz => good_bind (below_good 60 (by omega) hz) fun u hu => ?_
    refine good_chk (chk_le ?_) ⟨_, rfl, hu.1⟩
    rw [w64 (n := 1 + u.1) (by omega) (by omega), wu64 (by omega) (by omega)]
    omega
  · exact good_bind (below_good 20 (by omega) hy.1) fun z hz => ⟨_, rfl, hz.1⟩
theorem float_good {l : List Int} {p : Int} (h : Rdr l p) : Answ (fun y => Rdr y.2.1 y.2.2) (spec_l1Rd_float l p) := by
  unfold spec_l1Rd_float
  refine good_bind (below_good 8 (by omega) h) fun y hy => good_bif (fun _ => ?_) fun _ => good_bif (fun _ => ?_) fun _ => good_bif (fun _ => ?_) fun _ => good_bif (fun _ => ?_) fun _ => ?_
  · exact ⟨_, rfl, hy.1⟩
  · refine good_bind (below_good 16 (by omega) hy.1) fun z hz => ?_
    have hz5 : z.1 < 16 := hz.2.2.2.1 (by omega)
    exact good_chk (chk_le hz.2.1) (good_chk (chk_lt hz5) (good_chk (chk_lt hz5) ⟨_, rfl, hz.1⟩))
  · exact good_bind (number_good hy.1) fun z hz => good_bind (below_good 1000 (by omega) hz) fun u hu => ⟨_, rfl, hu.1⟩
  · exact good_bind (below_good 1000 (by omega) hy.1) fun z hz => ⟨_, rfl, hz.1⟩
  · exact good_bind (below_good 1000 (by omega) hy.1) fun z hz => ⟨_, rfl, hz.1⟩
end Go.Proofs.YtgkejafaggaocaaDoor.TB

namespace Go.Proofs.YtgkejafaggaocaaDoor.TB
open Go Go.Eng Go.FT Go.Proofs.YtgkejafaggaocaaDoor.DT Go.Proofs.YtgkejafaggaocaaDoor.EX Go.Proofs.YtgkejafaggaocaaDoor.NR Go.Proofs.YtgkejafaggaocaaDoor.TD Go.Proofs.YtgkejafaggaocaaDoor.RN Go.Proofs.YtgkejafaggaocaaDoor.DR
/-- What the law asks of what was told. -/
noncomputable def rest (x : Nat) (p : Int) : Option Bool :=
  (spec_Told x p).bind fun val_1 => (impl_Told x p).bind fun val_2 => bif !(val_2.toList == val_1.toList) then some false else (impl_ReadNumber val_2).bind fun val_3 => bif val_1.toList == (bs []).toList then some !val_3.snd else bif val_1.toList == (bs [102, 97, 114]).toList then some !val_3.snd else bif val_3.snd then (impl_Told val_3.fst p).bind fun val_4 => bif val_4.toList == val_1.toList then some (feq x x == feq val_3.fst val_3.fst) else some false else some false
theorem rest_none {x : Nat} {p : Int} (h1 : spec_Told x p = some (bs [])) (h2 : impl_Told x p = some (bs [])) : rest x p = some true := by
  unfold rest
  rw [h1, h2, Option.bind_some, Option.bind_some, beq_self_bytes, Bool.not_true, cond_false, read_fail (.inl rfl), Option.bind_some, cond_true]
  rfl
theorem rest_far {x : Nat} {p : Int} (h1 : spec_Told x p = some (bs [102, 97, 114])) (h2 : impl_Told x p = some (bs [102, 97, 114])) : rest x p = some true := by
  unfold rest
  rw [h1, h2, Option.bind_some, Option.bind_some, beq_self_bytes, Bool.not_true, cond_false, read_fail (.inr rfl), Option.bind_some, show ((bs [102, 97, 114]).toList == (bs []).toList) = false from not_text (by decide), cond_false, cond_true]
  rfl
theorem rest_text {x y : Nat} {q : Nat} {s : ByteArray} (hq : q ≤ 6) (hs : toldV x q = some s) (hr : impl_ReadNumber s = some (y, true)) (hy : toldV y q = some s) (hf : feq x x = feq y y) (n1 : s ≠ bs []) (n2 : s ≠ bs [102, 97, 114]) : rest x (q : Int) = some true := by
  unfold rest
  rw [told_spec hq, told_impl hq, hs, Option.bind_some, Option.bind_some, beq_self_bytes, Bool.not_true, cond_false, hr, Option.bind_some]
  have e1 : (s.toList == (bs []).toList) = false := by rw [beq_bytes, decide_eq_false_iff_not]; exact n1
  have e2 : (s.toList == (bs [102, 97, 114]).toList) = false := by rw [beq_bytes, decide_eq_false_iff_not]; exact n2
  rw [e1, e2, cond_false, cond_false, cond_true]
  show ((impl_Told y (q : Int)).bind fun val_4 => bif val_4.toList == s.toList then some (feq x x == feq y y) else some false) = some true
  rw [told_impl hq, hy, Option.bind_some, beq_self_bytes, cond_true, hf]
  simp
theorem rest_true (x : Nat) (p : Int) : rest x p = some true := by
  by_cases h1 : p < 0
  · refine rest_none ?_ ?_
    · unfold spec_Told; simp only [h1, decide_true, cond_true]
    · unfold impl_Told; simp only [in_eq, show ¬ 0 ≤ p by omega, decide_false, Bool.false_and, Option.bind_some, Bool.not_false, cond_true]
  · by_cases h2 : p > 6
    · refine rest_none ?_ ?_
      · unfold spec_Told; simp only [h1, h2, decide_true, decide_false, cond_true, cond_false]
      · unfold impl_Told; simp only [in_eq, show ¬ p ≤ 6 by omega, decide_false, Bool.and_false, Option.bind_some, Bool.not_false, cond_true]
    · obtain ⟨q, rfl⟩ : ∃ q : Nat, p = (q : Int) := ⟨p.toNat, by omega⟩
      have hq : q ≤ 6 := by omega
      by_cases c1 : feq x x = false
      · have hs : toldV x q = some (bs [47]) := by unfold toldV; rw [if_pos c1]
        obtain ⟨a, b, c⟩ := nan_back q
        exact rest_text hq hs a b (by rw [c1, c]) (fun h => absurd (congrArg ByteArray.data h) (by decide)) (fun h => absurd (congrArg ByteArray.data h) (by decide))
      · have c1' : feq x x = true := by cases h : feq x x <;> simp_all
        by_cases c2 : feq (fsub x x) 0 = false
        · by_cases c3 : fgt x 0 = true
          · have hs : toldV x q = some (bs [104, 105, 103, 104]) := by unfold toldV; rw [if_neg c1, if_pos c2, if_pos c3]
            obtain ⟨a, b, c⟩ := high_back q
            exact rest_text hq hs a b (by rw [c1', c]) (fun h => absurd (congrArg ByteArray.data h) (by decide)) (fun h => absurd (congrArg ByteArray.data h) (by decide))
          · have hs : toldV x q = some (bs [108, 111, 119]) := by unfold toldV; rw [if_neg c1, if_pos c2, if_neg c3]
            obtain ⟨a, b, c⟩ := low_back q
            exact rest_text hq hs a b (by rw [c1', c]) (fun h => absurd (congrArg ByteArray.data h) (by decide)) (fun h => absurd (congrArg ByteArray.data h) (by decide))
        · obtain ⟨_, r, hr, hb⟩ := near_same (fmul x (tenB q))
          by_cases c4 : r.2 = true
          · have hs : toldV x q = some (ntxt r.1 q) := by unfold toldV; rw [if_neg c1, if_neg c2, hr, Option.bind_some, if_pos c4]
            have hn : r.1.natAbs ≤ 1000000000000000 := by omega
            obtain ⟨a, b⟩ := told_back hn hq
            obtain ⟨n1, n2⟩ := ntxt_ne hn hq
            exact rest_text hq hs (read_ntxt hn hq) a (by rw [c1', b]) n1 n2
          · have hs : toldV x q = some (bs [102, 97, 114]) := by unfold toldV; rw [if_neg c1, if_neg c2, hr, Option.bind_some, if_neg c4]
            exact rest_far (by rw [told_spec hq, hs]) (by rw [told_impl hq, hs])
theorem draw_good {l : List Int} (hl : l.length ≤ 1048576) (hb : ∀ x ∈ l, 0 ≤ x ∧ x ≤ 255) : Answ (fun _ => True) (spec_DrawTold l) := by
  unfold spec_DrawTold
  refine good_bind (open_good hl hb) fun y1 h1 => good_bind (float_good h1) fun y2 h2 => good_bind (once_good 9 (by omega) h2) fun y3 h3 => good_bif (fun _ => ?_) (fun _ => ?_)
  · exact good_bind (number_good h3) fun z _ => ⟨_, rfl, trivial⟩
  · exact good_bind (below_good 7 (by omega) h3) fun z _ => ⟨_, rfl, trivial⟩
theorem law (l : List Int) (h : wfK (.sl (.int .u8)) l) : laws_FnToldBack l = some true := by
  unfold laws_FnToldBack laws_big
  by_cases hb : (l.length : Int) > 1048576
  · simp only [hb, decide_true, Option.bind_some, cond_true]
  · have hw := wf_sl.1 h
    obtain ⟨y, e, _⟩ := draw_good (l := l) (by omega) (fun x hx => wf_u8.1 (hw.2 x hx))
    simp only [hb, decide_false, Option.bind_some, cond_false, e]
    exact rest_true y.1 y.2
theorem pure (z0 : denKs [.sl (.int .u8)]) (h0 : wfKs [.sl (.int .u8)] z0) : g_laws_FnToldBack.fn ((z0.1, ()), ()) = some true := law z0.1 h0.1
end Go.Proofs.YtgkejafaggaocaaDoor.TB
