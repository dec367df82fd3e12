/-
  Part of a proof by the engine: texts that a program of ours printed, or plain lemmas on them. No condition but what each theorem says.
-/
import Derived.Test.YtgkejafaggaocaaTL
import Derived.Test.YtgkejafaggaocaaDEPlain
import Derived.Test.YtgkejafaggaocaaDRP
import Derived.Test.YtgkejafaggaocaaTKPlain
set_option linter.unusedVariables false
set_option linter.unusedSimpArgs false
namespace Go.Proofs.Ytgkejafaggaocaa.TL
open Go Go.Eng Go.TB Go.FT Go.Proofs.Ytgkejafaggaocaa.EX Go.Proofs.Ytgkejafaggaocaa.PO Go.Proofs.Ytgkejafaggaocaa.DR
/-- From some depth of calls on, with rounds enough, it answers, and with Q. -/
def AnsF {γ : Type} (M : Nat) (Q : γ → Prop) (f : Nat → Nat → Option γ) : Prop := ∃ y, (∀ m, M ≤ m → Ev (f m) y) ∧ Q y
theorem ansF_bind {α γ : Type} {M : Nat} {P : α → Prop} {Q : γ → Prop} {x : Option α} {f : Nat → Nat → α → Option γ} (h : Answ P x) (k : ∀ y, P y → AnsF M Q (fun m z => f m z y)) : AnsF M Q (fun m z => x.bind (f m z)) := by
  obtain ⟨y, rfl, hy⟩ := h
  exact k y hy
theorem ansF_rc {α γ : Type} {M : Nat} {P : α → Prop} {Q : γ → Prop} {g : Nat → Option α} {f : Nat → Nat → α → Option γ} (h : ∃ y, (∀ m, M ≤ m → g m = some y) ∧ P y) (k : ∀ y, P y → AnsF M Q (fun m z => f m z y)) : AnsF M Q (fun m z => (g m).bind (f m z)) := by
  obtain ⟨y, hg, hy⟩ := h
  obtain ⟨u, hu, hQ⟩ := k y hy
  refine ⟨u, fun m hm => ?_, hQ⟩
  show Ev (fun z => (g m).bind (f m z)) u
  rw [hg m hm]
  exact hu m hm
theorem ansF_bif {γ : Type} {M : Nat} {Q : γ → Prop} {b : Bool} {t e : Nat → Nat → Option γ} (ht : b = true → AnsF M Q t) (hf : b = false → AnsF M Q e) : AnsF M Q (fun m z => bif b then t m z else e m z) := by
  cases b with
  | true => exact ht rfl
  | false => exact hf rfl
theorem ansF_chk {γ : Type} {M : Nat} {Q : γ → Prop} {b : Bool} {t e : Nat → Nat → Option γ} (h : b = true) (k : AnsF M Q t) : AnsF M Q (fun m z => bif b then t m z else e m z) := by
  rw [h]; exact k
theorem ansF_some {γ : Type} {M : Nat} {Q : γ → Prop} {y : γ} (h : Q y) : AnsF M Q (fun _ _ => some y) := ⟨y, fun _ _ => ev_now _, h⟩
theorem ansF_succ {γ : Type} {M : Nat} {Q : γ → Prop} {f : Nat → Nat → Option γ} (h : AnsF M Q (fun m z => f m (z + 1))) : AnsF M Q f := by
  obtain ⟨y, hy, hQ⟩ := h
  exact ⟨y, fun m hm => ev_succ (hy m hm), hQ⟩
theorem ansF_one {γ : Type} {Q : γ → Prop} {f : Nat → Option γ} (h : AnsF 0 Q (fun _ z => f z)) : Answ Q (evF f) := by
  obtain ⟨y, hy, hQ⟩ := h
  exact ⟨y, evF_eq (hy 0 (Nat.le_refl _)), hQ⟩
theorem size_good {l : List Int} {p : Int} (a0 a1 : Int) (h0 : a0 ≠ 0) (h1 : a1 ≤ 65536) (h : Rdr l p) : Answ (fun y => Rdr y.2.1 y.2.2 ∧ 1 ≤ y.1 ∧ y.1 ≤ max 1 a1) (spec_l1Rd_size a0 a1 l p) := by
  unfold spec_l1Rd_size
  refine good_chk (by simp [h0]) (good_bif (fun _ => ?_) (fun k => ?_))
  · refine good_bind (below_good a1 h1 h) fun y hy => ⟨_, rfl, hy.1, ?_, ?_⟩
    · rw [w64 (by omega) (by omega)]; omega
    · rw [w64 (by omega) (by omega)]; omega
  · have k' := of_decide_eq_false k
    refine good_bind (below_good _ (by omega) h) fun y hy => ⟨_, rfl, hy.1, ?_, ?_⟩
    · rw [w64 (by omega) (by omega)]; omega
    · rw [w64 (by omega) (by omega)]; omega
theorem word_loop : ∀ (m n : Nat) (v : Int) (l : List Int) (p : Int), n + m = 8 → Rdr l p → ∃ y, Ev (fun k => spec_l1Rd_word_L3 k v (n : Int) l p) y ∧ Rdr y.2.1 y.2.2
  | 0, n, v, l, p, h, hr => by
    refine ⟨(v, l, p), ?_, hr⟩
    apply ev_succ
    simp only [spec_l1Rd_word_L3, show ¬ ((n : Int) < 8) by omega, decide_false, cond_false]
    exact ev_now _
  | m + 1, n, v, l, p, h, hr => by
    obtain ⟨⟨u, l1, p1⟩, e, hr1, _⟩ := next_good hr
    obtain ⟨y, hy, hyr⟩ := word_loop m (n + 1) (IntKind.u64.wrap (↑(BitVec.ofInt IntKind.u64.bits (IntKind.u64.wrap (v * 2 ^ min (Int.toNat 8) IntKind.u64.bits)) ||| BitVec.ofInt IntKind.u64.bits (IntKind.u64.wrap u)).toNat : Int)) l1 p1 (by omega) hr1
    refine ⟨y, ?_, hyr⟩
    apply ev_succ
    simp only [spec_l1Rd_word_L3, show ((n : Int) < 8) by omega, decide_true, cond_true, e, Option.bind_some, wsucc (show n < 9223372036854775807 by omega)]
    exact hy
theorem word_good {l : List Int} {p : Int} (h : Rdr l p) : Answ (fun y => Rdr y.2.1 y.2.2) (spec_l1Rd_word l p) := by
  obtain ⟨y, hy, hyr⟩ := word_loop 8 0 0 l p (by omega) h
  exact ⟨y, evF_eq hy, hyr⟩
theorem setI_good (o : Nat) (v : Int) (hp : ∀ x : El, ∃ y : El, putK K4_0 o [Cell.int IntKind.i64 v] x = some y) (xs : LE) (i : Int) (h0 : 0 ≤ i) (h1 : i < (xs.length : Int)) : Answ (fun ys : LE => ys.length = xs.length) (setO K4_0 o [Cell.int IntKind.i64 v] xs i) := by
  obtain ⟨n, rfl⟩ : ∃ n : Nat, i = (n : Int) := ⟨i.toNat, by omega⟩
  have hn : n < xs.length := by omega
  have hS : setO K4_0 o [Cell.int IntKind.i64 v] xs (n : Int) = (putK K4_0 o [Cell.int IntKind.i64 v] xs[n]).map fun y => xs.set n y := setO_put hn
  obtain ⟨y, hy⟩ := hp xs[n]
  exact ⟨xs.set n y, by rw [hS, hy]; rfl, by simp⟩
theorem s0 (v : Int) (xs : LE) (i : Int) (h0 : 0 ≤ i) (h1 : i < (xs.length : Int)) : Answ (fun ys : LE => ys.length = xs.length) (setO K4_0 0 [Cell.int IntKind.i64 v] xs i) := setI_good 0 v (fun x => ⟨(v, x.2), rfl⟩) xs i h0 h1
theorem s1 (v : Int) (xs : LE) (i : Int) (h0 : 0 ≤ i) (h1 : i < (xs.length : Int)) : Answ (fun ys : LE => ys.length = xs.length) (setO K4_0 1 [Cell.int IntKind.i64 v] xs i) := setI_good 1 v (fun x => ⟨(x.1, v, x.2.2), rfl⟩) xs i h0 h1
theorem s2 (v : Int) (xs : LE) (i : Int) (h0 : 0 ≤ i) (h1 : i < (xs.length : Int)) : Answ (fun ys : LE => ys.length = xs.length) (setO K4_0 2 [Cell.int IntKind.i64 v] xs i) := setI_good 2 v (fun x => ⟨(x.1, x.2.1, v, x.2.2.2), rfl⟩) xs i h0 h1
theorem s3 (v : Int) (xs : LE) (i : Int) (h0 : 0 ≤ i) (h1 : i < (xs.length : Int)) : Answ (fun ys : LE => ys.length = xs.length) (setO K4_0 3 [Cell.int IntKind.i64 v] xs i) := setI_good 3 v (fun x => ⟨(x.1, x.2.1, x.2.2.1, v), rfl⟩) xs i h0 h1
abbrev RT := List Int × Int × LE
theorem table_loop (n : Int) (hn : 2 ≤ n ∧ n ≤ 100) : ∀ (m : Nat) (i : Nat) (a0 : Int) (l : List Int) (p : Int) (xs : LE), n - i = m ∨ (m = 0 ∧ n ≤ i) → xs.length = i → i ≤ n → Rdr l p →
    AnsF 0 (fun y : RT => Rdr y.1 y.2.1 ∧ 2 ≤ y.2.2.length ∧ y.2.2.length ≤ 100) (fun _ z => spec_l1Rd_table_L5 z a0 n (i : Int) l p xs) := by
  intro m
  have hmax : 100000 ≤ maxBytes / 32 := by decide
  induction m with
  | zero =>
    intro i a0 l p xs hm hx hi hr
    apply ansF_succ
    simp only [spec_l1Rd_table_L5, show ¬ ((i : Int) < n) by omega, decide_false, cond_false]
    exact ansF_some ⟨hr, by simp only; omega, by simp only; omega⟩
  | succ m ih =>
    intro i a0 l p xs hm hx hi hr
    apply ansF_succ
    simp only [spec_l1Rd_table_L5, show ((i : Int) < n) by omega, decide_true, cond_true, List.length_singleton, show xs.length + 1 ≤ maxBytes / 32 by omega, List.length_append, hx, wsucc (show i < 9223372036854775807 by omega)]
    refine ansF_bind (below_good 3 (by omega) hr) fun y1 h1 => ansF_bind (below_good 14 (by omega) h1.1) fun y2 h2 => ansF_bind (below_good 4 (by omega) h2.1) fun y3 h3 => ansF_bind (below_good 200 (by omega) h3.1) fun y4 h4 => ansF_chk (decide_eq_true (show i + 1 ≤ maxBytes / 32 by omega)) ?_
    refine ansF_bind (once_good 9 (by omega) h4.1) fun y5 h5 => ansF_bif (fun _ => ?_) (fun _ => ?_)
    · refine ansF_bind (below_good 3 (by omega) h5) fun y6 h6 => ?_
      have g6 : y6.1 < 3 := h6.2.2.2.1 (by omega)
      refine ansF_chk (chk_le h6.2.1) (ansF_chk (chk_lt g6) (ansF_chk (chk_lt g6) (ansF_chk (chk_le (by omega)) (ansF_chk (chk_lt (by omega)) ?_))))
      refine ansF_bind (s1 _ _ _ (by omega) (by simp only [List.length_append, List.length_singleton]; omega)) fun z1 k1 => ?_
      simp only [List.length_append, List.length_singleton] at k1
      refine ansF_bind (below_good 2 (by omega) h6.1) fun y7 h7 => ?_
      have g7 : y7.1 < 2 := h7.2.2.2.1 (by omega)
      refine ansF_chk (chk_le h7.2.1) (ansF_chk (chk_lt g7) (ansF_chk (chk_lt g7) (ansF_chk (chk_le (by omega)) (ansF_chk (chk_lt (by omega)) ?_))))
      refine ansF_bind (s2 _ _ _ (by omega) (by omega)) fun z2 k2 => ?_
      refine ansF_bind (below_good 2 (by omega) h7.1) fun y8 h8 => ?_
      have g8 : y8.1 < 2 := h8.2.2.2.1 (by omega)
      refine ansF_chk (chk_le h8.2.1) (ansF_chk (chk_lt g8) (ansF_chk (chk_lt g8) (ansF_chk (chk_le (by omega)) (ansF_chk (chk_lt (by omega)) ?_))))
      refine ansF_bind (s3 _ _ _ (by omega) (by omega)) fun z3 k3 => ?_
      exact ih (i + 1) _ _ _ _ (by omega) (by omega) (by omega) h8.1
    · exact ih (i + 1) _ _ _ _ (by omega) (by simp only [List.length_append, List.length_singleton]; omega) (by omega) h5
theorem table_good {l : List Int} {p : Int} (h : Rdr l p) : Answ (fun y : RT => Rdr y.1 y.2.1 ∧ 2 ≤ y.2.2.length ∧ y.2.2.length ≤ 100) (spec_l1Rd_table l p) := by
  refine ansF_one ?_
  unfold spec_l1Rd_table_F
  refine ansF_bind (below_good 4 (by omega) h) fun y hy => ?_
  have g : y.1 < 4 := hy.2.2.2.1 (by omega)
  have e : IntKind.i64.wrap (3 + y.1) = 3 + y.1 := w64 (by omega) (by omega)
  rw [e]
  exact table_loop (3 + y.1) (by omega) (3 + y.1).toNat 0 1000 y.2.1 y.2.2 [] (by omega) rfl (by omega) hy.1
end Go.Proofs.Ytgkejafaggaocaa.TL

namespace Go.Proofs.Ytgkejafaggaocaa.TL
open Go Go.Eng Go.TB Go.FT Go.Proofs.Ytgkejafaggaocaa.EX Go.Proofs.Ytgkejafaggaocaa.PO Go.Proofs.Ytgkejafaggaocaa.DR
abbrev RP := List Int × Int × LE × List Int
def QP (t : LE) (y : RP) : Prop := Rdr y.1 y.2.1 ∧ y.2.2.1 = t ∧ y.2.2.2.length ≤ 1000
theorem plan_loop {t : LE} (ht : 1 ≤ t.length ∧ t.length ≤ 100) (c : Bool) (most : Nat) (hmost : most ≤ 8) (n : Int) (hn : n ≤ 8)
    (hrc : ∀ l p, 2 ≤ most → Rdr l p → ∃ y, (∀ m, most ≤ m → spec_l1Rd_plan_R m ((most / 2 : Nat) : Int) c l p t = some y) ∧ QP t y) :
    ∀ (k : Nat) (i : Nat) (l : List Int) (p : Int) (out : List Int), n - i = k ∨ (k = 0 ∧ n ≤ i) → i ≤ 8 → out.length ≤ 91 * i → Rdr l p →
    AnsF most (QP t) (fun m z => spec_l1Rd_plan_L4 (spec_l1Rd_plan_R m) z (most : Int) c n (i : Int) l p t out) := by
  have hmax : 100000 ≤ maxBytes / 8 := by decide
  intro k
  induction k with
  | zero =>
    intro i l p out hk hi ho hr
    apply ansF_succ
    simp only [spec_l1Rd_plan_L4, show ¬ ((i : Int) < n) by omega, decide_false, cond_false]
    exact ansF_some ⟨hr, rfl, by simp only; omega⟩
  | succ k ih =>
    intro i l p out hk hi ho hr
    have e1 : IntKind.i64.wrap ((most : Int).tdiv 2) = ((most / 2 : Nat) : Int) := by rw [Int.tdiv_eq_ediv_of_nonneg (by omega), w64 (by omega) (by omega)]; omega
    have stay : ∀ l p, Rdr l p → AnsF most (QP t) (fun m z => spec_l1Rd_plan_L4 (spec_l1Rd_plan_R m) z (most : Int) c n ((i + 1 : Nat) : Int) l p t out) := fun l p h => ih (i + 1) l p out (by omega) (by omega) (by omega) h
    have one : ∀ (x : Int) l p, Rdr l p → AnsF most (QP t) (fun m z => bif decide (out.length + [x].length ≤ maxBytes / 8) then spec_l1Rd_plan_L4 (spec_l1Rd_plan_R m) z (most : Int) c n ((i + 1 : Nat) : Int) l p t (out ++ [x]) else none) := fun x l p h =>
      ansF_chk (decide_eq_true (by simp only [List.length_singleton]; omega)) (ih (i + 1) l p _ (by omega) (by omega) (by simp only [List.length_append, List.length_singleton]; omega) h)
    have app : ∀ (x : Int) (body : List Int) l p, Rdr l p → AnsF most (QP t) (fun m z => bif decide ((body.length : Int) < 90) then bif decide (out.length + [x].length ≤ maxBytes / 8) then bif decide ((out ++ [x]).length + body.length ≤ maxBytes / 8) then
        spec_l1Rd_plan_L4 (spec_l1Rd_plan_R m) z (most : Int) c n ((i + 1 : Nat) : Int) l p t (out ++ [x] ++ body) else none else none else spec_l1Rd_plan_L4 (spec_l1Rd_plan_R m) z (most : Int) c n ((i + 1 : Nat) : Int) l p t out) := fun x body l p h =>
      ansF_bif (fun hb => by
        have hb := of_decide_eq_true hb
        exact ansF_chk (decide_eq_true (by simp only [List.length_singleton]; omega)) (ansF_chk (decide_eq_true (by simp only [List.length_append, List.length_singleton]; omega)) (ih (i + 1) l p _ (by omega) (by omega) (by simp only [List.length_append, List.length_singleton]; omega) h))) (fun _ => stay l p h)
    have code : ∀ l p, Rdr l p → AnsF most (QP t) (fun m z => (spec_l1Rd_below (t.length : Int) l p).bind fun val => bif decide (0 ≤ val.fst) then bif decide (val.fst < (t.length : Int)) then bif decide (val.fst < (t.length : Int)) then bif decide (out.length + [(rd K4_0 t val.fst).fst].length ≤ maxBytes / 8) then
        spec_l1Rd_plan_L4 (spec_l1Rd_plan_R m) z (most : Int) c n ((i + 1 : Nat) : Int) val.snd.fst val.snd.snd t (out ++ [(rd K4_0 t val.fst).fst]) else none else none else none else none) := fun l p h =>
      ansF_bind (below_good _ (by omega) h) fun y hy => by
        have g : y.1 < (t.length : Int) := by
          by_cases h1 : (1 : Int) < (t.length : Int)
          · exact hy.2.2.2.1 h1
          · have := hy.2.2.2.2 (by omega); omega
        exact ansF_chk (chk_le hy.2.1) (ansF_chk (chk_lt g) (ansF_chk (chk_lt g) (one _ _ _ hy.1)))
    apply ansF_succ
    simp only [spec_l1Rd_plan_L4, show ((i : Int) < n) by omega, decide_true, cond_true, e1, wsucc (show i < 9223372036854775807 by omega)]
    refine ansF_bind (below_good 9 (by omega) hr) fun y1 h1 => ?_
    -- a plan within
    have rec' : 2 ≤ most → AnsF most (QP t) (fun m z => (spec_l1Rd_plan_R m ((most / 2 : Nat) : Int) c y1.snd.fst y1.snd.snd t).bind fun val => (spec_l1Rd_below 4 val.fst val.snd.fst).bind fun val_1 =>
        bif c then (spec_l1Rd_once 2 val_1.snd.fst val_1.snd.snd).bind fun val_2 =>
          bif val_2.fst then bif decide ((val.snd.snd.snd.length : Int) < 90) then bif decide (out.length + [IntKind.i64.wrap (IntKind.i64.wrap (100000 + IntKind.i64.wrap (1000 * (val.snd.snd.snd.length : Int))) + 0)].length ≤ maxBytes / 8) then bif decide ((out ++ [IntKind.i64.wrap (IntKind.i64.wrap (100000 + IntKind.i64.wrap (1000 * (val.snd.snd.snd.length : Int))) + 0)]).length + val.snd.snd.snd.length ≤ maxBytes / 8) then spec_l1Rd_plan_L4 (spec_l1Rd_plan_R m) z (most : Int) c n ((i + 1 : Nat) : Int) val_2.snd.fst val_2.snd.snd val.snd.snd.fst (out ++ [IntKind.i64.wrap (IntKind.i64.wrap (100000 + IntKind.i64.wrap (1000 * (val.snd.snd.snd.length : Int))) + 0)] ++ val.snd.snd.snd) else none else none else spec_l1Rd_plan_L4 (spec_l1Rd_plan_R m) z (most : Int) c n ((i + 1 : Nat) : Int) val_2.snd.fst val_2.snd.snd val.snd.snd.fst out
          else bif decide ((val.snd.snd.snd.length : Int) < 90) then bif decide (out.length + [IntKind.i64.wrap (IntKind.i64.wrap (100000 + IntKind.i64.wrap (1000 * (val.snd.snd.snd.length : Int))) + IntKind.i64.wrap (1 + val_1.fst))].length ≤ maxBytes / 8) then bif decide ((out ++ [IntKind.i64.wrap (IntKind.i64.wrap (100000 + IntKind.i64.wrap (1000 * (val.snd.snd.snd.length : Int))) + IntKind.i64.wrap (1 + val_1.fst))]).length + val.snd.snd.snd.length ≤ maxBytes / 8) then spec_l1Rd_plan_L4 (spec_l1Rd_plan_R m) z (most : Int) c n ((i + 1 : Nat) : Int) val_2.snd.fst val_2.snd.snd val.snd.snd.fst (out ++ [IntKind.i64.wrap (IntKind.i64.wrap (100000 + IntKind.i64.wrap (1000 * (val.snd.snd.snd.length : Int))) + IntKind.i64.wrap (1 + val_1.fst))] ++ val.snd.snd.snd) else none else none else spec_l1Rd_plan_L4 (spec_l1Rd_plan_R m) z (most : Int) c n ((i + 1 : Nat) : Int) val_2.snd.fst val_2.snd.snd val.snd.snd.fst out
        else bif decide ((val.snd.snd.snd.length : Int) < 90) then bif decide (out.length + [IntKind.i64.wrap (IntKind.i64.wrap (100000 + IntKind.i64.wrap (1000 * (val.snd.snd.snd.length : Int))) + IntKind.i64.wrap (1 + val_1.fst))].length ≤ maxBytes / 8) then bif decide ((out ++ [IntKind.i64.wrap (IntKind.i64.wrap (100000 + IntKind.i64.wrap (1000 * (val.snd.snd.snd.length : Int))) + IntKind.i64.wrap (1 + val_1.fst))]).length + val.snd.snd.snd.length ≤ maxBytes / 8) then spec_l1Rd_plan_L4 (spec_l1Rd_plan_R m) z (most : Int) c n ((i + 1 : Nat) : Int) val_1.snd.fst val_1.snd.snd val.snd.snd.fst (out ++ [IntKind.i64.wrap (IntKind.i64.wrap (100000 + IntKind.i64.wrap (1000 * (val.snd.snd.snd.length : Int))) + IntKind.i64.wrap (1 + val_1.fst))] ++ val.snd.snd.snd) else none else none else spec_l1Rd_plan_L4 (spec_l1Rd_plan_R m) z (most : Int) c n ((i + 1 : Nat) : Int) val_1.snd.fst val_1.snd.snd val.snd.snd.fst out) := fun h2 => by
      refine ansF_rc (hrc y1.2.1 y1.2.2 h2 h1.1) fun y hy => ?_
      obtain ⟨ya, yb, yc, yd⟩ := y
      obtain ⟨q1, q2, q3⟩ := hy
      simp only at q1 q2 q3
      subst q2
      refine ansF_bind (below_good 4 (by omega) q1) fun y2 k2 => ansF_bif (fun _ => ?_) (fun _ => ?_)
      · refine ansF_bind (once_good 2 (by omega) k2.1) fun y3 k3 => ansF_bif (fun _ => ?_) (fun _ => ?_)
        · exact app _ yd _ _ k3
        · exact app _ yd _ _ k3
      · exact app _ yd _ _ k2.1
    refine ansF_bif (fun _ => ansF_bif (fun _ => code _ _ h1.1) (fun hb => ?_)) (fun h8 => ?_)
    · have hb := of_decide_eq_false hb
      refine ansF_bif (fun _ => rec' (by omega)) (fun _ => ?_)
      refine ansF_bif (fun _ => ?_) (fun _ => ansF_bif (fun _ => ?_) (fun _ => code _ _ h1.1))
      · refine ansF_bind (below_good 5 (by omega) h1.1) fun y hy => ?_
        have g : y.1 < 5 := hy.2.2.2.1 (by omega)
        exact ansF_chk (chk_le hy.2.1) (ansF_chk (chk_lt g) (ansF_chk (chk_lt g) (one _ _ _ hy.1)))
      · refine ansF_bind (below_good 4 (by omega) h1.1) fun y hy => ?_
        have g : y.1 < 4 := hy.2.2.2.1 (by omega)
        exact ansF_chk (chk_le hy.2.1) (ansF_chk (chk_lt g) (ansF_chk (chk_lt g) (one _ _ _ hy.1)))
    · refine ansF_bif (fun h9 => by rw [h8] at h9; cases h9) (fun _ => ?_)
      refine ansF_bif (fun _ => ?_) (fun _ => ansF_bif (fun _ => ?_) (fun _ => code _ _ h1.1))
      · refine ansF_bind (below_good 5 (by omega) h1.1) fun y hy => ?_
        have g : y.1 < 5 := hy.2.2.2.1 (by omega)
        exact ansF_chk (chk_le hy.2.1) (ansF_chk (chk_lt g) (ansF_chk (chk_lt g) (one _ _ _ hy.1)))
      · refine ansF_bind (below_good 4 (by omega) h1.1) fun y hy => ?_
        have g : y.1 < 4 := hy.2.2.2.1 (by omega)
        exact ansF_chk (chk_le hy.2.1) (ansF_chk (chk_lt g) (ansF_chk (chk_lt g) (one _ _ _ hy.1)))
theorem plan_R {t : LE} (ht : 1 ≤ t.length ∧ t.length ≤ 100) (c : Bool) : ∀ (N most : Nat), most ≤ N → most ≤ 8 → ∀ l p, Rdr l p → ∃ y, (∀ m, most < m → spec_l1Rd_plan_R m (most : Int) c l p t = some y) ∧ QP t y := by
  intro N
  induction N with
  | zero =>
    intro most h0 h8 l p hr
    have := (fun (n : Int) (hn : n ≤ 8) => plan_loop ht c most h8 n hn (fun l p h2 _ => by omega))
    obtain ⟨y, e, hy, k1, k2⟩ := size_good 9 (most : Int) (by omega) (by omega) hr
    obtain ⟨u, hu, hQ⟩ := this y.1 (by omega) y.1.toNat 0 y.2.1 y.2.2 [] (by omega) (by omega) (by simp) hy
    refine ⟨u, fun m hm => ?_, hQ⟩
    obtain ⟨m', rfl⟩ : ∃ m', m = m' + 1 := ⟨m - 1, by omega⟩
    refine evF_eq ?_
    unfold spec_l1Rd_plan_F
    simp only [e, Option.bind_some]
    exact hu m' (by omega)
  | succ N ih =>
    intro most h0 h8 l p hr
    have := (fun (n : Int) (hn : n ≤ 8) => plan_loop ht c most h8 n hn (fun l p h2 hr => by
      obtain ⟨y, a, b⟩ := ih (most / 2) (by omega) (by omega) l p hr
      exact ⟨y, fun m hm => a m (by omega), b⟩))
    obtain ⟨y, e, hy, k1, k2⟩ := size_good 9 (most : Int) (by omega) (by omega) hr
    obtain ⟨u, hu, hQ⟩ := this y.1 (by omega) y.1.toNat 0 y.2.1 y.2.2 [] (by omega) (by omega) (by simp) hy
    refine ⟨u, fun m hm => ?_, hQ⟩
    obtain ⟨m', rfl⟩ : ∃ m', m = m' + 1 := ⟨m - 1, by omega⟩
    refine evF_eq ?_
    unfold spec_l1Rd_plan_F
    simp only [e, Option.bind_some]
    exact hu m' (by omega)
theorem plan_good {t : LE} (ht : 1 ≤ t.length ∧ t.length ≤ 100) (c : Bool) {l : List Int} {p : Int} (hr : Rdr l p) : Answ (QP t) (spec_l1Rd_plan 8 c l p t) := by
  obtain ⟨y, h1, h2⟩ := plan_R ht c 8 8 (by omega) (by omega) l p hr
  exact ⟨y, evF_eq ⟨9, fun m hm => h1 m (by omega)⟩, h2⟩
theorem both_good (c : Bool) {l : List Int} {p : Int} (hr : Rdr l p) : Answ (fun y : RP => Rdr y.1 y.2.1) (spec_l7DrawBoth c l p) := by
  have hmax : 100000 ≤ maxBytes / 8 := by decide
  unfold spec_l7DrawBoth
  refine good_bind (table_good hr) fun y1 h1 => ?_
  obtain ⟨ta, tb, t⟩ := y1
  obtain ⟨h1, h2, h3⟩ := h1
  simp only at h1 h2 h3
  refine good_bind (plan_good (t := t) ⟨by omega, h3⟩ c h1) fun y2 k => ?_
  obtain ⟨pa, pb, t', pl⟩ := y2
  obtain ⟨k1, k2, k3⟩ := k
  simp only at k1 k2 k3
  subst k2
  have c0 : decide ((0 : Int) < (t'.length : Int)) = true := chk_lt (by omega)
  have c1 : decide ((1 : Int) < (t'.length : Int)) = true := chk_lt (by omega)
  have tail : ∀ (q : List Int), q.length ≤ 2000 → Answ (fun y : RP => Rdr y.1 y.2.1) ((spec_l1Rd_below 40 pa pb).bind fun val_1 =>
      bif val_1.fst == 0 then (spec_l1Rd_below 2 val_1.snd.fst val_1.snd.snd).bind fun val_2 => bif decide (0 ≤ val_2.fst) then bif decide (val_2.fst < (([0, 33] : List Int).length : Int)) then bif decide (val_2.fst < (([0, 33] : List Int).length : Int)) then bif decide (0 < (t'.length : Int)) then (setO K4_0 1 [Cell.int IntKind.i64 (rd (Kind.int IntKind.i64) [0, 33] val_2.fst)] t' 0).bind fun val_3 => some (val_2.snd.fst, val_2.snd.snd, val_3, q) else none else none else none else none
      else bif val_1.fst == 1 then bif decide (0 < (t'.length : Int)) then bif decide (0 < (t'.length : Int)) then bif decide (1 < (t'.length : Int)) then (setO K4_0 0 [Cell.int IntKind.i64 (rd K4_0 t' 0).fst] t' 1).bind fun val_2 => some (val_1.snd.fst, val_1.snd.snd, val_2, q) else none else none else none
      else bif val_1.fst == 2 then (spec_l1Rd_below 8 val_1.snd.fst val_1.snd.snd).bind fun val_2 => bif decide (0 ≤ val_2.fst) then bif decide (val_2.fst < (([101001, 100000, 100001, 201256, 203000, 7, -1, 199001] : List Int).length : Int)) then bif decide (val_2.fst < (([101001, 100000, 100001, 201256, 203000, 7, -1, 199001] : List Int).length : Int)) then bif decide (q.length + [rd (Kind.int IntKind.i64) [101001, 100000, 100001, 201256, 203000, 7, -1, 199001] val_2.fst].length ≤ maxBytes / 8) then some (val_2.snd.fst, val_2.snd.snd, t', q ++ [rd (Kind.int IntKind.i64) [101001, 100000, 100001, 201256, 203000, 7, -1, 199001] val_2.fst]) else none else none else none else none
      else bif val_1.fst == 3 then bif decide (0 < (t'.length : Int)) then (setO K4_0 2 [Cell.int IntKind.i64 11] t' 0).bind fun val_2 => some (val_1.snd.fst, val_1.snd.snd, val_2, q) else none
      else bif val_1.fst == 4 then bif decide (0 < (t'.length : Int)) then bif decide (0 < (t'.length : Int)) then bif decide (q.length + [201255, (rd K4_0 t' 0).fst].length ≤ maxBytes / 8) then some (val_1.snd.fst, val_1.snd.snd, t', q ++ [201255, (rd K4_0 t' 0).fst]) else none else none else none
      else bif val_1.fst == 5 then bif decide (0 < (t'.length : Int)) then bif decide (0 < (t'.length : Int)) then bif decide (q.length + [202255, (rd K4_0 t' 0).fst].length ≤ maxBytes / 8) then some (val_1.snd.fst, val_1.snd.snd, t', q ++ [202255, (rd K4_0 t' 0).fst]) else none else none else none
      else bif val_1.fst == 6 then bif decide (0 < (t'.length : Int)) then bif decide (0 < (t'.length : Int)) then some (val_1.snd.fst, val_1.snd.snd, t', [102255, 101030, (rd K4_0 t' 0).fst]) else none else none else some (val_1.snd.fst, val_1.snd.snd, t', q)) := fun q hq => by
    refine good_bind (below_good 40 (by omega) k1) fun y3 k3 => good_bif (fun _ => ?_) fun _ => good_bif (fun _ => ?_) fun _ => good_bif (fun _ => ?_) fun _ => good_bif (fun _ => ?_) fun _ => good_bif (fun _ => ?_) fun _ => good_bif (fun _ => ?_) fun _ => good_bif (fun _ => ?_) fun _ => ⟨_, rfl, k3.1⟩
    · refine good_bind (below_good 2 (by omega) k3.1) fun y4 k4 => ?_
      have g : y4.1 < 2 := k4.2.2.2.1 (by omega)
      exact good_chk (chk_le k4.2.1) (good_chk (chk_lt g) (good_chk (chk_lt g) (good_chk c0 (good_bind (s1 _ _ _ (by omega) (by omega)) fun z hz => ⟨_, rfl, k4.1⟩))))
    · exact good_chk c0 (good_chk c0 (good_chk c1 (good_bind (s0 _ _ _ (by omega) (by omega)) fun z hz => ⟨_, rfl, k3.1⟩)))
    · refine good_bind (below_good 8 (by omega) k3.1) fun y4 k4 => ?_
      have g : y4.1 < 8 := k4.2.2.2.1 (by omega)
      exact good_chk (chk_le k4.2.1) (good_chk (chk_lt g) (good_chk (chk_lt g) (good_chk (decide_eq_true (by simp only [List.length_singleton]; omega)) ⟨_, rfl, k4.1⟩)))
    · exact good_chk c0 (good_bind (s2 _ _ _ (by omega) (by omega)) fun z hz => ⟨_, rfl, k3.1⟩)
    · exact good_chk c0 (good_chk c0 (good_chk (decide_eq_true (by simp only [List.length_cons, List.length_nil]; omega)) ⟨_, rfl, k3.1⟩))
    · exact good_chk c0 (good_chk c0 (good_chk (decide_eq_true (by simp only [List.length_cons, List.length_nil]; omega)) ⟨_, rfl, k3.1⟩))
    · exact good_chk c0 (good_chk c0 ⟨_, rfl, k3.1⟩)
  refine good_bif (fun _ => ?_) (fun _ => tail pl (by omega))
  refine good_chk c0 (good_chk c0 ?_)
  have := tail [(rd K4_0 t' 0).fst] (by simp)
  simp only [List.length_singleton, List.length_cons, List.length_nil, show 1 + 1 ≤ maxBytes / 8 by omega, show 1 + (0 + 1 + 1) ≤ maxBytes / 8 by omega, decide_true, cond_true] at this
  exact this
end Go.Proofs.Ytgkejafaggaocaa.TL

namespace Go.Proofs.Ytgkejafaggaocaa.TL
open Go Go.Eng Go.TB Go.FT Go.Proofs.Ytgkejafaggaocaa.EX Go.Proofs.Ytgkejafaggaocaa.PO Go.Proofs.Ytgkejafaggaocaa.DR
open Go.Proofs.Ytgkejafaggaocaa.DE (NN DataOk decV BitsOk SR Fine OutS)
open Go.Proofs.Ytgkejafaggaocaa.EN (Words)
open Go.Proofs.Ytgkejafaggaocaa.EU (encV)
theorem and64u (x : Int) : (((BitVec.ofInt IntKind.u64.bits x &&& BitVec.ofInt IntKind.u64.bits 1).toNat : Nat) : Int) = x % 2 := and_one (by decide) x
theorem noise_loop (n : Nat) (hn : n ≤ 10000) : ∀ (m i : Nat) (a : Int) (acc : List Int), n - i = m → i ≤ n → acc.length = i → Bits acc → ∃ b, Ev (fun k => spec_l7Noise_L3 k a (n : Int) (i : Int) acc) b ∧ b.length = n ∧ Bits b
  | 0, i, a, acc, hm, hi, hl, hb => by
    refine ⟨acc, ?_, by omega, hb⟩
    apply ev_succ
    simp only [spec_l7Noise_L3, show ¬ ((i : Int) < (n : Int)) by omega, decide_false, cond_false]
    exact ev_now _
  | m + 1, i, a, acc, hm, hi, hl, hb => by
    have hmax := maxB
    generalize hA : IntKind.u64.wrap (IntKind.u64.wrap (a * 6364136223846793005) + 1442695040888963407) = A
    generalize hx : (A.fdiv (2 ^ min (Int.toNat 60) IntKind.u64.bits)) % 2 = x
    have hx01 : x = 0 ∨ x = 1 := by omega
    have e1 : IntKind.u8.wrap (IntKind.u64.wrap x) = x := by rw [wu64 (by omega) (by omega), wu8 (by omega) (by omega)]
    obtain ⟨b, h1, h2⟩ := noise_loop n hn m (i + 1) A (acc ++ [x]) (by omega) (by omega) (by simp; omega) (bits_append hb (fun y hy => by rw [List.mem_singleton] at hy; rw [hy]; exact hx01))
    refine ⟨b, ?_, h2⟩
    apply ev_succ
    simp only [spec_l7Noise_L3, hA, and64u, hx, e1, show ((i : Int) < (n : Int)) by omega, decide_true, cond_true, List.length_singleton, show acc.length + 1 ≤ maxBytes / 1 by omega, wsucc (show i < 9223372036854775807 by omega)]
    exact h1
theorem noise_good (a : Int) : Answ (fun b => b.length = 9000 ∧ Bits b) (spec_l7Noise a 9000) := by
  obtain ⟨b, h1, h2⟩ := noise_loop 9000 (by omega) 9000 0 a [] (by omega) (by omega) rfl (fun x hx => by cases hx)
  exact ⟨b, evF_eq h1, h2⟩
theorem noise_bits {b : List Int} (hl : b.length = 9000) (hb : Bits b) : BitsOk (bytesB b) b := by
  refine ⟨?_, fun q hq => ?_⟩
  · unfold NN; rw [bytesB_length]; omega
  · exact (bitAt_bytes hb (by omega)).symm
abbrev RV := List Int × Int × List Nat
def QV (y : RV) : Prop := Rdr y.1 y.2.1 ∧ Words y.2.2 ∧ y.2.2.length ≤ 5000
theorem vals_loop (t : LE) (b : List Int) (rs : Bool) (c1 c2 c3 c4 c5 : Int) (sp : List (Bool × El)) (hsp : sp.length ≤ 5000) : ∀ (m i : Nat) (l : List Int) (p : Int) (vs : List Nat), vs.length - i = m → i ≤ vs.length → Rdr l p → Words vs → vs.length ≤ 5000 →
    AnsF 0 QV (fun _ z => spec_l7DrawValues_L5 z (i : Int) l p t b rs c1 c2 c3 c4 c5 sp vs)
  | 0, i, l, p, vs, hm, hi, hr, hw, hl => by
    apply ansF_succ
    simp only [spec_l7DrawValues_L5, show ¬ ((i : Int) < (vs.length : Int)) by omega, decide_false, cond_false]
    exact ansF_some ⟨hr, hw, hl⟩
  | m + 1, i, l, p, vs, hm, hi, hr, hw, hl => by
    have stay : ∀ l p, Rdr l p → AnsF 0 QV (fun _ z => spec_l7DrawValues_L5 z ((i + 1 : Nat) : Int) l p t b rs c1 c2 c3 c4 c5 sp vs) := fun l p h => vals_loop t b rs c1 c2 c3 c4 c5 sp hsp m (i + 1) l p vs (by omega) (by omega) h hw hl
    apply ansF_succ
    simp only [spec_l7DrawValues_L5, show ((i : Int) < (vs.length : Int)) by omega, decide_true, cond_true, wsucc (show i < 9223372036854775807 by omega)]
    refine ansF_bif (fun h1 => ?_) (fun _ => stay _ _ hr)
    refine ansF_chk (chk_le (by omega)) (ansF_bif (fun _ => ansF_bif (fun _ => ansF_bif (fun _ => ?_) (fun _ => stay _ _ hr)) (fun h => by rw [h1] at h; cases h)) (fun h => by rw [h1] at h; cases h))
    refine ansF_bind (once_good 7 (by omega) hr) fun y hy => ansF_bif (fun _ => ?_) (fun _ => stay _ _ hy)
    refine ansF_bind (P := fun v => v = 9221120237041090560) ⟨_, none_eq, rfl⟩ fun v hv => ansF_chk (chk_le (by omega)) ?_
    refine ansF_bind (P := fun ys : List Nat => ys = vs.set i v) ⟨_, setW_nat (show i < vs.length by omega), rfl⟩ fun ys hys => ?_
    subst hys
    exact vals_loop t b rs c1 c2 c3 c4 c5 sp hsp m (i + 1) _ _ _ (by simp; omega) (by simp; omega) hy (fun x hx => by
      rcases List.mem_or_eq_of_mem_set hx with hx | hx
      · exact hw x hx
      · rw [hx, hv]; decide) (by simp; omega)
theorem values_good (t : LE) (plan : List Int) {l : List Int} {p : Int} (hr : Rdr l p) : Answ QV (spec_l7DrawValues t plan l p) := by
  refine ansF_one ?_
  unfold spec_l7DrawValues_F
  refine ansF_bind (word_good hr) fun y1 h1 => ansF_bind (noise_good _) fun b hb => ansF_bind (P := fun v => v = planV t plan) ⟨_, spec_planV t plan, rfl⟩ fun v hv => ?_
  obtain ⟨hb1, hb2⟩ := hb
  subst hv
  refine ansF_bif (fun hP => ?_) (fun _ => vals_loop t b true 0 0 0 0 0 [] (by simp) 0 0 y1.2.1 y1.2.2 [] rfl (by simp) h1 (fun x hx => by cases hx) (by simp))
  simp only [planV, Bool.and_eq_true, decide_eq_true_eq] at hP
  obtain ⟨y, e1, e2⟩ := DE.run_eq (tblV_ok hP.1) (noise_bits hb1 hb2) hP.2.1 hP.2.2
  have hfine : Fine y := by
    cases hq : thr (DE.dev (bytesB b)) t plan.length plan (0, 0, 0, (0, [])) with
    | error e =>
      rw [hq] at e2
      exact e2.2.2
    | ok s =>
      rw [hq] at e2
      obtain ⟨sp, hsp, rfl⟩ := e2
      have hg := thr_keeps (DE.decw_keeps (bitAt_bit (bytesB b)) (NN (bytesB b))) t _ _ (0, 0, 0, (0, [])) s ⟨by simp, by simp, by simp, by simp [DE.DI, DE.DIW]⟩ hq
      exact ⟨Nat.le_trans hsp hg.1, Nat.le_trans hg.2.2.2.1.2 hg.1, hg.2.2.2.2⟩
  refine ansF_bind (P := fun z => z = y) ⟨_, e1, rfl⟩ fun z hz => ?_
  subst hz
  exact vals_loop _ _ _ _ _ _ _ _ _ hfine.1 _ 0 y1.2.1 y1.2.2 _ rfl (by omega) h1 hfine.2.2 hfine.2.1
/-! ### bytes -/
abbrev RD := LE × List Int × List Int
def QD (y : RD) : Prop := y.2.2.length ≤ 20001 ∧ ∀ x ∈ y.2.2, 0 ≤ x ∧ x ≤ 255
theorem draw_good {l : List Int} (hl : l.length ≤ 1048576) (hb : ∀ x ∈ l, 0 ≤ x ∧ x ≤ 255) : Answ QD (spec_DrawDecode l) := by
  have hmax := maxB
  unfold spec_DrawDecode
  refine good_bind (open_good hl hb) fun y1 h1 => good_bind (both_good true h1) fun y2 h2 => good_bind (values_good _ _ h2) fun y3 h3 => ?_
  obtain ⟨g1, g2, g3⟩ := h3
  refine good_bind (P := fun v => v = encV y2.2.2.1 y2.2.2.2 y3.2.2) ⟨_, EU.spec_enc _ _ g2 (by omega), rfl⟩ fun v hv => ?_
  obtain ⟨b1, b2⟩ := EU.encV_bytes y2.2.2.1 y2.2.2.2 y3.2.2
  rw [← hv] at b1 b2
  have last : ∀ (b : List Int) l p, Rdr l p → b.length ≤ 20000 → (∀ x ∈ b, 0 ≤ x ∧ x ≤ 255) → Answ QD ((spec_l1Rd_once 8 l p).bind fun val_8 => bif val_8.fst then bif decide (b.length + [0].length ≤ maxBytes / 1) then some (y2.snd.snd.fst, y2.snd.snd.snd, b ++ [0]) else none else some (y2.snd.snd.fst, y2.snd.snd.snd, b)) := fun b l p hr hl hb =>
    good_bind (once_good 8 (by omega) hr) fun y _ => good_bif (fun _ => good_chk (decide_eq_true (by simp only [List.length_singleton]; omega)) ⟨_, rfl, by simp only [List.length_append, List.length_singleton]; omega, fun x hx => by
      rcases List.mem_append.1 hx with hx | hx
      · exact hb x hx
      · rw [List.mem_singleton] at hx; omega⟩) (fun _ => ⟨_, rfl, by simp only; omega, hb⟩)
  have tail : ∀ (b : List Int) l p, Rdr l p → b.length ≤ 20000 → (∀ x ∈ b, 0 ≤ x ∧ x ≤ 255) → Answ QD ((spec_l1Rd_once 8 l p).bind fun val_7 => bif val_7.fst then bif decide ((b.length : Int) > 0) then bif decide (0 ≤ IntKind.i64.wrap ((b.length : Int) - 1)) && decide (IntKind.i64.wrap ((b.length : Int) - 1) ≤ (b.length : Int)) then
      (spec_l1Rd_once 8 val_7.snd.fst val_7.snd.snd).bind fun val_8 => bif val_8.fst then bif decide ((List.take (IntKind.i64.wrap ((b.length : Int) - 1)).toNat b).length + [0].length ≤ maxBytes / 1) then some (y2.snd.snd.fst, y2.snd.snd.snd, List.take (IntKind.i64.wrap ((b.length : Int) - 1)).toNat b ++ [0]) else none else some (y2.snd.snd.fst, y2.snd.snd.snd, List.take (IntKind.i64.wrap ((b.length : Int) - 1)).toNat b) else none
      else (spec_l1Rd_once 8 val_7.snd.fst val_7.snd.snd).bind fun val_8 => bif val_8.fst then bif decide (b.length + [0].length ≤ maxBytes / 1) then some (y2.snd.snd.fst, y2.snd.snd.snd, b ++ [0]) else none else some (y2.snd.snd.fst, y2.snd.snd.snd, b)
      else (spec_l1Rd_once 8 val_7.snd.fst val_7.snd.snd).bind fun val_8 => bif val_8.fst then bif decide (b.length + [0].length ≤ maxBytes / 1) then some (y2.snd.snd.fst, y2.snd.snd.snd, b ++ [0]) else none else some (y2.snd.snd.fst, y2.snd.snd.snd, b)) := fun b l p hr hl hb => by
    refine good_bind (once_good 8 (by omega) hr) fun y hy => good_bif (fun _ => good_bif (fun h0 => ?_) (fun _ => last b _ _ hy hl hb)) (fun _ => last b _ _ hy hl hb)
    have h0 := of_decide_eq_true h0
    have e : IntKind.i64.wrap ((b.length : Int) - 1) = (b.length : Int) - 1 := w64 (by omega) (by omega)
    rw [e]
    refine good_chk (chk_and (chk_le (by omega)) (chk_le (by omega))) ?_
    exact last _ _ _ hy (by rw [List.length_take]; omega) (fun x hx => hb x (List.mem_of_mem_take hx))
  refine good_bind (once_good 3 (by omega) g1) fun y4 h4 => good_bif (fun _ => good_bif (fun h0 => ?_) (fun _ => tail v.2 _ _ h4 b1 b2)) (fun _ => tail v.2 _ _ h4 b1 b2)
  have h0 := of_decide_eq_true h0
  refine good_bind (below_good _ (by omega) h4) fun y5 h5 => good_bind (next_good h5.1) fun y6 h6 => ?_
  have g : y5.1 < (v.2.length : Int) := by
    by_cases c : (1 : Int) < (v.2.length : Int)
    · exact h5.2.2.2.1 c
    · have := h5.2.2.2.2 (by omega); omega
  refine good_chk (chk_le h5.2.1) (good_chk (chk_lt g) ?_)
  obtain ⟨n, hn⟩ : ∃ n : Nat, y5.1 = (n : Int) := ⟨y5.1.toNat, by have := h5.2.1; omega⟩
  rw [hn] at g ⊢
  refine good_bind (P := fun ys : List Int => ys = v.2.set n (IntKind.u8.wrap y6.1)) ⟨_, setW_nat (by omega), rfl⟩ fun ys hys => ?_
  subst hys
  refine tail _ _ _ h6.1 (by simp; omega) (fun x hx => ?_)
  rcases List.mem_or_eq_of_mem_set hx with hx | hx
  · exact b2 x hx
  · rw [hx, wu8 h6.2.1 h6.2.2]; exact h6.2
end Go.Proofs.Ytgkejafaggaocaa.TL

namespace Go.Proofs.Ytgkejafaggaocaa.TL
open Go Go.Eng Go.TB Go.FT Go.Proofs.Ytgkejafaggaocaa.EX Go.Proofs.Ytgkejafaggaocaa.PO Go.Proofs.Ytgkejafaggaocaa.DR
open Go.Proofs.Ytgkejafaggaocaa.DE (NN DataOk decV)
open Go.Proofs.Ytgkejafaggaocaa.EU (encV)
theorem dec_err (t : LE) (plan data : List Int) (h : (decV t plan data).2 ≠ 0) : (decV t plan data).1 = [] := by
  unfold decV at h ⊢
  cases hP : planV t plan with
  | false => rfl
  | true =>
    rw [hP] at h
    simp only [cond_true] at h ⊢
    cases hq : thr (DE.dev data) t plan.length plan (0, 0, 0, (0, [])) with
    | error e => rfl
    | ok s =>
      rw [hq] at h
      simp only at h ⊢
      cases hr : DE.restV (bitAt data) s.2.2.2.1 (NN data) with
      | false => rfl
      | true => rw [hr] at h; exact absurd rfl h
theorem law {l : List Int} (hb : ∀ x ∈ l, 0 ≤ x ∧ x ≤ 255) : laws_FnTablesBits l = some true := by
  unfold laws_FnTablesBits laws_big
  simp only [Option.bind_some]
  by_cases h1 : (l.length : Int) > 1048576
  · simp only [h1, decide_true, cond_true]
  obtain ⟨⟨t, plan, data⟩, e, d1, d2⟩ := draw_good (l := l) (by omega) hb
  simp only at d1 d2
  have D : DataOk data := ⟨by omega, d2⟩
  simp only [h1, decide_false, cond_false, e, Option.bind_some, DE.spec_dec t plan D, DE.impl_dec t plan D, bne_self_eq_false]
  by_cases h0 : (decV t plan data).2 = 0
  · obtain ⟨w1, w2, w3⟩ := TK.write_back D h0
    have e3 : EU.impl_Encode t plan (decV t plan data).1 = some (0, data) := by rw [EU.impl_enc t plan w1 (by omega), w3]
    have e4 : EV.impl_Encode t plan (decV t plan data).1 = some (0, data) := e3
    simp only [h0, bne_self_eq_false, cond_false, e4, Option.bind_some, beq_self_eq_true, cond_true]
  · have e1 : ((decV t plan data).2 != 0) = true := by rw [bneI]; simp [h0]
    simp only [e1, cond_true, dec_err t plan data h0, List.length_nil, Int.natCast_zero, beq_self_eq_true]
theorem pure (z0 : denKs [.sl (.int .u8)]) (h0 : wfKs [.sl (.int .u8)] z0) : g_laws_FnTablesBits.fn ((z0.1, ()), ()) = some true := by
  obtain ⟨w0, _⟩ := h0
  exact law (fun x hx => wf_u8.1 ((wf_sl.1 w0).2 x hx))
end Go.Proofs.Ytgkejafaggaocaa.TL
