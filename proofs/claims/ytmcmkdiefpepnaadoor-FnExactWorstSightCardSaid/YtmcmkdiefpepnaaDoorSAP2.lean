/-
  Part of a proof by the engine: texts that a program of ours printed, or plain lemmas on them. No condition but what each theorem says.
-/
import Derived.Test.YtmcmkdiefpepnaaDoorSAP1
set_option linter.unusedVariables false
set_option linter.unusedSimpArgs false
namespace Go.Proofs.YtmcmkdiefpepnaaDoor.SA
open Go Go.Eng
theorem index_loop (xs : List ByteArray) (v : ByteArray) (hx : xs.length ≤ 9223372036854775807) : ∀ (m n : Nat), xs.length - n = m → n ≤ xs.length →
    ∃ r : Int, -1 ≤ r ∧ (decide (r ≥ 0) = (xs.drop n).any fun x => decide (v = x)) ∧ Ev (fun k => slices_Index_Lstring_string_L2 k xs v (xs.length : Int) (n : Int)) r := by
  intro m
  induction m with
  | zero =>
    intro n hm hn
    obtain rfl : n = xs.length := by omega
    refine ⟨-1, by omega, by simp, ?_⟩
    apply ev_succ
    simp only [slices_Index_Lstring_string_L2, Int.lt_irrefl, decide_false, cond_false]
    exact ev_now _
  | succ m ih =>
    intro n hm hn
    have hl : n < xs.length := by omega
    rw [drop_cons hl]
    by_cases c : v = xs[n]
    · refine ⟨(n : Int), by omega, by rw [List.any_cons, decide_eq_true c]; simp, ?_⟩
      apply ev_succ
      simp only [slices_Index_Lstring_string_L2, show (n : Int) < (xs.length : Int) by omega, show (0 : Int) ≤ (n : Int) by omega, decide_true, cond_true, rd_nat (k := .str) hl, beq_bytes, c]
      exact ev_now _
    · obtain ⟨r, h1, h2, h3⟩ := ih (n + 1) (by omega) (by omega)
      refine ⟨r, h1, by rw [List.any_cons, decide_eq_false c, Bool.false_or, h2], ?_⟩
      apply ev_succ
      simp only [slices_Index_Lstring_string_L2, show (n : Int) < (xs.length : Int) by omega, show (0 : Int) ≤ (n : Int) by omega, decide_true, cond_true, rd_nat (k := .str) hl, beq_bytes, c, decide_false, cond_false, wsucc (show n < 9223372036854775807 by omega)]
      exact h3
theorem contains_eq {xs : List ByteArray} {v : ByteArray} (hx : xs.length ≤ 9223372036854775807) : slices_Contains_Lstring_string xs v = some (xs.any fun x => decide (v = x)) := by
  obtain ⟨r, _, h2, h3⟩ := index_loop xs v hx xs.length 0 (by omega) (by omega)
  have : slices_Index_Lstring_string xs v = some r := evF_eq h3
  simp only [slices_Contains_Lstring_string, this, Option.bind_some, h2, List.drop_zero]
theorem in_eq (a b c : Int) : impl_in a b c = some (decide (b ≤ a) && decide (a ≤ c)) := by
  unfold impl_in
  by_cases h : a ≥ b
  · simp [h]; 
  · simp [h]
theorem l2In_eq (a b c : Int) : spec_l2In a b c = some (decide (b ≤ a) && decide (a ≤ c)) := in_eq a b c
def windV (d s : Int) : Bool := if d = -1 ∨ d = 0 then decide (s = 0) else ((decide (1 ≤ d) && decide (d ≤ 36)) || decide (d = 99)) && (decide (1 ≤ s) && decide (s ≤ 99))
def weaV (w : ByteArray) : Bool := decide (w = bs []) || L_impl_weathers.any fun x => decide (w = x)
def cloudV (c : ByteArray) (b : Int) : Bool := if c = bs [] ∨ c = bs [83, 75, 67] then decide (b = 0) else (L_impl_covers.any fun x => decide (c = x)) && (decide (1 ≤ b) && decide (b ≤ 200))
def skyV (d s v : Int) (w c : ByteArray) (b : Int) : Bool := windV d s && ((decide (-1 ≤ v) && decide (v ≤ 9999)) && (weaV w && cloudV c b))
theorem wind_eq (d s v : Int) (w c : ByteArray) (b : Int) : spec_l21WindOk d s v w c b = some (windV d s) := by
  unfold spec_l21WindOk windV
  by_cases h1 : d = -1
  · simp [h1, BEq.beq]
  · by_cases h2 : d = 0
    · simp [h2, BEq.beq]
    · simp only [l2In_eq, Option.bind_some, beq_eq_false_iff_ne.2 h1, beq_eq_false_iff_ne.2 h2, cond_false, h1, h2, or_self, if_false]
      cases h3 : (decide (1 ≤ d) && decide (d ≤ 36)) with
      | true => simp
      | false =>
        by_cases h4 : d = 99
        · simp [h4]
        · simp [h4, beq_eq_false_iff_ne.2 h4]
theorem wea_eq (w : ByteArray) : spec_l21WeatherOk w = some (weaV w) := by
  have hb : ∀ (c : Bool) (y : Bool), (bif c then some true else some y) = some (c || y) := fun c y => by cases c <;> rfl
  unfold spec_l21WeatherOk weaV
  simp only [beq_bytes, hb, L_impl_weathers, List.any_cons, List.any_nil]
theorem cloud_eq (d s v : Int) (w c : ByteArray) (b : Int) : spec_l21CloudOk d s v w c b = some (cloudV c b) := by
  unfold spec_l21CloudOk cloudV
  simp only [beq_bytes, l2In_eq, Option.bind_some, L_impl_covers, List.any_cons, List.any_nil]
  by_cases h1 : c = bs []
  · simp [h1, BEq.beq]
  · by_cases h2 : c = bs [83, 75, 67]
    · simp [h2, BEq.beq]
    · simp only [h1, h2, decide_false, cond_false, or_self, if_false, Bool.or_false]
      cases decide (c = bs [70, 69, 87]) <;> cases decide (c = bs [83, 67, 84]) <;> cases decide (c = bs [66, 75, 78]) <;> cases decide (c = bs [79, 86, 67]) <;> simp
theorem spec_SkyOk_eq (d s v : Int) (w c : ByteArray) (b : Int) : spec_SkyOk d s v w c b = some (skyV d s v w c b) := by
  unfold spec_SkyOk skyV
  simp only [wind_eq, l2In_eq, wea_eq, cloud_eq, Option.bind_some]
  cases windV d s <;> cases (decide (-1 ≤ v) && decide (v ≤ 9999)) <;> cases weaV w <;> rfl
theorem impl_cloud (c : ByteArray) (b : Int) : (bif decide (c = bs []) then some (b == 0) else bif decide (c = bs [83, 75, 67]) then some (b == 0) else (slices_Contains_Lstring_string L_impl_covers c).bind fun val => bif val then (impl_in b 1 200).bind fun val => some val else some false) = some (cloudV c b) := by
  unfold cloudV
  simp only [contains_eq (show L_impl_covers.length ≤ 9223372036854775807 by decide), in_eq, Option.bind_some]
  by_cases h1 : c = bs []
  · simp [h1, BEq.beq]
  · by_cases h2 : c = bs [83, 75, 67]
    · simp [h2, BEq.beq]
    · simp only [h1, h2, decide_false, cond_false, or_self, if_false]
      cases (L_impl_covers.any fun x => decide (c = x)) <;> rfl
theorem impl_tail (v : Int) (w c : ByteArray) (b : Int) : ((impl_in v (-1) 9999).bind fun val => bif !val then some false else bif !decide (w = bs []) then (slices_Contains_Lstring_string L_impl_weathers w).bind fun val => bif !val then some false else bif decide (c = bs []) then some (b == 0) else bif decide (c = bs [83, 75, 67]) then some (b == 0) else (slices_Contains_Lstring_string L_impl_covers c).bind fun val => bif val then (impl_in b 1 200).bind fun val => some val else some false else bif decide (c = bs []) then some (b == 0) else bif decide (c = bs [83, 75, 67]) then some (b == 0) else (slices_Contains_Lstring_string L_impl_covers c).bind fun val => bif val then (impl_in b 1 200).bind fun val => some val else some false)
    = some ((decide (-1 ≤ v) && decide (v ≤ 9999)) && (weaV w && cloudV c b)) := by
  simp only [impl_cloud, contains_eq (show L_impl_weathers.length ≤ 9223372036854775807 by decide), in_eq v, Option.bind_some, weaV]
  cases (decide (-1 ≤ v) && decide (v ≤ 9999)) with
  | false => rfl
  | true =>
    by_cases h : w = bs []
    · simp [h]
    · simp only [h, decide_false, Bool.not_false, cond_true, Bool.not_true, cond_false, Bool.false_or, Bool.true_and]
      cases (L_impl_weathers.any fun x => decide (w = x)) <;> rfl
theorem impl_SkyOk_eq (d s v : Int) (w c : ByteArray) (b : Int) : impl_SkyOk d s v w c b = some (skyV d s v w c b) := by
  unfold impl_SkyOk skyV windV
  simp only [beq_bytes, impl_tail]
  by_cases h1 : d = -1
  · simp only [h1, beq_self_eq_true, cond_true, true_or, if_true]
    by_cases h : s = 0
    · simp [h]
    · simp [h, bne_iff_ne.2 h]
  · by_cases h2 : d = 0
    · simp only [h2, beq_self_eq_true, cond_true, or_true, if_true, show ((0 : Int) == -1) = false from rfl, cond_false]
      by_cases h : s = 0
      · simp [h]
      · simp [h, bne_iff_ne.2 h]
    · simp only [in_eq, Option.bind_some, beq_eq_false_iff_ne.2 h1, beq_eq_false_iff_ne.2 h2, cond_false, h1, h2, or_self, if_false]
      cases h3 : (decide (1 ≤ d) && decide (d ≤ 36)) with
      | true => cases (decide (1 ≤ s) && decide (s ≤ 99)) <;> simp
      | false =>
        by_cases h4 : d = 99
        · simp only [h4, bne_self_eq_false, cond_false, Bool.not_false, cond_true, decide_true, Bool.false_or, Bool.true_and]
          cases (decide (1 ≤ s) && decide (s ≤ 99)) <;> simp
        · simp [h4, bneI]
def fullV (d s v : Int) (w c : ByteArray) (b : Int) : Bool := skyV d s v w c b && (decide (d ≠ -1) && (decide (v ≠ -1) && (decide (w ≠ bs []) && decide (c ≠ bs []))))
theorem spec_full_eq (d s v : Int) (w c : ByteArray) (b : Int) : spec_l21Full d s v w c b = some (fullV d s v w c b) := by
  unfold spec_l21Full fullV
  simp only [spec_SkyOk_eq, Option.bind_some, beq_bytes]
  cases skyV d s v w c b with
  | false => rfl
  | true =>
    by_cases h1 : d = -1
    · simp [h1]
    · by_cases h2 : v = -1
      · simp [h2]
      · by_cases h3 : w = bs []
        · simp [h3]
        · by_cases h4 : c = bs [] <;> simp [h1, h2, h3, h4, bneI]
theorem said_eq (d s v : Int) (w c : ByteArray) (b : Int) : impl_said d s v w c b = some (decide (d ≠ -1), decide (v ≠ -1), decide (w ≠ bs []), decide (c ≠ bs [])) := by
  unfold impl_said
  simp only [beq_bytes]
  by_cases h1 : d = -1 <;> by_cases h2 : v = -1 <;> simp [h1, h2, bneI]
theorem impl_full_eq (d s v : Int) (w c : ByteArray) (b : Int) : impl_full d s v w c b = some (fullV d s v w c b) := by
  unfold impl_full fullV
  simp only [impl_SkyOk_eq, Option.bind_some, said_eq]
  cases skyV d s v w c b with
  | false => rfl
  | true => simp [BEq.beq]
abbrev Sk : Type := Int × Int × Int × ByteArray × ByteArray × Int
def laidV (a b : Sk) : Sk := if skyV a.1 a.2.1 a.2.2.1 a.2.2.2.1 a.2.2.2.2.1 a.2.2.2.2.2 = true ∧ skyV b.1 b.2.1 b.2.2.1 b.2.2.2.1 b.2.2.2.2.1 b.2.2.2.2.2 = true then
    (if b.1 ≠ -1 then b.1 else a.1, if b.1 ≠ -1 then b.2.1 else a.2.1, if b.2.2.1 ≠ -1 then b.2.2.1 else a.2.2.1, if b.2.2.2.1 ≠ bs [] then b.2.2.2.1 else a.2.2.2.1, if b.2.2.2.2.1 ≠ bs [] then b.2.2.2.2.1 else a.2.2.2.2.1, if b.2.2.2.2.1 ≠ bs [] then b.2.2.2.2.2 else a.2.2.2.2.2)
  else (0, 0, 0, bs [], bs [], 0)
theorem spec_Laid_eq (a0 a1 a2 : Int) (a3 a4 : ByteArray) (a5 a6 a7 a8 : Int) (a9 a10 : ByteArray) (a11 : Int) : spec_Laid a0 a1 a2 a3 a4 a5 a6 a7 a8 a9 a10 a11 = some (laidV (a0, a1, a2, a3, a4, a5) (a6, a7, a8, a9, a10, a11)) := by
  unfold spec_Laid laidV
  simp only [spec_SkyOk_eq, Option.bind_some, beq_bytes]
  cases skyV a0 a1 a2 a3 a4 a5 with
  | false => simp
  | true =>
    cases skyV a6 a7 a8 a9 a10 a11 with
    | false => simp
    | true => by_cases h1 : a6 = -1 <;> by_cases h2 : a8 = -1 <;> by_cases h3 : a9 = bs [] <;> by_cases h4 : a10 = bs [] <;> simp [h1, h2, h3, h4, bneI]
theorem impl_Laid_eq (a0 a1 a2 : Int) (a3 a4 : ByteArray) (a5 a6 a7 a8 : Int) (a9 a10 : ByteArray) (a11 : Int) : impl_Laid a0 a1 a2 a3 a4 a5 a6 a7 a8 a9 a10 a11 = some (laidV (a0, a1, a2, a3, a4, a5) (a6, a7, a8, a9, a10, a11)) := by
  unfold impl_Laid laidV
  simp only [impl_SkyOk_eq, said_eq, Option.bind_some]
  cases skyV a0 a1 a2 a3 a4 a5 with
  | false => simp
  | true =>
    cases skyV a6 a7 a8 a9 a10 a11 with
    | false => simp
    | true => by_cases h1 : a6 = -1 <;> by_cases h2 : a8 = -1 <;> by_cases h3 : a9 = bs [] <;> by_cases h4 : a10 = bs [] <;> simp [h1, h2, h3, h4, bneI]
end Go.Proofs.YtmcmkdiefpepnaaDoor.SA
