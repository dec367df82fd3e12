/-
  Part of a proof by the engine: texts that a program of ours printed, or plain lemmas on them. No condition but what each theorem says.
-/
import Derived.Test.YtondfjckadlabaaGreatDoorSA
import Derived.Test.YtondfjckadlabaaGreatDoorDTPlain
set_option linter.unusedVariables false
set_option linter.unusedSimpArgs false
namespace Go.Proofs.YtondfjckadlabaaGreatDoor.SA
open Go Go.Eng Go.Proofs.YtondfjckadlabaaGreatDoor.DT Go.Proofs.YtondfjckadlabaaGreatDoor.EX
def isUp (c : UInt8) : Bool := decide (65 ≤ c.toNat) && decide (c.toNat ≤ 90)
theorem capitals_loop (s : ByteArray) (a : Int) (hs : s.size ≤ 9223372036854775807) : ∀ (m n : Nat), s.size - n = m → n ≤ s.size →
    Ev (fun k => impl_capitals_L2 k s a (n : Int)) (((L s).drop n).all isUp && decide ((s.size : Int) = a)) := by
  intro m
  induction m with
  | zero =>
    intro n hm hn
    obtain rfl : n = s.size := by omega
    apply ev_succ
    simp only [impl_capitals_L2, Int.lt_irrefl, decide_false, cond_false]
    rw [List.drop_eq_nil_of_le (by rw [L_length]; omega)]
    exact ev_eq (ev_now _) (by simp [BEq.beq])
  | succ m ih =>
    intro n hm hn
    have h1 : (n : Int) < (s.size : Int) := by omega
    have h2 : (0 : Int) ≤ (n : Int) := by omega
    have hl : n < (L s).length := by rw [L_length]; omega
    apply ev_succ
    simp only [impl_capitals_L2, h1, h2, decide_true, cond_true, wsucc (show n < 9223372036854775807 by omega), bt_nat, List.getD, List.getElem?_eq_getElem hl, Option.getD_some]
    rw [drop_cons hl, List.all_cons]
    by_cases c1 : ((L s)[n].toNat : Int) < 65
    · simp only [c1, decide_true, cond_true]
      exact ev_eq (ev_now _) (by simp [isUp]; omega)
    · by_cases c2 : ((L s)[n].toNat : Int) > 90
      · simp only [c1, c2, decide_true, decide_false, cond_true, cond_false]
        exact ev_eq (ev_now _) (by simp [isUp]; omega)
      · simp only [c1, c2, decide_false, cond_false]
        have hd : isUp (L s)[n] = true := by simp [isUp]; omega
        rw [hd, Bool.true_and]
        exact ih (n + 1) (by omega) (by omega)
theorem impl_capitals_eq {s : ByteArray} (a : Int) (hs : s.size ≤ 9223372036854775807) : impl_capitals s a = some ((L s).all isUp && decide ((s.size : Int) = a)) := by
  refine evF_eq ?_
  have := capitals_loop s a hs s.size 0 (by omega) (by omega)
  simpa [impl_capitals_F] using this
theorem letters_loop (s : ByteArray) (hs : s.size ≤ 9223372036854775807) : ∀ (m n : Nat), s.size - n = m → n ≤ s.size →
    Ev (fun k => spec_l4Letters_L2 k s (n : Int)) (((L s).drop n).all isUp) := by
  intro m
  induction m with
  | zero =>
    intro n hm hn
    obtain rfl : n = s.size := by omega
    apply ev_succ
    simp only [spec_l4Letters_L2, Int.lt_irrefl, decide_false, cond_false]
    rw [List.drop_eq_nil_of_le (by rw [L_length]; omega)]
    exact ev_eq (ev_now _) (by simp)
  | succ m ih =>
    intro n hm hn
    have h1 : (n : Int) < (s.size : Int) := by omega
    have h2 : (0 : Int) ≤ (n : Int) := by omega
    have hl : n < (L s).length := by rw [L_length]; omega
    apply ev_succ
    simp only [spec_l4Letters_L2, h1, h2, decide_true, cond_true, wsucc (show n < 9223372036854775807 by omega), bt_nat, List.getD, List.getElem?_eq_getElem hl, Option.getD_some]
    rw [drop_cons hl, List.all_cons]
    by_cases c1 : ((L s)[n].toNat : Int) < 65
    · simp only [c1, decide_true, cond_true]
      exact ev_eq (ev_now _) (by simp [isUp]; omega)
    · by_cases c2 : ((L s)[n].toNat : Int) > 90
      · simp only [c1, c2, decide_true, decide_false, cond_true, cond_false]
        exact ev_eq (ev_now _) (by simp [isUp]; omega)
      · simp only [c1, c2, decide_false, cond_false]
        have hd : isUp (L s)[n] = true := by simp [isUp]; omega
        rw [hd, Bool.true_and]
        exact ih (n + 1) (by omega) (by omega)
theorem spec_l4Letters_eq {s : ByteArray} (hs : s.size ≤ 9223372036854775807) : spec_l4Letters s = some ((L s).all isUp) := by
  refine evF_eq ?_
  have := letters_loop s hs s.size 0 (by omega) (by omega)
  simpa [spec_l4Letters_F] using this
/-! ### one byte of a text -/
theorem ext1 {s : ByteArray} {n : Nat} (h : n < s.size) : L (s.extract n (n + 1)) = [(L s)[n]'(by rw [L_length]; exact h)] := by
  rw [L_extract, Nat.add_sub_cancel_left, drop_cons (by rw [L_length]; exact h)]
  rfl
theorem ext1_size {s : ByteArray} {n : Nat} (h : n < s.size) : (s.extract n (n + 1)).size = 1 := by rw [← L_length, ext1 h]; rfl
def centreV (s : ByteArray) : Bool := decide (s.size = 4) && (((L s).take 1).all isUp && ((L s).drop 1).all fun x => isUp x || isDig x)
theorem impl_centre_loop (s : ByteArray) (hs : s.size = 4) : ∀ (m n : Nat), 4 - n = m → n ≤ 4 →
    Ev (fun k => impl_centreOk_L4 k s (n : Int)) (((L s).drop n).all fun x => isUp x || isDig x) := by
  intro m
  induction m with
  | zero =>
    intro n hm hn
    obtain rfl : n = 4 := by omega
    apply ev_succ
    simp only [impl_centreOk_L4, show ¬ ((4 : Nat) : Int) < 4 by omega, decide_false, cond_false]
    rw [List.drop_eq_nil_of_le (by rw [L_length]; omega)]
    exact ev_eq (ev_now _) (by simp)
  | succ m ih =>
    intro n hm hn
    have hl : n < (L s).length := by rw [L_length]; omega
    have e1 : (n : Int).toNat = n := by omega
    have e2 : ((n + 1 : Nat) : Int).toNat = n + 1 := by omega
    apply ev_succ
    simp only [impl_centreOk_L4, show (n : Int) < 4 by omega, show (0 : Int) ≤ (n : Int) by omega, decide_true, cond_true, wsucc (show n < 9223372036854775807 by omega), show (0 : Int) ≤ ((n + 1 : Nat) : Int) by omega,
      show ((n + 1 : Nat) : Int) ≤ (s.size : Int) by omega, show (n : Int) ≤ ((n + 1 : Nat) : Int) by omega, Bool.and_self, e1, e2]
    rw [impl_capitals_eq 1 (by rw [ext1_size (by omega)]; omega), impl_digits_eq (by rw [ext1_size (by omega)]; omega)]
    simp only [Option.bind_some, ext1_size (show n < s.size by omega), ext1 (show n < s.size by omega), List.all_cons, List.all_nil, Bool.and_true]
    rw [drop_cons hl, List.all_cons]
    cases c1 : isUp (L s)[n] with
    | true => simpa using ih (n + 1) (by omega) (by omega)
    | false =>
      cases c2 : isDig (L s)[n] with
      | true => simpa using ih (n + 1) (by omega) (by omega)
      | false => exact ev_eq (ev_of (by simp)) rfl
theorem spec_centre_loop (s : ByteArray) (hs : s.size = 4) : ∀ (m n : Nat), 4 - n = m → n ≤ 4 →
    Ev (fun k => spec_l4CentreOk_L4 k s (n : Int)) (((L s).drop n).all fun x => isUp x || isDig x) := by
  intro m
  induction m with
  | zero =>
    intro n hm hn
    obtain rfl : n = 4 := by omega
    apply ev_succ
    simp only [spec_l4CentreOk_L4, show ¬ ((4 : Nat) : Int) < 4 by omega, decide_false, cond_false]
    rw [List.drop_eq_nil_of_le (by rw [L_length]; omega)]
    exact ev_eq (ev_now _) (by simp)
  | succ m ih =>
    intro n hm hn
    have hl : n < (L s).length := by rw [L_length]; omega
    have e1 : (n : Int).toNat = n := by omega
    have e2 : ((n + 1 : Nat) : Int).toNat = n + 1 := by omega
    have hd : spec_l1Digit (bt s (n : Int)) = some (isDig (L s)[n]) := by
      simp only [spec_l1Digit, bt_nat, List.getD, List.getElem?_eq_getElem hl, Option.getD_some, isDig]
      by_cases c : 48 ≤ (L s)[n].toNat
      · simp only [show ((L s)[n].toNat : Int) ≥ 48 by omega, c, decide_true, cond_true, Bool.true_and]
        congr 1
        rw [Bool.eq_iff_iff]; simp; omega
      · simp only [show ¬ ((L s)[n].toNat : Int) ≥ 48 by omega, c, decide_false, cond_false, Bool.false_and]
    apply ev_succ
    simp only [spec_l4CentreOk_L4, show (n : Int) < 4 by omega, show (0 : Int) ≤ (n : Int) by omega, decide_true, cond_true, wsucc (show n < 9223372036854775807 by omega), show (0 : Int) ≤ ((n + 1 : Nat) : Int) by omega,
      show ((n + 1 : Nat) : Int) ≤ (s.size : Int) by omega, show (n : Int) < (s.size : Int) by omega, show (n : Int) ≤ ((n + 1 : Nat) : Int) by omega, Bool.and_self, e1, e2, hd, Option.bind_some]
    rw [spec_l4Letters_eq (by rw [ext1_size (by omega)]; omega)]
    simp only [Option.bind_some, ext1 (show n < s.size by omega), List.all_cons, List.all_nil, Bool.and_true]
    rw [drop_cons hl, List.all_cons]
    cases c1 : isDig (L s)[n] with
    | true => simpa using ih (n + 1) (by omega) (by omega)
    | false =>
      cases c2 : isUp (L s)[n] with
      | true => simpa using ih (n + 1) (by omega) (by omega)
      | false => exact ev_eq (ev_of (by simp)) rfl
theorem centre_four {s : ByteArray} (h : s.size = 4) : centreV s = (isUp ((L s)[0]'(by rw [L_length]; omega)) && ((L s).drop 1).all fun x => isUp x || isDig x) := by
  have h0 : 0 < (L s).length := by rw [L_length]; omega
  have : (L s).take 1 = [(L s)[0]] := by
    have := congrArg (List.take 1) (drop_cons h0)
    rw [List.drop_zero] at this
    exact this
  simp [centreV, h, this]
theorem centre_not {s : ByteArray} (h : ¬ s.size = 4) : centreV s = false := by simp [centreV, h]
theorem impl_centreOk_eq (s : ByteArray) : impl_centreOk s = some (centreV s) := by
  refine evF_eq ?_
  unfold impl_centreOk_F
  by_cases h : s.size = 4
  · have hb : ((s.size : Int) != 4) = false := by simp [h]
    simp only [hb, cond_false, show decide ((0 : Int) ≤ 1) = true by decide, show decide ((1 : Int) ≤ (s.size : Int)) = true by simp; omega, Bool.and_self, cond_true, show Int.toNat 0 = 0 from rfl, show Int.toNat 1 = 0 + 1 from rfl]
    rw [impl_capitals_eq 1 (by rw [ext1_size (by omega)]; omega)]
    simp only [Option.bind_some, ext1_size (show 0 < s.size by omega), ext1 (show 0 < s.size by omega), List.all_cons, List.all_nil, Bool.and_true]
    rw [centre_four h]
    cases c : isUp ((L s)[0]'(by rw [L_length]; omega)) with
    | true => simpa using impl_centre_loop s h 3 1 (by omega) (by omega)
    | false => exact ev_eq (ev_of (by simp)) rfl
  · have hb : ((s.size : Int) != 4) = true := by simp; omega
    simp only [hb, cond_true]
    exact ev_eq (ev_now _) (centre_not h).symm
theorem spec_l4CentreOk_eq (s : ByteArray) : spec_l4CentreOk s = some (centreV s) := by
  refine evF_eq ?_
  unfold spec_l4CentreOk_F
  by_cases h : s.size = 4
  · have hb : ((s.size : Int) != 4) = false := by simp [h]
    simp only [hb, cond_false, show decide ((0 : Int) ≤ 1) = true by decide, show decide ((1 : Int) ≤ (s.size : Int)) = true by simp; omega, Bool.and_self, cond_true, show Int.toNat 0 = 0 from rfl, show Int.toNat 1 = 0 + 1 from rfl]
    rw [spec_l4Letters_eq (by rw [ext1_size (by omega)]; omega)]
    simp only [Option.bind_some, ext1 (show 0 < s.size by omega), List.all_cons, List.all_nil, Bool.and_true]
    rw [centre_four h]
    cases c : isUp ((L s)[0]'(by rw [L_length]; omega)) with
    | true => simpa using spec_centre_loop s h 3 1 (by omega) (by omega)
    | false => exact ev_eq (ev_of (by simp)) rfl
  · have hb : ((s.size : Int) != 4) = true := by simp; omega
    simp only [hb, cond_true]
    exact ev_eq (ev_now _) (centre_not h).symm
end Go.Proofs.YtondfjckadlabaaGreatDoor.SA

namespace Go.Proofs.YtondfjckadlabaaGreatDoor.SA
open Go Go.Eng Go.Proofs.YtondfjckadlabaaGreatDoor.DT Go.Proofs.YtondfjckadlabaaGreatDoor.EX
theorem index_loop (xs : List ByteArray) (v : ByteArray) (hx : xs.length ≤ 9223372036854775807) : ∀ (m n : Nat), xs.length - n = m → n ≤ xs.length →
    ∃ r : Int, -1 ≤ r ∧ (decide (r ≥ 0) = (xs.drop n).any fun x => decide (v = x)) ∧ Ev (fun k => slices_Index_Lstring_string_L2 k xs v (xs.length : Int) (n : Int)) r := by
  intro m
  induction m with
  | zero =>
    intro n hm hn
    obtain rfl : n = xs.length := by omega
    refine ⟨-1, by omega, by simp, ?_⟩
    apply ev_succ
    simp only [slices_Index_Lstring_string_L2, Int.lt_irrefl, decide_false, cond_false]
    exact ev_now _
  | succ m ih =>
    intro n hm hn
    have hl : n < xs.length := by omega
    rw [drop_cons hl]
    by_cases c : v = xs[n]
    · refine ⟨(n : Int), by omega, by rw [List.any_cons, decide_eq_true c]; simp, ?_⟩
      apply ev_succ
      simp only [slices_Index_Lstring_string_L2, show (n : Int) < (xs.length : Int) by omega, show (0 : Int) ≤ (n : Int) by omega, decide_true, cond_true, rd_nat (k := .str) hl, beq_bytes, c]
      exact ev_now _
    · obtain ⟨r, h1, h2, h3⟩ := ih (n + 1) (by omega) (by omega)
      refine ⟨r, h1, by rw [List.any_cons, decide_eq_false c, Bool.false_or, h2], ?_⟩
      apply ev_succ
      simp only [slices_Index_Lstring_string_L2, show (n : Int) < (xs.length : Int) by omega, show (0 : Int) ≤ (n : Int) by omega, decide_true, cond_true, rd_nat (k := .str) hl, beq_bytes, c, decide_false, cond_false, wsucc (show n < 9223372036854775807 by omega)]
      exact h3
theorem contains_eq {xs : List ByteArray} {v : ByteArray} (hx : xs.length ≤ 9223372036854775807) : slices_Contains_Lstring_string xs v = some (xs.any fun x => decide (v = x)) := by
  obtain ⟨r, _, h2, h3⟩ := index_loop xs v hx xs.length 0 (by omega) (by omega)
  have : slices_Index_Lstring_string xs v = some r := evF_eq h3
  simp only [slices_Contains_Lstring_string, this, Option.bind_some, h2, List.drop_zero]
theorem l2In_eq (a b c : Int) : spec_l2In a b c = some (decide (b ≤ a) && decide (a ≤ c)) := in_eq a b c
def windV (d s : Int) : Bool := if d = -1 ∨ d = 0 then decide (s = 0) else ((decide (1 ≤ d) && decide (d ≤ 36)) || decide (d = 99)) && (decide (1 ≤ s) && decide (s ≤ 99))
def weaV (w : ByteArray) : Bool := decide (w = bs []) || L_impl_weathers.any fun x => decide (w = x)
def cloudV (c : ByteArray) (b : Int) : Bool := if c = bs [] ∨ c = bs [83, 75, 67] then decide (b = 0) else (L_impl_covers.any fun x => decide (c = x)) && (decide (1 ≤ b) && decide (b ≤ 200))
def skyV (d s v : Int) (w c : ByteArray) (b : Int) : Bool := windV d s && ((decide (-1 ≤ v) && decide (v ≤ 9999)) && (weaV w && cloudV c b))
theorem wind_eq (d s v : Int) (w c : ByteArray) (b : Int) : spec_l21WindOk d s v w c b = some (windV d s) := by
  unfold spec_l21WindOk windV
  by_cases h1 : d = -1
  · simp [h1, BEq.beq]
  · by_cases h2 : d = 0
    · simp [h2, BEq.beq]
    · simp only [l2In_eq, Option.bind_some, beq_eq_false_iff_ne.2 h1, beq_eq_false_iff_ne.2 h2, cond_false, h1, h2, or_self, if_false]
      cases h3 : (decide (1 ≤ d) && decide (d ≤ 36)) with
      | true => simp
      | false =>
        by_cases h4 : d = 99
        · simp [h4]
        · simp [h4, beq_eq_false_iff_ne.2 h4]
theorem wea_eq (w : ByteArray) : spec_l21WeatherOk w = some (weaV w) := by
  have hb : ∀ (c : Bool) (y : Bool), (bif c then some true else some y) = some (c || y) := fun c y => by cases c <;> rfl
  unfold spec_l21WeatherOk weaV
  simp only [beq_bytes, hb, L_impl_weathers, List.any_cons, List.any_nil]
theorem cloud_eq (d s v : Int) (w c : ByteArray) (b : Int) : spec_l21CloudOk d s v w c b = some (cloudV c b) := by
  unfold spec_l21CloudOk cloudV
  simp only [beq_bytes, l2In_eq, Option.bind_some, L_impl_covers, List.any_cons, List.any_nil]
  by_cases h1 : c = bs []
  · simp [h1, BEq.beq]
  · by_cases h2 : c = bs [83, 75, 67]
    · simp [h2, BEq.beq]
    · simp only [h1, h2, decide_false, cond_false, or_self, if_false, Bool.or_false]
      cases decide (c = bs [70, 69, 87]) <;> cases decide (c = bs [83, 67, 84]) <;> cases decide (c = bs [66, 75, 78]) <;> cases decide (c = bs [79, 86, 67]) <;> simp
theorem spec_SkyOk_eq (d s v : Int) (w c : ByteArray) (b : Int) : spec_SkyOk d s v w c b = some (skyV d s v w c b) := by
  unfold spec_SkyOk skyV
  simp only [wind_eq, l2In_eq, wea_eq, cloud_eq, Option.bind_some]
  cases windV d s <;> cases (decide (-1 ≤ v) && decide (v ≤ 9999)) <;> cases weaV w <;> rfl
theorem impl_cloud (c : ByteArray) (b : Int) : (bif decide (c = bs []) then some (b == 0) else bif decide (c = bs [83, 75, 67]) then some (b == 0) else (slices_Contains_Lstring_string L_impl_covers c).bind fun val => bif val then (impl_in b 1 200).bind fun val => some val else some false) = some (cloudV c b) := by
  unfold cloudV
  simp only [contains_eq (show L_impl_covers.length ≤ 9223372036854775807 by decide), in_eq, Option.bind_some]
  by_cases h1 : c = bs []
  · simp [h1, BEq.beq]
  · by_cases h2 : c = bs [83, 75, 67]
    · simp [h2, BEq.beq]
    · simp only [h1, h2, decide_false, cond_false, or_self, if_false]
      cases (L_impl_covers.any fun x => decide (c = x)) <;> rfl
theorem impl_tail (v : Int) (w c : ByteArray) (b : Int) : ((impl_in v (-1) 9999).bind fun val => bif !val then some false else bif !decide (w = bs []) then (slices_Contains_Lstring_string L_impl_weathers w).bind fun val => bif !val then some false else bif decide (c = bs []) then some (b == 0) else bif decide (c = bs [83, 75, 67]) then some (b == 0) else (slices_Contains_Lstring_string L_impl_covers c).bind fun val => bif val then (impl_in b 1 200).bind fun val => some val else some false else bif decide (c = bs []) then some (b == 0) else bif decide (c = bs [83, 75, 67]) then some (b == 0) else (slices_Contains_Lstring_string L_impl_covers c).bind fun val => bif val then (impl_in b 1 200).bind fun val => some val else some false)
    = some ((decide (-1 ≤ v) && decide (v ≤ 9999)) && (weaV w && cloudV c b)) := by
  simp only [impl_cloud, contains_eq (show L_impl_weathers.length ≤ 9223372036854775807 by decide), in_eq v, Option.bind_some, weaV]
  cases (decide (-1 ≤ v) && decide (v ≤ 9999)) with
  | false => rfl
  | true =>
    by_cases h : w = bs []
    · simp [h]
    · simp only [h, decide_false, Bool.not_false, cond_true, Bool.not_true, cond_false, Bool.false_or, Bool.true_and]
      cases (L_impl_weathers.any fun x => decide (w = x)) <;> rfl
theorem impl_SkyOk_eq (d s v : Int) (w c : ByteArray) (b : Int) : impl_SkyOk d s v w c b = some (skyV d s v w c b) := by
  unfold impl_SkyOk skyV windV
  simp only [beq_bytes, impl_tail]
  by_cases h1 : d = -1
  · simp only [h1, beq_self_eq_true, cond_true, true_or, if_true]
    by_cases h : s = 0
    · simp [h]
    · simp [h, bne_iff_ne.2 h]
  · by_cases h2 : d = 0
    · simp only [h2, beq_self_eq_true, cond_true, or_true, if_true, show ((0 : Int) == -1) = false from rfl, cond_false]
      by_cases h : s = 0
      · simp [h]
      · simp [h, bne_iff_ne.2 h]
    · simp only [in_eq, Option.bind_some, beq_eq_false_iff_ne.2 h1, beq_eq_false_iff_ne.2 h2, cond_false, h1, h2, or_self, if_false]
      cases h3 : (decide (1 ≤ d) && decide (d ≤ 36)) with
      | true => cases (decide (1 ≤ s) && decide (s ≤ 99)) <;> simp
      | false =>
        by_cases h4 : d = 99
        · simp only [h4, bne_self_eq_false, cond_false, Bool.not_false, cond_true, decide_true, Bool.false_or, Bool.true_and]
          cases (decide (1 ≤ s) && decide (s ≤ 99)) <;> simp
        · simp [h4, bneI]
def fullV (d s v : Int) (w c : ByteArray) (b : Int) : Bool := skyV d s v w c b && (decide (d ≠ -1) && (decide (v ≠ -1) && (decide (w ≠ bs []) && decide (c ≠ bs []))))
theorem spec_full_eq (d s v : Int) (w c : ByteArray) (b : Int) : spec_l21Full d s v w c b = some (fullV d s v w c b) := by
  unfold spec_l21Full fullV
  simp only [spec_SkyOk_eq, Option.bind_some, beq_bytes]
  cases skyV d s v w c b with
  | false => rfl
  | true =>
    by_cases h1 : d = -1
    · simp [h1]
    · by_cases h2 : v = -1
      · simp [h2]
      · by_cases h3 : w = bs []
        · simp [h3]
        · by_cases h4 : c = bs [] <;> simp [h1, h2, h3, h4, bneI]
theorem said_eq (d s v : Int) (w c : ByteArray) (b : Int) : impl_said d s v w c b = some (decide (d ≠ -1), decide (v ≠ -1), decide (w ≠ bs []), decide (c ≠ bs [])) := by
  unfold impl_said
  simp only [beq_bytes]
  by_cases h1 : d = -1 <;> by_cases h2 : v = -1 <;> simp [h1, h2, bneI]
theorem impl_full_eq (d s v : Int) (w c : ByteArray) (b : Int) : impl_full d s v w c b = some (fullV d s v w c b) := by
  unfold impl_full fullV
  simp only [impl_SkyOk_eq, Option.bind_some, said_eq]
  cases skyV d s v w c b with
  | false => rfl
  | true => simp [BEq.beq]
abbrev Sk : Type := Int × Int × Int × ByteArray × ByteArray × Int
def laidV (a b : Sk) : Sk := if skyV a.1 a.2.1 a.2.2.1 a.2.2.2.1 a.2.2.2.2.1 a.2.2.2.2.2 = true ∧ skyV b.1 b.2.1 b.2.2.1 b.2.2.2.1 b.2.2.2.2.1 b.2.2.2.2.2 = true then
    (if b.1 ≠ -1 then b.1 else a.1, if b.1 ≠ -1 then b.2.1 else a.2.1, if b.2.2.1 ≠ -1 then b.2.2.1 else a.2.2.1, if b.2.2.2.1 ≠ bs [] then b.2.2.2.1 else a.2.2.2.1, if b.2.2.2.2.1 ≠ bs [] then b.2.2.2.2.1 else a.2.2.2.2.1, if b.2.2.2.2.1 ≠ bs [] then b.2.2.2.2.2 else a.2.2.2.2.2)
  else (0, 0, 0, bs [], bs [], 0)
theorem spec_Laid_eq (a0 a1 a2 : Int) (a3 a4 : ByteArray) (a5 a6 a7 a8 : Int) (a9 a10 : ByteArray) (a11 : Int) : spec_Laid a0 a1 a2 a3 a4 a5 a6 a7 a8 a9 a10 a11 = some (laidV (a0, a1, a2, a3, a4, a5) (a6, a7, a8, a9, a10, a11)) := by
  unfold spec_Laid laidV
  simp only [spec_SkyOk_eq, Option.bind_some, beq_bytes]
  cases skyV a0 a1 a2 a3 a4 a5 with
  | false => simp
  | true =>
    cases skyV a6 a7 a8 a9 a10 a11 with
    | false => simp
    | true => by_cases h1 : a6 = -1 <;> by_cases h2 : a8 = -1 <;> by_cases h3 : a9 = bs [] <;> by_cases h4 : a10 = bs [] <;> simp [h1, h2, h3, h4, bneI]
theorem impl_Laid_eq (a0 a1 a2 : Int) (a3 a4 : ByteArray) (a5 a6 a7 a8 : Int) (a9 a10 : ByteArray) (a11 : Int) : impl_Laid a0 a1 a2 a3 a4 a5 a6 a7 a8 a9 a10 a11 = some (laidV (a0, a1, a2, a3, a4, a5) (a6, a7, a8, a9, a10, a11)) := by
  unfold impl_Laid laidV
  simp only [impl_SkyOk_eq, said_eq, Option.bind_some]
  cases skyV a0 a1 a2 a3 a4 a5 with
  | false => simp
  | true =>
    cases skyV a6 a7 a8 a9 a10 a11 with
    | false => simp
    | true => by_cases h1 : a6 = -1 <;> by_cases h2 : a8 = -1 <;> by_cases h3 : a9 = bs [] <;> by_cases h4 : a10 = bs [] <;> simp [h1, h2, h3, h4, bneI]
end Go.Proofs.YtondfjckadlabaaGreatDoor.SA

namespace Go.Proofs.YtondfjckadlabaaGreatDoor.SA
open Go Go.Eng Go.Proofs.YtondfjckadlabaaGreatDoor.DT Go.Proofs.YtondfjckadlabaaGreatDoor.EX
abbrev Ch : Type := Int × Int × Int × Int × Int × Int × ByteArray × ByteArray × Int
theorem ev_guard {b : Bool} {F : Nat → Option Bool} {r : Bool} (h : b = true → Ev F r) : Ev (fun k => bif !b then some false else F k) (b && r) := by
  cases b with
  | true => exact h rfl
  | false => exact ev_now _
theorem ev_guard' {b : Bool} {F : Nat → Option Bool} {r : Bool} (h : b = false → Ev F r) : Ev (fun k => bif b then some false else F k) (!b && r) := by
  cases b with
  | true => exact ev_now _
  | false => exact h rfl
def spanV (a b : Int) : Bool := (decide (0 ≤ a) && decide (a ≤ 52596000)) && ((decide (0 ≤ b) && decide (b ≤ 52596000)) && decide (a ≤ b))
theorem l2SpanOk_eq (a b : Int) : spec_l2SpanOk a b = some (spanV a b) := by
  unfold spec_l2SpanOk spanV
  simp only [l2Time_eq, Option.bind_some]
  cases (decide (0 ≤ a) && decide (a ≤ 52596000)) <;> cases (decide (0 ≤ b) && decide (b ≤ 52596000)) <;> rfl
theorem spanOk_eq (a b : Int) : impl_spanOk a b = some (spanV a b) := by
  unfold impl_spanOk spanV
  simp only [isTime_eq, Option.bind_some]
  cases (decide (0 ≤ a) && decide (a ≤ 52596000)) <;> cases (decide (0 ≤ b) && decide (b ≤ 52596000)) <;> rfl
def unsaidV (d v : Int) (w c : ByteArray) : Bool := decide (d = -1) && (decide (v = -1) && (decide (w = bs []) && decide (c = bs [])))
def kindV (vf vt : Int) (c : Ch) : Bool := if c.1 = 1 then decide (c.2.2.1 = 0) && ((decide (vf ≤ c.2.1) && decide (c.2.1 ≤ vt - 1)) && fullV c.2.2.2.1 c.2.2.2.2.1 c.2.2.2.2.2.1 c.2.2.2.2.2.2.1 c.2.2.2.2.2.2.2.1 c.2.2.2.2.2.2.2.2)
  else (decide (2 ≤ c.1) && decide (c.1 ≤ 4)) && (decide (c.2.1.tmod 60 = 0) && (decide (c.2.2.1.tmod 60 = 0) && (decide (vf ≤ c.2.1) && (decide (c.2.1 < c.2.2.1) && decide (c.2.2.1 ≤ vt)))))
def chOk (vf vt : Int) (c : Ch) : Bool := skyV c.2.2.2.1 c.2.2.2.2.1 c.2.2.2.2.2.1 c.2.2.2.2.2.2.1 c.2.2.2.2.2.2.2.1 c.2.2.2.2.2.2.2.2 && (!unsaidV c.2.2.2.1 c.2.2.2.2.2.1 c.2.2.2.2.2.2.1 c.2.2.2.2.2.2.2.1 && kindV vf vt c)
theorem unsaid_eq {d s v : Int} {w c : ByteArray} {b : Int} (h : skyV d s v w c b = true) :
    (decide (d = -1) && (decide (s = 0) && (decide (v = -1) && (decide (w = bs []) && (decide (c = bs []) && decide (b = 0)))))) = unsaidV d v w c := by
  unfold unsaidV
  by_cases h1 : d = -1
  · by_cases h5 : c = bs []
    · have hs : s = 0 := by
        simp only [skyV, windV, h1, true_or, if_true, Bool.and_eq_true] at h
        simpa using h.1
      have hb : b = 0 := by
        simp only [skyV, cloudV, h5, true_or, if_true, Bool.and_eq_true] at h
        simpa using h.2.2.2
      simp [h1, h5, hs, hb]
    · simp [h5]
  · simp [h1]
theorem l21ChangeOk_eq (a0 : ByteArray) (a1 vf vt a4 a5 a6 : Int) (a7 a8 : ByteArray) (a9 : Int) (a10 : List Ch) (c : Ch) (hv : 0 ≤ vt ∧ vt ≤ 52596000) :
    spec_l21ChangeOk a0 a1 vf vt a4 a5 a6 a7 a8 a9 a10 c.1 c.2.1 c.2.2.1 c.2.2.2.1 c.2.2.2.2.1 c.2.2.2.2.2.1 c.2.2.2.2.2.2.1 c.2.2.2.2.2.2.2.1 c.2.2.2.2.2.2.2.2 = some (chOk vf vt c) := by
  obtain ⟨k, f, t, d, s, v, w, cc, b⟩ := c
  simp only
  unfold spec_l21ChangeOk chOk kindV
  simp only [spec_SkyOk_eq, Option.bind_some, spec_l21Unsaid, beq_bytes, beqI, l2In_eq, spec_full_eq, w64 (show -9223372036854775808 ≤ vt - 1 by omega) (show vt - 1 ≤ 9223372036854775807 by omega)]
  cases hs : skyV d s v w cc b with
  | false => rfl
  | true =>
    simp only [Bool.not_true, cond_false, unsaid_eq hs, Bool.true_and]
    cases unsaidV d v w cc with
    | true => rfl
    | false =>
      simp only [cond_false, Bool.not_false, Bool.true_and]
      by_cases hk : k = 1
      · simp only [hk, decide_true, cond_true, if_true]
        by_cases ht : t = 0
        · simp only [ht, decide_true, cond_true, Bool.true_and]
          cases (decide (vf ≤ f) && decide (f ≤ vt - 1)) <;> rfl
        · simp [ht]
      · simp only [hk, decide_false, cond_false, if_false]
        cases (decide (2 ≤ k) && decide (k ≤ 4)) <;> cases decide (f.tmod 60 = 0) <;> cases decide (t.tmod 60 = 0) <;> cases decide (vf ≤ f) <;> cases decide (f < t) <;> rfl
/-- The rest of the changes. -/
def tailV (c : Ch) (e : Int) (r : Int → Bool) : Bool := if c.1 = 1 ∨ c.1 = 2 then !decide (c.2.1 < e) && r (if c.2.2.1 > c.2.1 then c.2.2.1 else c.2.1) else r e
def prevV (p : Option Int) (f : Int) : Bool := match p with
  | none => true
  | some x => decide (x ≤ f)
def chs (vf vt : Int) : List Ch → Option Int → Int → Bool
  | [], _, _ => true
  | c :: cs, p, e => chOk vf vt c && (prevV p c.2.1 && tailV c e fun e' => chs vf vt cs (some c.2.1) e')
theorem chs_init {vf vt : Int} (hf : 0 ≤ vf) : ∀ (l : List Ch) (p : Option Int), chs vf vt l p (-1) = chs vf vt l p 0
  | [], _ => rfl
  | c :: cs, p => by
    simp only [chs]
    cases h : chOk vf vt c with
    | false => rfl
    | true =>
      have hfrom : vf ≤ c.2.1 := by
        simp only [chOk, kindV, Bool.and_eq_true] at h
        have := h.2.2
        split at this <;> simp only [Bool.and_eq_true, decide_eq_true_eq] at this
        · exact this.2.1.1
        · exact this.2.2.2.1
      simp only [tailV, chs_init hf cs]
      split
      · rw [decide_eq_false (show ¬ c.2.1 < -1 by omega), decide_eq_false (show ¬ c.2.1 < 0 by omega)]
      · rfl
def prevAt (xs : List Ch) : Nat → Option Int
  | 0 => none
  | n + 1 => (xs[n]?).map (·.2.1)
theorem chs_step {vf vt e : Int} {xs : List Ch} {n : Nat} (h : n < xs.length) : chs vf vt (xs.drop n) (prevAt xs n) e = (chOk vf vt xs[n] && (prevV (prevAt xs n) xs[n].2.1 && tailV xs[n] e fun e' => chs vf vt (xs.drop (n + 1)) (prevAt xs (n + 1)) e')) := by
  rw [drop_cons h]
  simp only [chs]
  simp [prevAt, h]
theorem wpred {n : Nat} (h : n < 9223372036854775807) : IntKind.i64.wrap (((n + 1 : Nat) : Int) - 1) = (n : Int) := by
  rw [w64 (by omega) (by omega)]; omega
theorem spec_Taf_loop (a2 : ByteArray) (a3 vf vt a6 a7 a8 : Int) (a9 a10 : ByteArray) (a11 : Int) (xs : List Ch) (hx : xs.length ≤ 10) (hv : 0 ≤ vt ∧ vt ≤ 52596000) : ∀ (m n : Nat) (e : Int), xs.length - n = m → n ≤ xs.length →
    Ev (fun k => spec_TafOk_L6 k e (n : Int) a2 a3 vf vt a6 a7 a8 a9 a10 a11 xs) (chs vf vt (xs.drop n) (prevAt xs n) e) := by
  intro m
  induction m with
  | zero =>
    intro n e hm hn
    obtain rfl : n = xs.length := by omega
    apply ev_succ
    simp only [spec_TafOk_L6, Int.lt_irrefl, decide_false, cond_false]
    rw [List.drop_eq_nil_of_le (Nat.le_refl _)]
    exact ev_now _
  | succ m ih =>
    intro n e hm hn
    have hl : n < xs.length := by omega
    rw [chs_step hl]
    have ih' := fun e' => ih (n + 1) e' (by omega) (by omega)
    apply ev_succ
    simp only [spec_TafOk_L6, show (n : Int) < (xs.length : Int) by omega, show (0 : Int) ≤ (n : Int) by omega, decide_true, cond_true, rd_nat (k := K9_SA0) hl, wsucc (show n < 9223372036854775807 by omega)]
    simp only [l21ChangeOk_eq a2 a3 vf vt a6 a7 a8 a9 a10 a11 xs xs[n] hv, Option.bind_some]
    refine ev_guard fun _ => ?_
    generalize hc : xs[n] = c at *
    have tail : Ev (fun k => bif c.1 == 1 then bif decide (c.2.1 < e) then some false else spec_TafOk_L6 k (if c.2.2.1 > c.2.1 then c.2.2.1 else c.2.1) ((n + 1 : Nat) : Int) a2 a3 vf vt a6 a7 a8 a9 a10 a11 xs
        else bif c.1 == 2 then bif decide (c.2.1 < e) then some false else spec_TafOk_L6 k (if c.2.2.1 > c.2.1 then c.2.2.1 else c.2.1) ((n + 1 : Nat) : Int) a2 a3 vf vt a6 a7 a8 a9 a10 a11 xs
        else spec_TafOk_L6 k e ((n + 1 : Nat) : Int) a2 a3 vf vt a6 a7 a8 a9 a10 a11 xs) (tailV c e fun e' => chs vf vt (xs.drop (n + 1)) (prevAt xs (n + 1)) e') := by
      unfold tailV
      by_cases h1 : c.1 = 1
      · simp only [h1, beq_self_eq_true, cond_true, true_or, if_true]
        exact ev_guard' fun _ => ih' _
      · by_cases h2 : c.1 = 2
        · simp only [h2, beqI, show ¬ (2 : Int) = 1 by omega, decide_false, decide_true, cond_false, cond_true, or_true, if_true]
          exact ev_guard' fun _ => ih' _
        · simp only [beqI, h1, h2, decide_false, cond_false, or_self, if_false]
          exact ih' _
    cases n with
    | zero =>
      simp only [show ¬ ((0 : Nat) : Int) > 0 by omega, decide_false, cond_false, prevAt, prevV, Bool.true_and]
      exact tail
    | succ n =>
      have hl' : n < xs.length := by omega
      simp only [show ((n + 1 : Nat) : Int) > 0 by omega, decide_true, cond_true, wpred (show n < 9223372036854775807 by omega), show (0 : Int) ≤ (n : Int) by omega, show (n : Int) < (xs.length : Int) by omega, rd_nat (k := K9_SA0) hl']
      have hp : prevV (prevAt xs (n + 1)) c.2.1 = !decide (c.2.1 < xs[n].2.1) := by
        simp only [prevAt, List.getElem?_eq_getElem hl', Option.map_some, prevV]
        by_cases h : xs[n].2.1 ≤ c.2.1
        · simp [h, show ¬ c.2.1 < xs[n].2.1 by omega]
        · simp [h, show c.2.1 < xs[n].2.1 by omega]
      rw [hp]
      exact ev_guard' fun _ => tail

def kindI (vf vt : Int) (c : Ch) : Bool := if c.1 = 1 then !decide (c.2.1 < vf) && (!decide (c.2.1 ≥ vt) && (!!decide (c.2.2.1 = 0) && fullV c.2.2.2.1 c.2.2.2.2.1 c.2.2.2.2.2.1 c.2.2.2.2.2.2.1 c.2.2.2.2.2.2.2.1 c.2.2.2.2.2.2.2.2))
  else !decide (c.2.1 < vf) && (!decide (c.2.1 ≥ c.2.2.1) && (!decide (c.2.2.1 > vt) && (!!decide (c.2.1.tmod 60 = 0) && !!decide (c.2.2.1.tmod 60 = 0))))
theorem kind_same (vf vt : Int) (c : Ch) : ((decide (1 ≤ c.1) && decide (c.1 ≤ 4)) && kindI vf vt c) = kindV vf vt c := by
  obtain ⟨k, f, t, d, s, v, w, cc, b⟩ := c
  unfold kindI kindV
  simp only
  by_cases hk : k = 1
  · simp only [hk, if_true, show decide ((1 : Int) ≤ 1) = true by decide, show decide ((1 : Int) ≤ 4) = true by decide, Bool.and_self, Bool.true_and, Bool.not_not]
    rw [Bool.eq_iff_iff]
    simp only [Bool.and_eq_true, decide_eq_true_eq, Bool.not_eq_true', decide_eq_false_iff_not]
    constructor
    · rintro ⟨h1, h2, h3, h4⟩; exact ⟨h3, ⟨by omega, by omega⟩, h4⟩
    · rintro ⟨h1, ⟨h2, h3⟩, h4⟩; exact ⟨by omega, by omega, h1, h4⟩
  · simp only [hk, if_false, Bool.not_not]
    rw [Bool.eq_iff_iff]
    simp only [Bool.and_eq_true, decide_eq_true_eq, Bool.not_eq_true', decide_eq_false_iff_not]
    constructor
    · rintro ⟨⟨h1, h2⟩, h3, h4, h5, h6, h7⟩; exact ⟨⟨by omega, h2⟩, h6, h7, by omega, by omega, by omega⟩
    · rintro ⟨⟨h1, h2⟩, h3, h4, h5, h6, h7⟩; exact ⟨⟨by omega, h2⟩, by omega, by omega, by omega, h3, h4⟩
theorem impl_Taf_loop (b0 : ByteArray) (b1 b2 b3 b4 b5 b6 : Int) (b7 b8 : ByteArray) (b9 : Int) (vf vt : Int) (xs : List Ch) (hx : xs.length ≤ 10) : ∀ (m n : Nat) (e : Int), xs.length - n = m → n ≤ xs.length →
    Ev (fun k => impl_TafOk_L6 k e xs (xs.length : Int) (n : Int) b0 b1 b2 b3 b4 b5 b6 b7 b8 b9 xs vf vt) (chs vf vt (xs.drop n) (prevAt xs n) e) := by
  intro m
  induction m with
  | zero =>
    intro n e hm hn
    obtain rfl : n = xs.length := by omega
    apply ev_succ
    simp only [impl_TafOk_L6, Int.lt_irrefl, decide_false, cond_false]
    rw [List.drop_eq_nil_of_le (Nat.le_refl _)]
    exact ev_now _
  | succ m ih =>
    intro n e hm hn
    have hl : n < xs.length := by omega
    rw [chs_step hl]
    have ih' := fun e' => ih (n + 1) e' (by omega) (by omega)
    apply ev_succ
    simp only [impl_TafOk_L6, show (n : Int) < (xs.length : Int) by omega, show (0 : Int) ≤ (n : Int) by omega, decide_true, cond_true, rd_nat (k := K9_SA0) hl, wsucc (show n < 9223372036854775807 by omega)]
    generalize hc : xs[n] = c at *
    obtain ⟨k, f, t, d, s, v, w, cc, b⟩ := c
    simp only [in_eq, impl_SkyOk_eq, said_eq, impl_full_eq, Option.bind_some]
    have hu : (decide (d ≠ -1) == false && (decide (v ≠ -1) == false && (decide (w ≠ bs []) == false && decide (cc ≠ bs []) == false))) = unsaidV d v w cc := by
      unfold unsaidV
      by_cases h1 : d = -1 <;> by_cases h2 : v = -1 <;> by_cases h3 : w = bs [] <;> by_cases h4 : cc = bs [] <;> simp [h1, h2, h3, h4]
    simp only [hu]
    have tail : Ev (fun k' => bif k == 1 then bif decide (f < e) then some false else impl_TafOk_L6 k' (if t > f then t else f) xs (xs.length : Int) ((n + 1 : Nat) : Int) b0 b1 b2 b3 b4 b5 b6 b7 b8 b9 xs vf vt
        else bif k == 2 then bif decide (f < e) then some false else impl_TafOk_L6 k' (if t > f then t else f) xs (xs.length : Int) ((n + 1 : Nat) : Int) b0 b1 b2 b3 b4 b5 b6 b7 b8 b9 xs vf vt
        else impl_TafOk_L6 k' e xs (xs.length : Int) ((n + 1 : Nat) : Int) b0 b1 b2 b3 b4 b5 b6 b7 b8 b9 xs vf vt) (tailV (k, f, t, d, s, v, w, cc, b) e fun e' => chs vf vt (xs.drop (n + 1)) (prevAt xs (n + 1)) e') := by
      unfold tailV
      by_cases h1 : k = 1
      · simp only [h1, beq_self_eq_true, cond_true, true_or, if_true]
        exact ev_guard' fun _ => ih' _
      · by_cases h2 : k = 2
        · simp only [h2, beqI, show ¬ (2 : Int) = 1 by omega, decide_false, decide_true, cond_false, cond_true, or_true, if_true]
          exact ev_guard' fun _ => ih' _
        · simp only [beqI, h1, h2, decide_false, cond_false, or_self, if_false]
          exact ih' _
    have body : Ev (fun k' => bif k == 1 then bif decide (f < vf) then some false else bif decide (f ≥ vt) then some false else bif t != 0 then some false else bif !fullV d s v w cc b then some false else
          (bif k == 1 then bif decide (f < e) then some false else impl_TafOk_L6 k' (if t > f then t else f) xs (xs.length : Int) ((n + 1 : Nat) : Int) b0 b1 b2 b3 b4 b5 b6 b7 b8 b9 xs vf vt
        else bif k == 2 then bif decide (f < e) then some false else impl_TafOk_L6 k' (if t > f then t else f) xs (xs.length : Int) ((n + 1 : Nat) : Int) b0 b1 b2 b3 b4 b5 b6 b7 b8 b9 xs vf vt
        else impl_TafOk_L6 k' e xs (xs.length : Int) ((n + 1 : Nat) : Int) b0 b1 b2 b3 b4 b5 b6 b7 b8 b9 xs vf vt)
        else bif decide (f < vf) then some false else bif decide (f ≥ t) then some false else bif decide (t > vt) then some false else bif f.tmod 60 != 0 then some false else bif t.tmod 60 != 0 then some false else
          (bif k == 1 then bif decide (f < e) then some false else impl_TafOk_L6 k' (if t > f then t else f) xs (xs.length : Int) ((n + 1 : Nat) : Int) b0 b1 b2 b3 b4 b5 b6 b7 b8 b9 xs vf vt
        else bif k == 2 then bif decide (f < e) then some false else impl_TafOk_L6 k' (if t > f then t else f) xs (xs.length : Int) ((n + 1 : Nat) : Int) b0 b1 b2 b3 b4 b5 b6 b7 b8 b9 xs vf vt
        else impl_TafOk_L6 k' e xs (xs.length : Int) ((n + 1 : Nat) : Int) b0 b1 b2 b3 b4 b5 b6 b7 b8 b9 xs vf vt))
        (kindI vf vt (k, f, t, d, s, v, w, cc, b) && tailV (k, f, t, d, s, v, w, cc, b) e fun e' => chs vf vt (xs.drop (n + 1)) (prevAt xs (n + 1)) e') := by
      unfold kindI
      by_cases h1 : k = 1
      · subst h1
        simp only [beq_self_eq_true, cond_true, if_true, Bool.and_assoc, bneI] at tail ⊢
        exact ev_guard' fun _ => ev_guard' fun _ => ev_guard' fun _ => ev_guard fun _ => tail
      · simp only [beqI, h1, decide_false, cond_false, if_false, Bool.and_assoc, bneI] at tail ⊢
        exact ev_guard' fun _ => ev_guard' fun _ => ev_guard' fun _ => ev_guard' fun _ => ev_guard' fun _ => tail
    refine ev_eq (r := (decide (1 ≤ k) && decide (k ≤ 4)) && (skyV d s v w cc b && (!unsaidV d v w cc && (prevV (prevAt xs n) f && (kindI vf vt (k, f, t, d, s, v, w, cc, b) && tailV (k, f, t, d, s, v, w, cc, b) e fun e' => chs vf vt (xs.drop (n + 1)) (prevAt xs (n + 1)) e'))))) ?_ ?_
    · refine ev_guard fun _ => ev_guard fun _ => ev_guard' fun _ => ?_
      cases n with
      | zero =>
        simp only [show ¬ ((0 : Nat) : Int) > 0 by omega, decide_false, cond_false, prevAt, prevV, Bool.true_and]
        exact body
      | succ n =>
        have hl' : n < xs.length := by omega
        simp only [show ((n + 1 : Nat) : Int) > 0 by omega, decide_true, cond_true, wpred (show n < 9223372036854775807 by omega), show (0 : Int) ≤ (n : Int) by omega, show (n : Int) < (xs.length : Int) by omega, rd_nat (k := K9_SA0) hl']
        have hp : prevV (prevAt xs (n + 1)) f = !decide (f < xs[n].2.1) := by
          simp only [prevAt, List.getElem?_eq_getElem hl', Option.map_some, prevV]
          by_cases h : xs[n].2.1 ≤ f
          · simp [h, show ¬ f < xs[n].2.1 by omega]
          · simp [h, show f < xs[n].2.1 by omega]
        rw [hp]
        exact ev_guard' fun _ => body
    · rw [chOk, ← kind_same]
      generalize (decide (1 ≤ (k, f, t, d, s, v, w, cc, b).1) && decide ((k, f, t, d, s, v, w, cc, b).1 ≤ 4)) = x1
      generalize kindI vf vt (k, f, t, d, s, v, w, cc, b) = x2
      generalize (tailV (k, f, t, d, s, v, w, cc, b) e fun e' => chs vf vt (xs.drop (n + 1)) (prevAt xs (n + 1)) e') = x3
      generalize prevV (prevAt xs n) f = x4
      simp only
      generalize skyV d s v w cc b = x5
      generalize unsaidV d v w cc = x6
      cases x1 <;> cases x2 <;> cases x4 <;> cases x5 <;> cases x6 <;> rfl
def tafV (a0 : ByteArray) (a1 vf vt d s v : Int) (w c : ByteArray) (b : Int) (xs : List Ch) : Bool :=
  centreV a0 && ((decide (0 ≤ a1) && decide (a1 ≤ 52596000)) && (spanV vf vt && (!!decide (vf.tmod 60 = 0) && (!!decide (vt.tmod 60 = 0) && ((decide (60 ≤ vt - vf) && decide (vt - vf ≤ 2160)) && ((decide (-1440 ≤ vf - a1) && decide (vf - a1 ≤ 1440)) && (fullV d s v w c b && (!decide ((xs.length : Int) > 10) && chs vf vt xs none 0))))))))
theorem span_facts {a b : Int} (h : spanV a b = true) : (0 ≤ a ∧ a ≤ 52596000) ∧ (0 ≤ b ∧ b ≤ 52596000) ∧ a ≤ b := by
  simp only [spanV, Bool.and_eq_true, decide_eq_true_eq] at h
  exact h
theorem spec_TafOk_eq (a0 : ByteArray) (a1 vf vt d s v : Int) (w c : ByteArray) (b : Int) (xs : List Ch) : spec_TafOk a0 a1 vf vt d s v w c b xs = some (tafV a0 a1 vf vt d s v w c b xs) := by
  refine evF_eq ?_
  unfold spec_TafOk_F tafV
  simp only [spec_l4CentreOk_eq, l2Time_eq, l2SpanOk_eq, l2In_eq, spec_full_eq, Option.bind_some, bneI]
  refine ev_guard fun _ => ev_guard fun h1 => ev_guard fun h2 => ?_
  have hs := span_facts h2
  simp only [Bool.and_eq_true, decide_eq_true_eq] at h1
  rw [w64 (n := vt - vf) (by omega) (by omega), w64 (n := vf - a1) (by omega) (by omega)]
  refine ev_guard' fun _ => ev_guard' fun _ => ev_guard fun _ => ev_guard fun _ => ev_guard fun _ => ev_guard' fun h => ?_
  simp only [decide_eq_false_iff_not] at h
  exact spec_Taf_loop a0 a1 vf vt d s v w c b xs (by omega) hs.2.1 xs.length 0 0 (by omega) (by omega)
theorem impl_TafOk_eq (a0 : ByteArray) (a1 vf vt d s v : Int) (w c : ByteArray) (b : Int) (xs : List Ch) : impl_TafOk a0 a1 vf vt d s v w c b xs = some (tafV a0 a1 vf vt d s v w c b xs) := by
  refine evF_eq ?_
  unfold impl_TafOk_F tafV
  simp only [impl_centreOk_eq, isTime_eq, spanOk_eq, in_eq, impl_full_eq, Option.bind_some, bneI, impl_away]
  refine ev_guard fun _ => ev_guard fun h1 => ev_guard fun h2 => ?_
  have hs := span_facts h2
  simp only [Bool.and_eq_true, decide_eq_true_eq] at h1
  rw [w64 (n := vt - vf) (by omega) (by omega), w64 (n := vf - a1) (by omega) (by omega), w64 (n := a1 - vf) (by omega) (by omega)]
  have ha : (decide (-1440 ≤ vf - a1) && decide (vf - a1 ≤ 1440)) = !decide ((if a1 - vf > vf - a1 then a1 - vf else vf - a1) > 1440) := by
    rw [Bool.eq_iff_iff]
    simp only [Bool.and_eq_true, decide_eq_true_eq, Bool.not_eq_true', decide_eq_false_iff_not]
    split <;> omega
  rw [ha, ← chs_init hs.1.1]
  refine ev_guard' fun _ => ev_guard' fun _ => ev_guard fun _ => ev_guard' fun _ => ev_guard fun _ => ev_guard' fun h => ?_
  simp only [decide_eq_false_iff_not] at h
  exact impl_Taf_loop a0 a1 vf vt d s v w c b vf vt xs (by omega) xs.length 0 (-1) (by omega) (by omega)
end Go.Proofs.YtondfjckadlabaaGreatDoor.SA

namespace Go.Proofs.YtondfjckadlabaaGreatDoor.SA
open Go Go.Eng Go.Proofs.YtondfjckadlabaaGreatDoor.DT Go.Proofs.YtondfjckadlabaaGreatDoor.EX
def mayAt (t : Int) (s : Sk) : List Ch → List Sk
  | [] => []
  | c :: cs => if c.1 ≠ 1 ∧ c.2.1 ≤ t ∧ t < c.2.2.1 then laidV s c.2.2.2 :: mayAt t s cs else mayAt t s cs
def stepS (t : Int) (s : Sk) (c : Ch) : Sk := if c.1 = 1 ∧ c.2.1 ≤ t then c.2.2.2 else if c.1 = 2 ∧ c.2.2.1 ≤ t then laidV s c.2.2.2 else s
theorem mb64 : maxBytes / 64 = 2199023255552 := by decide
abbrev Res8 : Type := Int × Int × Int × ByteArray × ByteArray × Int × Bool × List Sk
def res8 (s : Sk) (l : List Sk) : Res8 := (s.1, s.2.1, s.2.2.1, s.2.2.2.1, s.2.2.2.2.1, s.2.2.2.2.2, true, l)
theorem impl_may_loop (t : Int) (xs : List Ch) (z0 z1 z2 : Int) (z3 z4 : ByteArray) (z5 : Int) (s : Sk) (hx : xs.length ≤ 10) : ∀ (m n : Nat) (l : List Sk), xs.length - n = m → n ≤ xs.length → l.length ≤ n →
    Ev (fun k => impl_StateAt_L14 k t xs (xs.length : Int) (n : Int) z0 z1 z2 z3 z4 z5 s.1 s.2.1 s.2.2.1 s.2.2.2.1 s.2.2.2.2.1 s.2.2.2.2.2 l) (res8 s (l ++ mayAt t s (xs.drop n))) := by
  intro m
  induction m with
  | zero =>
    intro n l hm hn hl
    obtain rfl : n = xs.length := by omega
    apply ev_succ
    simp only [impl_StateAt_L14, Int.lt_irrefl, decide_false, cond_false]
    rw [List.drop_eq_nil_of_le (Nat.le_refl _)]
    exact ev_eq (ev_now _) (by simp [res8, mayAt])
  | succ m ih =>
    intro n l hm hn hl
    have hlt : n < xs.length := by omega
    rw [drop_cons hlt]
    apply ev_succ
    simp only [impl_StateAt_L14, show (n : Int) < (xs.length : Int) by omega, show (0 : Int) ≤ (n : Int) by omega, decide_true, cond_true, rd_nat (k := K9_SA0) hlt, wsucc (show n < 9223372036854775807 by omega), impl_Laid_eq, Option.bind_some, List.length_singleton, mb64, show l.length + 1 ≤ 2199023255552 by omega, bneI]
    generalize xs[n] = c
    simp only [mayAt]
    by_cases h1 : c.1 = 1
    · simp only [h1, decide_true, Bool.not_true, cond_false, ne_eq, not_true_eq_false, false_and, if_false]
      exact ih (n + 1) l (by omega) (by omega) (by omega)
    · by_cases h2 : c.2.1 ≤ t
      · by_cases h3 : t < c.2.2.1
        · simp only [h1, h2, h3, decide_false, decide_true, Bool.not_false, cond_true, ne_eq, not_false_eq_true, and_self, if_true]
          have := ih (n + 1) (l ++ [laidV s c.2.2.2]) (by omega) (by omega) (by simp; omega)
          rw [List.append_assoc, List.singleton_append] at this
          exact this
        · simp only [h1, h2, h3, decide_false, decide_true, Bool.not_false, cond_true, cond_false, and_false, if_false]
          exact ih (n + 1) l (by omega) (by omega) (by omega)
      · simp only [h1, h2, decide_false, Bool.not_false, cond_true, cond_false, false_and, and_false, if_false]
        exact ih (n + 1) l (by omega) (by omega) (by omega)
theorem impl_sky_loop (t : Int) (xs : List Ch) (y0 : ByteArray) (y1 y2 y3 y4 y5 y6 : Int) (y7 y8 : ByteArray) (y9 : Int) (z0 z1 z2 : Int) (z3 z4 : ByteArray) (z5 : Int) (hx : xs.length ≤ 10) : ∀ (m n : Nat) (s : Sk), xs.length - n = m → n ≤ xs.length →
    Ev (fun k => impl_StateAt_L5 k t xs (xs.length : Int) (n : Int) y0 y1 y2 y3 y4 y5 y6 y7 y8 y9 xs z0 z1 z2 z3 z4 z5 s.1 s.2.1 s.2.2.1 s.2.2.2.1 s.2.2.2.2.1 s.2.2.2.2.2) (res8 ((xs.drop n).foldl (stepS t) s) (mayAt t ((xs.drop n).foldl (stepS t) s) xs)) := by
  intro m
  induction m with
  | zero =>
    intro n s hm hn
    obtain rfl : n = xs.length := by omega
    apply ev_succ
    simp only [impl_StateAt_L5, Int.lt_irrefl, decide_false, cond_false]
    rw [List.drop_eq_nil_of_le (Nat.le_refl _)]
    exact impl_may_loop t xs z0 z1 z2 z3 z4 z5 s hx xs.length 0 [] (by omega) (by omega) (by simp)
  | succ m ih =>
    intro n s hm hn
    have hlt : n < xs.length := by omega
    have ih' := fun s' => ih (n + 1) s' (by omega) (by omega)
    rw [drop_cons hlt]
    apply ev_succ
    simp only [impl_StateAt_L5, show (n : Int) < (xs.length : Int) by omega, show (0 : Int) ≤ (n : Int) by omega, decide_true, cond_true, rd_nat (k := K9_SA0) hlt, wsucc (show n < 9223372036854775807 by omega), impl_Laid_eq, Option.bind_some, beqI]
    generalize xs[n] = c
    simp only [List.foldl_cons, stepS]
    by_cases h1 : c.1 = 1
    · simp only [h1, decide_true, cond_true, show ¬ (1 : Int) = 2 by omega, decide_false, cond_false, true_and, false_and, if_false]
      by_cases h2 : c.2.1 ≤ t
      · simp only [h2, decide_true, cond_true, if_true]; exact ih' _
      · simp only [h2, decide_false, cond_false, if_false]; exact ih' s
    · simp only [h1, decide_false, cond_false, false_and, if_false]
      by_cases h2 : c.1 = 2
      · by_cases h3 : c.2.2.1 ≤ t
        · simp only [h2, h3, decide_true, cond_true, and_self, if_true]; exact ih' _
        · simp only [h2, h3, decide_true, decide_false, cond_true, cond_false, and_false, if_false]; exact ih' s
      · simp only [h2, decide_false, cond_false, false_and, if_false]; exact ih' s
def stateV (a0 : ByteArray) (a1 vf vt d s v : Int) (w c : ByteArray) (b : Int) (xs : List Ch) (t : Int) : Res8 :=
  if tafV a0 a1 vf vt d s v w c b xs = true ∧ vf ≤ t ∧ t < vt then res8 (xs.foldl (stepS t) (d, s, v, w, c, b)) (mayAt t (xs.foldl (stepS t) (d, s, v, w, c, b)) xs)
  else (0, 0, 0, bs [], bs [], 0, false, [])
theorem taf_len {a0 : ByteArray} {a1 vf vt d s v : Int} {w c : ByteArray} {b : Int} {xs : List Ch} (h : tafV a0 a1 vf vt d s v w c b xs = true) : xs.length ≤ 10 := by
  simp only [tafV, Bool.and_eq_true, Bool.not_eq_true', decide_eq_false_iff_not] at h
  have := h.2.2.2.2.2.2.2.2.1
  omega
theorem impl_StateAt_eq (a0 : ByteArray) (a1 vf vt d s v : Int) (w c : ByteArray) (b : Int) (xs : List Ch) (t : Int) : impl_StateAt a0 a1 vf vt d s v w c b xs t = some (stateV a0 a1 vf vt d s v w c b xs t) := by
  refine evF_eq ?_
  unfold impl_StateAt_F stateV
  simp only [impl_TafOk_eq, Option.bind_some]
  cases h : tafV a0 a1 vf vt d s v w c b xs with
  | false => exact ev_eq (ev_now _) (by simp)
  | true =>
    simp only [Bool.not_true, cond_false, true_and]
    by_cases h1 : t < vf
    · simp only [h1, decide_true, cond_true]; exact ev_eq (ev_now _) (by rw [if_neg (by omega)])
    · by_cases h2 : t ≥ vt
      · simp only [h1, h2, decide_true, decide_false, cond_true, cond_false]; exact ev_eq (ev_now _) (by rw [if_neg (by omega)])
      · simp only [h1, h2, decide_false, cond_false]
        rw [if_pos (by omega)]
        exact impl_sky_loop t xs a0 a1 vf vt d s v w c b 0 0 0 (bs []) (bs []) 0 (taf_len h) xs.length 0 (d, s, v, w, c, b) (by omega) (by omega)
theorem spec_may_loop (t : Int) (xs : List Ch) (y0 : ByteArray) (y1 y2 y3 y4 y5 y6 : Int) (y7 y8 : ByteArray) (y9 : Int) (z0 z1 z2 : Int) (z3 z4 : ByteArray) (z5 : Int) (s : Sk) (hx : xs.length ≤ 10) : ∀ (m n : Nat) (l : List Sk), xs.length - n = m → n ≤ xs.length → l.length ≤ n →
    Ev (fun k => spec_StateAt_L14 k t (n : Int) y0 y1 y2 y3 y4 y5 y6 y7 y8 y9 xs z0 z1 z2 z3 z4 z5 l s.1 s.2.1 s.2.2.1 s.2.2.2.1 s.2.2.2.2.1 s.2.2.2.2.2) (res8 s (l ++ mayAt t s (xs.drop n))) := by
  intro m
  induction m with
  | zero =>
    intro n l hm hn hl
    obtain rfl : n = xs.length := by omega
    apply ev_succ
    simp only [spec_StateAt_L14, Int.lt_irrefl, decide_false, cond_false]
    rw [List.drop_eq_nil_of_le (Nat.le_refl _)]
    exact ev_eq (ev_now _) (by simp [res8, mayAt])
  | succ m ih =>
    intro n l hm hn hl
    have hlt : n < xs.length := by omega
    rw [drop_cons hlt]
    apply ev_succ
    simp only [spec_StateAt_L14, show (n : Int) < (xs.length : Int) by omega, show (0 : Int) ≤ (n : Int) by omega, decide_true, cond_true, rd_nat (k := K9_SA0) hlt, wsucc (show n < 9223372036854775807 by omega), spec_Laid_eq, Option.bind_some, List.length_singleton, mb64, show l.length + 1 ≤ 2199023255552 by omega, bneI]
    generalize xs[n] = c
    simp only [mayAt]
    by_cases h1 : c.1 = 1
    · simp only [h1, decide_true, Bool.not_true, cond_false, ne_eq, not_true_eq_false, false_and, if_false]
      exact ih (n + 1) l (by omega) (by omega) (by omega)
    · by_cases h2 : c.2.1 ≤ t
      · by_cases h3 : t < c.2.2.1
        · simp only [h1, h2, h3, decide_false, decide_true, Bool.not_false, cond_true, ne_eq, not_false_eq_true, and_self, if_true]
          have := ih (n + 1) (l ++ [laidV s c.2.2.2]) (by omega) (by omega) (by simp; omega)
          rw [List.append_assoc, List.singleton_append] at this
          exact this
        · simp only [h1, h2, h3, decide_false, decide_true, Bool.not_false, cond_true, cond_false, and_false, if_false]
          exact ih (n + 1) l (by omega) (by omega) (by omega)
      · simp only [h1, h2, decide_false, Bool.not_false, cond_true, cond_false, false_and, and_false, if_false]
        exact ih (n + 1) l (by omega) (by omega) (by omega)
theorem spec_sky_loop (t : Int) (xs : List Ch) (y0 : ByteArray) (y1 y2 y3 y4 y5 y6 : Int) (y7 y8 : ByteArray) (y9 : Int) (z0 z1 z2 : Int) (z3 z4 : ByteArray) (z5 : Int) (hx : xs.length ≤ 10) : ∀ (m n : Nat) (s : Sk), xs.length - n = m → n ≤ xs.length →
    Ev (fun k => spec_StateAt_L6 k t (n : Int) y0 y1 y2 y3 y4 y5 y6 y7 y8 y9 xs z0 z1 z2 z3 z4 z5 [] s.1 s.2.1 s.2.2.1 s.2.2.2.1 s.2.2.2.2.1 s.2.2.2.2.2) (res8 ((xs.drop n).foldl (stepS t) s) (mayAt t ((xs.drop n).foldl (stepS t) s) xs)) := by
  intro m
  induction m with
  | zero =>
    intro n s hm hn
    obtain rfl : n = xs.length := by omega
    apply ev_succ
    simp only [spec_StateAt_L6, Int.lt_irrefl, decide_false, cond_false]
    rw [List.drop_eq_nil_of_le (Nat.le_refl _)]
    exact spec_may_loop t xs y0 y1 y2 y3 y4 y5 y6 y7 y8 y9 z0 z1 z2 z3 z4 z5 s hx xs.length 0 [] (by omega) (by omega) (by simp)
  | succ m ih =>
    intro n s hm hn
    have hlt : n < xs.length := by omega
    have ih' := fun s' => ih (n + 1) s' (by omega) (by omega)
    rw [drop_cons hlt]
    apply ev_succ
    simp only [spec_StateAt_L6, show (n : Int) < (xs.length : Int) by omega, show (0 : Int) ≤ (n : Int) by omega, decide_true, cond_true, rd_nat (k := K9_SA0) hlt, wsucc (show n < 9223372036854775807 by omega), spec_Laid_eq, Option.bind_some, beqI]
    generalize xs[n] = c
    simp only [List.foldl_cons, stepS]
    by_cases h1 : c.1 = 1
    · simp only [h1, decide_true, cond_true, show ¬ (1 : Int) = 2 by omega, decide_false, cond_false, true_and, false_and, if_false]
      by_cases h2 : c.2.1 ≤ t
      · simp only [h2, decide_true, cond_true, if_true]; exact ih' _
      · simp only [h2, decide_false, cond_false, if_false]; exact ih' s
    · simp only [h1, decide_false, cond_false, false_and, if_false]
      by_cases h2 : c.1 = 2
      · by_cases h3 : c.2.2.1 ≤ t
        · simp only [h2, h3, decide_true, cond_true, and_self, if_true]; exact ih' _
        · simp only [h2, h3, decide_true, decide_false, cond_true, cond_false, and_false, if_false]; exact ih' s
      · simp only [h2, decide_false, cond_false, false_and, if_false]; exact ih' s
theorem spec_StateAt_eq (a0 : ByteArray) (a1 vf vt d s v : Int) (w c : ByteArray) (b : Int) (xs : List Ch) (t : Int) : spec_StateAt a0 a1 vf vt d s v w c b xs t = some (stateV a0 a1 vf vt d s v w c b xs t) := by
  refine evF_eq ?_
  unfold spec_StateAt_F stateV
  simp only [spec_TafOk_eq, Option.bind_some]
  cases h : tafV a0 a1 vf vt d s v w c b xs with
  | false => exact ev_eq (ev_now _) (by simp)
  | true =>
    simp only [Bool.not_true, cond_false, true_and]
    by_cases h1 : t < vf
    · simp only [h1, decide_true, cond_true]; exact ev_eq (ev_now _) (by rw [if_neg (by omega)])
    · by_cases h2 : t ≥ vt
      · simp only [h1, h2, decide_true, decide_false, cond_true, cond_false]; exact ev_eq (ev_now _) (by rw [if_neg (by omega)])
      · simp only [h1, h2, decide_false, cond_false]
        rw [if_pos (by omega)]
        exact spec_sky_loop t xs a0 a1 vf vt d s v w c b 0 0 0 (bs []) (bs []) 0 (taf_len h) xs.length 0 (d, s, v, w, c, b) (by omega) (by omega)
end Go.Proofs.YtondfjckadlabaaGreatDoor.SA
