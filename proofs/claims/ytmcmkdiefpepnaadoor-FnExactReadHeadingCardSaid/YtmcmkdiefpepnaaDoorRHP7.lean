/-
  Part of a proof by the engine: texts that a program of ours printed, or plain lemmas on them. No condition but what each theorem says.
-/
import Derived.Test.YtmcmkdiefpepnaaDoorRHP6
set_option linter.unusedVariables false
set_option linter.unusedSimpArgs false
namespace Go.Proofs.YtmcmkdiefpepnaaDoor.RH
open Go Go.Eng Go.Proofs.YtmcmkdiefpepnaaDoor.DT Go.Proofs.YtmcmkdiefpepnaaDoor.EX
abbrev HV := ByteArray × ByteArray × Int × ByteArray × Int × Int × Int × ByteArray × Int
def no (c : Int) : HV := (bs [], bs [], 0, bs [], 0, 0, 0, bs [], c)
def sp (s : ByteArray) (i j : Nat) : Int := spell 0 (L (s.extract i j))
def timeOk (d h m : Int) : Bool := decide (1 ≤ d) && (decide (d ≤ 31) && (decide (h ≤ 23) && decide (m ≤ 59)))
def kindOk (p : ByteArray) : Bool := (L (p.extract 0 4)).all isUp && (L (p.extract 4 6)).all isDig
def okv (p0 p1 p2 m : ByteArray) : HV := (p0.extract 0 2, p0.extract 2 4, sp p0 4 6, p1, sp p2 0 2, sp p2 2 4, sp p2 4 6, m, 0)
def markv (p0 p1 p2 : ByteArray) : List ByteArray → HV
  | [] => okv p0 p1 p2 (bs [])
  | m :: _ => if mk m = -1 then no 5 else okv p0 p1 p2 m
/-- What is read of the pieces. -/
def rhv (p0 p1 p2 : ByteArray) (ms : List ByteArray) : HV :=
  if p0.size = 6 then if kindOk p0 = true then if centreV p1 = true then if p2.size = 6 then if (L p2).all isDig = true then if timeOk (sp p2 0 2) (sp p2 2 4) (sp p2 4 6) = true then
    markv p0 p1 p2 ms
  else no 4 else no 4 else no 4 else no 3 else no 2 else no 2
theorem mk_cases (s : ByteArray) : mk s = -1 ∨ 0 ≤ mk s := by
  unfold mk
  split
  · right; decide
  · repeat' split
    all_goals first | (left; rfl) | (right; decide)
  · left; rfl
theorem spell_two {a b : UInt8} (ha : isDig a = true) (hb : isDig b = true) : 0 ≤ spell 0 [a, b] ∧ spell 0 [a, b] ≤ 99 := by
  simp only [isDig, Bool.and_eq_true, decide_eq_true_eq] at ha hb
  simp only [spell]
  omega
theorem two_of {s : ByteArray} (h : s.size = 2) : ∃ a b, L s = [a, b] := by
  have hl : (L s).length = 2 := by rw [L_length, h]
  match L s, hl with
  | [a, b], _ => exact ⟨a, b, rfl⟩
theorem sp_range {s : ByteArray} {i j : Nat} (hs : (s.extract i j).size = 2) (hd : (L (s.extract i j)).all isDig = true) : 0 ≤ sp s i j ∧ sp s i j ≤ 99 := by
  obtain ⟨a, b, h⟩ := two_of hs
  unfold sp
  rw [h] at hd ⊢
  simp only [List.all_cons, List.all_nil, Bool.and_true, Bool.and_eq_true] at hd
  exact spell_two hd.1 hd.2
theorem ext_size6 {s : ByteArray} (h : s.size = 6) : (s.extract 0 2).size = 2 ∧ (s.extract 2 4).size = 2 ∧ (s.extract 4 6).size = 2 ∧ (s.extract 0 4).size = 4 := by
  simp only [size_extract, h]; decide
theorem all_ext {p : UInt8 → Bool} {s : ByteArray} (h : (L s).all p = true) (i j : Nat) : (L (s.extract i j)).all p = true := by
  rw [L_extract, List.all_eq_true] at *
  exact fun x hx => h x (List.mem_of_mem_drop (List.mem_of_mem_take hx))
theorem l2In_eq (a b c : Int) : spec_l2In a b c = some (decide (b ≤ a) && decide (a ≤ c)) := by
  unfold spec_l2In
  by_cases h : a ≥ b
  · simp [h]
  · simp [h]
theorem hok {a b c mark : ByteArray} {n d h m : Int} (ha : a.size = 2) (hb : b.size = 2) (hu : (L a).all isUp = true ∧ (L b).all isUp = true) (hc : centreV c = true) (hn : 0 ≤ n ∧ n ≤ 99) (hh : 0 ≤ h) (hm : 0 ≤ m) (hk : mark.size ≤ 9223372036854775807) :
    spec_l4HeadingOk a b n c d h m mark = some (timeOk d h m && decide (0 ≤ mk mark)) := by
  obtain ⟨x, hx⟩ := spec_mark mark hk
  have hl : spec_l4Letters (a ++ b) = some true := by
    rw [spec_l4Letters_eq (by rw [ByteArray.size_append]; omega), L_append, List.all_append, hu.1, hu.2]; rfl
  unfold spec_l4HeadingOk
  simp only [hx, Option.bind_some, ha, hb, beqI, hl, l2In_eq, spec_l4CentreOk_eq, hc, hn.1, hn.2, hh, hm, decide_true, cond_true, Bool.and_self, Bool.true_and, timeOk, show ((2 : Nat) : Int) = 2 from rfl, show decide ((2 : Nat) + 2 ≤ 9223372036854775807) = true from rfl, ge_iff_le]
  cases decide (1 ≤ d) <;> cases decide (d ≤ 31) <;> cases decide (h ≤ 23) <;> cases decide (m ≤ 59) <;> rfl
theorem up_ext {p : ByteArray} (h : p.size = 6) (hu : (L (p.extract 0 4)).all isUp = true) : (L (p.extract 0 2)).all isUp = true ∧ (L (p.extract 2 4)).all isUp = true := by
  rw [L_extract, List.all_eq_true] at hu
  rw [L_extract, L_extract, List.all_eq_true, List.all_eq_true]
  have hl : (L p).length = 6 := by rw [L_length, h]
  match hL : L p, hl with
  | [a, b, c, d, e, f], _ =>
    rw [hL] at hu
    simp at hu ⊢
    exact ⟨⟨hu.1, hu.2.1⟩, hu.2.2.1, hu.2.2.2⟩
end Go.Proofs.YtmcmkdiefpepnaaDoor.RH
