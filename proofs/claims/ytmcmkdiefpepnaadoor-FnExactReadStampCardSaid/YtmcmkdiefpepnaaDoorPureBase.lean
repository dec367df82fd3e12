/-
  Plain lemmas under the pure statements: how functions with rounds answer in the end (Ev), bytes of strings as a list, decimal numbers. No condition.
-/
import Derived.Test.YtmcmkdiefpepnaaDoorWWords
import Derived.Lib.ItoaLen
import Derived.Lib.Repeat
namespace Go.Proofs.YtmcmkdiefpepnaaDoor.PB
open Go Go.RowKit Go.Proofs.YtmcmkdiefpepnaaDoorW.PrintWords

/-- A string's bytes. -/
def L (s : ByteArray) : List UInt8 := s.data.toList
theorem toList_L (s : ByteArray) : s.toList = L s := ByteArray.toList_eq s
theorem L_length (s : ByteArray) : (L s).length = s.size := by rw [L, Array.length_toList]; rfl
theorem L_append (a b : ByteArray) : L (a ++ b) = L a ++ L b := by simp [L, ByteArray.data_append]
theorem L_inj {a b : ByteArray} (h : L a = L b) : a = b := ByteArray.ext (Array.toList_inj.1 h)
theorem L_mk (l : List UInt8) : L ⟨l.toArray⟩ = l := by simp [L]
theorem size_mk (l : List UInt8) : (⟨l.toArray⟩ : ByteArray).size = l.length := by rw [← L_length]; exact congrArg List.length (L_mk l)
theorem mk_L (s : ByteArray) : (⟨(L s).toArray⟩ : ByteArray) = s := L_inj (L_mk _)
theorem L_extract (s : ByteArray) (i j : Nat) : L (s.extract i j) = ((L s).drop i).take (j - i) := by
  simp [L, ByteArray.data_extract, Array.toList_extract]
theorem extract_eq (s : ByteArray) (i j : Nat) : s.extract i j = ⟨(((L s).drop i).take (j - i)).toArray⟩ := L_inj (by rw [L_extract]; exact (L_mk _).symm)
theorem bt_nat (s : ByteArray) (n : Nat) (h : n < (L s).length) : bt s (n : Int) = (((L s)[n]).toNat : Int) := by
  have h' : n < s.size := by rw [← L_length]; exact h
  unfold bt
  rw [dif_pos (by simpa using h')]
  simp only [L, Array.getElem_toList]
  rfl
theorem u8_lt (c : UInt8) : c.toNat < 256 := UInt8.toNat_lt c
theorem w64 {n : Int} (h0 : -9223372036854775808 ≤ n) (h1 : n ≤ 9223372036854775807) : wrap64 n = n := by unfold wrap64; omega
theorem wu64 {n : Int} (h0 : 0 ≤ n) (h1 : n ≤ 18446744073709551615) : IntKind.u64.wrap n = n := by
  simp [IntKind.wrap, IntKind.bits, IntKind.signed]; omega
theorem maxLen_eq : maxLen = 9223372036854775807 := by decide
theorem wf_i64 {n : Int} (h : (Lit.int .i64 n).wf = true) : -9223372036854775808 ≤ n ∧ n ≤ 9223372036854775807 := by
  simp [Lit.wf, IntKind.min, IntKind.max, IntKind.bits, IntKind.signed] at h
  exact h

theorem take_one {α : Type} {l : List α} (h : 0 < l.length) : l.take 1 = [l[0]] := by
  cases l with
  | nil => simp at h
  | cons a t => rfl

theorem nb {x : Bool} (h : ¬ x = true) : (!x) = true := by cases x <;> simp_all

/-! ### from some number of rounds on -/
section
variable {α β : Type} {c : Prop} [Decidable c]
theorem ev_pos {f g : Nat → Option α} {r : α} (h : c) (k : Ev f r) : Ev (fun n => if c then f n else g n) r := k.congr (fun _ => if_pos h)
theorem ev_neg {f g : Nat → Option α} {r : α} (h : ¬ c) (k : Ev g r) : Ev (fun n => if c then f n else g n) r := k.congr (fun _ => if_neg h)
theorem ev_ite {f g : Nat → Option α} {r s : α} (h1 : c → Ev f r) (h2 : ¬ c → Ev g s) : Ev (fun n => if c then f n else g n) (if c then r else s) := by
  by_cases h : c
  · rw [if_pos h]; exact ev_pos h (h1 h)
  · rw [if_neg h]; exact ev_neg h (h2 h)
theorem ev_same {f g : Nat → Option α} {r : α} (h1 : c → Ev f r) (h2 : ¬ c → Ev g r) : Ev (fun n => if c then f n else g n) r := by
  by_cases h : c
  · exact ev_pos h (h1 h)
  · exact ev_neg h (h2 h)
theorem ev_const {g : Option α} {a : α} (h : g = some a) : Ev (fun _ => g) a := ⟨0, fun _ _ => h⟩
theorem ev_bindc {g : Option α} {f : Nat → α → Option β} {a : α} {r : β} (h : g = some a) (k : Ev (fun n => f n a) r) : Ev (fun n => g.bind (f n)) r :=
  Ev.bind (ev_const h) k
theorem ev_eq {f : Nat → Option α} {r s : α} (h : Ev f r) (e : r = s) : Ev f s := e ▸ h
/-- One round of a function with rounds, told by its equation. -/
theorem ev_round {g f : Nat → Option α} {r : α} (h : ∀ k, g (k + 1) = f k) (k : Ev f r) : Ev g r := Ev.step h k
theorem ev_succ {g : Nat → Option α} {r : α} (k : Ev (fun n => g (n + 1)) r) : Ev g r := Ev.step (fun _ => rfl) k
/-- Enough rounds: a row's pure statement. -/
theorem ev_law {f : Nat → Option α} {r : α} (h : Ev f r) : ∃ k, f k = some r := h.rounds
end

/-! ### decimal numbers -/
open Lib in
theorem decDigits_ne (u : Nat) : decDigits u ≠ [] := by
  rw [decDigits]; split <;> simp
/-- The digits as the reference makes them: the last one first, laid ahead. -/
theorem decDigits_step (u : Nat) (h : ¬ u < 10) : Lib.decDigits u = Lib.decDigits (u / 10) ++ [UInt8.ofNat (48 + u % 10)] := by
  rw [Lib.decDigits, dif_neg h]
theorem itoa_pos {n : Int} (h : 0 ≤ n) : Lib.itoa n = Lib.decDigits n.toNat := by unfold Lib.itoa; rw [if_neg (by omega)]
/-- A number with noughts ahead, in at least w signs. -/
def pad (n : Int) (w : Nat) : List UInt8 := List.replicate (w - (Lib.itoa n).length) 48 ++ Lib.itoa n
theorem repeat_one (c : Nat) : Lib.repeatL [48] c = List.replicate c (48 : UInt8) := by
  induction c with
  | zero => rfl
  | succ c ih => rw [Lib.repeatL, ih]; rfl
end Go.Proofs.YtmcmkdiefpepnaaDoor.PB
