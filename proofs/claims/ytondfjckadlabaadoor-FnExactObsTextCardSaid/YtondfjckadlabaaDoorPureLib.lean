/-
  Plain lemmas for what the engine prints.
-/
import Derived.Test.YtondfjckadlabaaDoorEng5
set_option linter.unusedVariables false
set_option linter.unusedSimpArgs false
namespace Go.Eng
/-! ### rounds -/
theorem ev_now {α : Type} (a : α) : Ev (fun _ => some a) a := ⟨0, fun _ _ => rfl⟩
theorem ev_succ {α : Type} {g : Nat → Option α} {r : α} (k : Ev (fun n => g (n + 1)) r) : Ev g r := by
  obtain ⟨N, h⟩ := k
  refine ⟨N + 1, fun n hn => ?_⟩
  cases n with
  | zero => omega
  | succ n => exact h n (by omega)
theorem ev_congr {α : Type} {f g : Nat → Option α} {r : α} (h : ∀ k, f k = g k) (k : Ev g r) : Ev f r := by
  obtain ⟨N, k⟩ := k
  exact ⟨N, fun n hn => (h n).trans (k n hn)⟩
theorem ev_of {α : Type} {f : Option α} {r : α} (h : f = some r) : Ev (fun _ => f) r := ⟨0, fun _ _ => h⟩
theorem ev_eq {α : Type} {f : Nat → Option α} {r s : α} (h : Ev f r) (e : r = s) : Ev f s := e ▸ h

/-- A loop that counts up, its states known. -/
theorem ev_upto {α : Type} {l : Nat → Nat → Option α} {N : Nat} {r : α} (step : ∀ n, n < N → ∀ k, l (k + 1) n = l k (n + 1)) (last : Ev (fun k => l k N) r) : Ev (fun k => l k 0) r := by
  have : ∀ m n, N - n = m → n ≤ N → Ev (fun k => l k n) r := by
    intro m
    induction m with
    | zero =>
      intro n hm hn
      obtain rfl : n = N := by omega
      exact last
    | succ m ih => intro n hm hn; exact ev_succ (ev_congr (step n (by omega)) (ih (n + 1) (by omega) (by omega)))
  exact this N 0 (by omega) (by omega)

/-! ### bytes -/
def L (s : ByteArray) : List UInt8 := s.data.toList
theorem toList_L (s : ByteArray) : s.toList = L s := ByteArray.toList_eq s
theorem L_length (s : ByteArray) : (L s).length = s.size := by rw [L, Array.length_toList]; rfl
theorem L_append (a b : ByteArray) : L (a ++ b) = L a ++ L b := by simp [L, ByteArray.data_append]
theorem L_inj {a b : ByteArray} (h : L a = L b) : a = b := ByteArray.ext (Array.toList_inj.1 h)
theorem L_bs (l : List UInt8) : L (bs l) = l := by simp [L, bs]
theorem bs_L (s : ByteArray) : bs (L s) = s := L_inj (L_bs _)
theorem size_bs (l : List UInt8) : (bs l).size = l.length := by rw [← L_length, L_bs]
theorem toList_bs (l : List UInt8) : (bs l).toList = l := by rw [toList_L, L_bs]
theorem L_extract (s : ByteArray) (i j : Nat) : L (s.extract i j) = ((L s).drop i).take (j - i) := by
  simp [L, ByteArray.data_extract, Array.toList_extract]
theorem size_extract (s : ByteArray) (i j : Nat) : (s.extract i j).size = min j s.size - i := by simp
theorem beq_self_bytes (s : ByteArray) : (s.toList == s.toList) = true := by simp
theorem beq_bytes {a b : ByteArray} : (a.toList == b.toList) = decide (a = b) := by
  rw [toList_L, toList_L]
  by_cases h : a = b
  · subst h; simp
  · have : ¬ L a = L b := fun hc => h (L_inj hc)
    simp [h, this]
theorem bt_nat (s : ByteArray) (n : Nat) : bt s (n : Int) = (((L s).getD n 0).toNat : Int) := rfl
theorem bt_lt (s : ByteArray) (i : Int) : 0 ≤ bt s i ∧ bt s i < 256 := by
  unfold bt
  have := UInt8.toNat_lt (s.data.toList.getD i.toNat 0)
  omega
theorem u8_lt (c : UInt8) : c.toNat < 256 := UInt8.toNat_lt c

/-! ### numbers -/
theorem w64 {n : Int} (h0 : -9223372036854775808 ≤ n) (h1 : n ≤ 9223372036854775807) : IntKind.i64.wrap n = n := by
  simp [IntKind.wrap, IntKind.bits, IntKind.signed]; omega
theorem wu64 {n : Int} (h0 : 0 ≤ n) (h1 : n ≤ 18446744073709551615) : IntKind.u64.wrap n = n := by
  simp [IntKind.wrap, IntKind.bits, IntKind.signed]; omega
theorem wu8 {n : Int} (h0 : 0 ≤ n) (h1 : n ≤ 255) : IntKind.u8.wrap n = n := by
  simp [IntKind.wrap, IntKind.bits, IntKind.signed]; omega
theorem wsucc {n : Nat} (h : n < 9223372036854775807) : IntKind.i64.wrap ((n : Int) + 1) = ((n + 1 : Nat) : Int) := by
  rw [w64 (by omega) (by omega)]; omega
theorem wrap64_range (n : Int) : -9223372036854775808 ≤ IntKind.i64.wrap n ∧ IntKind.i64.wrap n ≤ 9223372036854775807 := by
  simp [IntKind.wrap, IntKind.bits, IntKind.signed]; omega
theorem maxLen_eq : maxLen = 9223372036854775807 := by decide
theorem wf_i64 {n : Int} : wfK (.int .i64) n ↔ -9223372036854775808 ≤ n ∧ n ≤ 9223372036854775807 := by
  simp [wfK, Lit.wf, IntKind.min, IntKind.max, IntKind.bits, IntKind.signed]
theorem wf_u8 {n : Int} : wfK (.int .u8) n ↔ 0 ≤ n ∧ n ≤ 255 := by
  simp [wfK, Lit.wf, IntKind.min, IntKind.max, IntKind.bits, IntKind.signed]
theorem wf_str {s : ByteArray} : wfK .str s ↔ s.size ≤ 9223372036854775807 := by simp [wfK, maxLen_eq]
theorem wf_sl {k : Kind} {xs : List k.den} : wfK (.sl k) xs ↔ xs.length ≤ 9223372036854775807 ∧ ∀ x ∈ xs, wfK k x := by simp [wfK, maxLen_eq]

/-! ### lists -/
theorem rd_nat {k : Kind} {xs : List k.den} {n : Nat} (h : n < xs.length) : rd k xs (n : Int) = xs[n] := by
  simp [rd, List.getD, List.getElem?_eq_getElem h]
theorem rd_mem {k : Kind} {xs : List k.den} {n : Nat} (h : n < xs.length) : rd k xs (n : Int) ∈ xs := by
  rw [rd_nat h]; exact List.getElem_mem h
theorem setW_nat {α : Type} {xs : List α} {n : Nat} {y : α} (h : n < xs.length) : setW xs (n : Int) y = some (xs.set n y) := by
  simp [setW, h]
theorem setO_nat {k : Kind} {o : Nat} {cs : List Cell} {xs : List k.den} {n : Nat} {y : k.den} (h : n < xs.length) (hp : proj1 k (putC (emb k xs[n]) o cs) = some y) : setO k o cs xs (n : Int) = some (xs.set n y) := by
  unfold setO
  rw [rd_nat h, hp]
  simp [h]
/-- Cells put into an element. -/
def putK (k : Kind) (o : Nat) (cs : List Cell) (x : k.den) : Option k.den := proj1 k (putC (emb k x) o cs)
theorem setO_put {k : Kind} {o : Nat} {cs : List Cell} {xs : List k.den} {n : Nat} (h : n < xs.length) : setO k o cs xs (n : Int) = (putK k o cs xs[n]).map fun y => xs.set n y := by
  unfold setO putK
  rw [rd_nat h]
  simp only [show decide ((n : Int) < (xs.length : Int)) = true by simp; omega, cond_true]
  cases proj1 k (putC (emb k xs[n]) o cs) <;> rfl
theorem copy_step {α : Type} {xs : List α} {z : α} {n : Nat} (h : n < xs.length) : (xs.take n ++ List.replicate (xs.length - n) z).set n xs[n] = xs.take (n + 1) ++ List.replicate (xs.length - (n + 1)) z := by
  have hm : xs.length - n = (xs.length - (n + 1)) + 1 := by omega
  rw [hm, List.replicate_succ, List.set_append_right _ _ (by simp; omega)]
  simp only [List.length_take, Nat.min_eq_left (Nat.le_of_lt h), Nat.sub_self, List.set_cons_zero]
  rw [List.take_succ_eq_append_getElem h, List.append_assoc]
  rfl
theorem copy_len {α : Type} {xs : List α} {z : α} {n : Nat} (h : n ≤ xs.length) : (xs.take n ++ List.replicate (xs.length - n) z).length = xs.length := by simp; omega
theorem drop_cons {α : Type} {xs : List α} {n : Nat} (h : n < xs.length) : xs.drop n = xs[n] :: xs.drop (n + 1) := List.drop_eq_getElem_cons h
theorem beqI (a b : Int) : (a == b) = decide (a = b) := rfl
theorem bneI (a b : Int) : (a != b) = !decide (a = b) := rfl
theorem not_true_eq {b : Bool} (h : ¬ b = true) : b = false := by cases b <;> simp_all
end Go.Eng
