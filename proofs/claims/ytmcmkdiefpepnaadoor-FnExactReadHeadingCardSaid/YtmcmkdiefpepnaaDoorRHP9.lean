/-
  Part of a proof by the engine: texts that a program of ours printed, or plain lemmas on them. No condition but what each theorem says.
-/
import Derived.Test.YtmcmkdiefpepnaaDoorRHP8
set_option linter.unusedVariables false
set_option linter.unusedSimpArgs false
namespace Go.Proofs.YtmcmkdiefpepnaaDoor.RH
open Go Go.Eng Go.Proofs.YtmcmkdiefpepnaaDoor.DT Go.Proofs.YtmcmkdiefpepnaaDoor.EX
theorem spec_look (ps : List ByteArray) (hps : ps.length ≤ 4) (r : HV) (he : bs [] ∈ ps → r = no 1) (hl : bs [] ∉ ps → ∀ k, specL (k + 1) ((ps.length : Nat) : Int) ps = some r) :
    ∀ (m n : Nat), ps.length - n = m → n ≤ ps.length → (∀ i (h : i < ps.length), i < n → ps[i] ≠ bs []) → Ev (fun k => specL k (n : Int) ps) r := by
  intro m
  induction m with
  | zero =>
    intro n hm hn hno
    obtain rfl : n = ps.length := by omega
    apply ev_succ
    refine ev_congr (fun k => hl ?_ k) (ev_now r)
    intro hmem
    obtain ⟨i, hi, e⟩ := List.getElem_of_mem hmem
    exact hno i hi hi e
  | succ m ih =>
    intro n hm hn hno
    have h1 : n < ps.length := by omega
    have hr : rd Kind.str ps (n : Int) = ps[n] := rd_nat h1
    apply ev_succ
    simp only [specL, spec_ReadHeading_L6, show (n : Int) < (ps.length : Int) by omega, show (0 : Int) ≤ (n : Int) by omega, decide_true, cond_true, hr, beq_bytes, wsucc (show n < 9223372036854775807 by omega)]
    by_cases e : ps[n] = bs []
    · simp only [e, decide_true, cond_true]
      exact ev_eq (ev_now _) (he (e ▸ List.getElem_mem h1)).symm
    · simp only [e, decide_false, cond_false]
      refine ih (n + 1) (by omega) (by omega) fun i hi hlt => ?_
      by_cases hin : i = n
      · subst hin; exact e
      · exact hno i hi (by omega)
theorem impl_look (ps : List ByteArray) (hps : ps.length ≤ 4) (r : HV) (he : bs [] ∈ ps → r = no 1) (hl : bs [] ∉ ps → ∀ k, implL (k + 1) ((ps.length : Nat) : Int) ((ps.length : Nat) : Int) ps = some r) :
    ∀ (m n : Nat), ps.length - n = m → n ≤ ps.length → (∀ i (h : i < ps.length), i < n → ps[i] ≠ bs []) → Ev (fun k => implL k ((ps.length : Nat) : Int) (n : Int) ps) r := by
  intro m
  induction m with
  | zero =>
    intro n hm hn hno
    obtain rfl : n = ps.length := by omega
    apply ev_succ
    refine ev_congr (fun k => hl ?_ k) (ev_now r)
    intro hmem
    obtain ⟨i, hi, e⟩ := List.getElem_of_mem hmem
    exact hno i hi hi e
  | succ m ih =>
    intro n hm hn hno
    have h1 : n < ps.length := by omega
    have hr : rd Kind.str ps (n : Int) = ps[n] := rd_nat h1
    apply ev_succ
    simp only [implL, impl_ReadHeading_L5, show (n : Int) < (ps.length : Int) by omega, show (0 : Int) ≤ (n : Int) by omega, decide_true, cond_true, hr, beq_bytes, wsucc (show n < 9223372036854775807 by omega)]
    by_cases e : ps[n] = bs []
    · simp only [e, decide_true, cond_true]
      exact ev_eq (ev_now _) (he (e ▸ List.getElem_mem h1)).symm
    · simp only [e, decide_false, cond_false]
      refine ih (n + 1) (by omega) (by omega) fun i hi hlt => ?_
      by_cases hin : i = n
      · subst hin; exact e
      · exact hno i hi (by omega)
open Classical in
/-- What is read of a line's pieces. -/
noncomputable def readV (ps : List ByteArray) : HV :=
  match ps with
  | p0 :: p1 :: p2 :: ms => if ms.length ≤ 1 then (if bs [] ∈ (p0 :: p1 :: p2 :: ms) then no 1 else rhv p0 p1 p2 ms) else no 1
  | _ => no 1
theorem pc_size : ∀ (l cur : List UInt8), ∀ p ∈ pc cur l, p.length ≤ cur.length + l.length
  | [], cur, p, h => by simp [pc] at h; subst h; simp
  | c :: l, cur, p, h => by
    rw [pc] at h
    split at h
    · rcases List.mem_cons.1 h with rfl | h
      · simp
      · have := pc_size l [] p h; simp at this ⊢; omega
    · have := pc_size l _ p h; simp at this ⊢; omega
theorem pieces_size {s : ByteArray} {p : ByteArray} (h : p ∈ pieces s (bs [32])) : p.size ≤ s.size := by
  have : L p ∈ (pieces s (bs [32])).map L := List.mem_map.2 ⟨p, h, rfl⟩
  rw [pieces_pc] at this
  have := pc_size _ _ _ this
  rw [L_length, L_length] at this
  simpa using this
theorem readV_short {ps : List ByteArray} (h : ¬ ps.length = 3) (h' : ¬ ps.length = 4) : readV ps = no 1 := by
  match ps with
  | [] => rfl
  | [_] => rfl
  | [_, _] => rfl
  | p0 :: p1 :: p2 :: ms => simp only [readV]; simp only [List.length_cons] at h h'; rw [if_neg (by omega)]
theorem readV_long {ps : List ByteArray} (h : ps.length = 3 ∨ ps.length = 4) : ∃ p0 p1 p2 ms, ps = p0 :: p1 :: p2 :: ms ∧ ms.length ≤ 1 := by
  match ps, h with
  | p0 :: p1 :: p2 :: ms, h => exact ⟨p0, p1, p2, ms, rfl, by simp only [List.length_cons] at h; omega⟩
  | [], h => simp at h
  | [_], h => simp at h
  | [_, _], h => simp at h
theorem spec_ReadHeading_eq {s : ByteArray} (hs : s.size ≤ 1048576) : spec_ReadHeading s = some (readV (pieces s (bs [32]))) := by
  refine evF_eq ?_
  have hz : ∀ p ∈ pieces s (bs [32]), p.size ≤ 9223372036854775807 := fun p hp => by have := pieces_size hp; omega
  simp only [spec_ReadHeading_F, spec_pieces_eq hs, Option.bind_some, bneI]
  generalize pieces s (bs [32]) = ps at hz ⊢
  have main : (ps.length = 3 ∨ ps.length = 4) → Ev (fun k => specL k 0 ps) (readV ps) := fun h => by
    obtain ⟨p0, p1, p2, ms, rfl, hms⟩ := readV_long h
    refine spec_look _ (by omega) _ (fun hm => ?_) (fun hm k => ?_) _ 0 rfl (by omega) (fun i hi h => by omega)
    · simp only [readV]; rw [if_pos hms, if_pos hm]
    · simp only [readV]; rw [if_pos hms, if_neg hm]
      exact spec_tail k p0 p1 p2 ms hms fun m hm => hz m (by simp [hm])
  by_cases h3 : ps.length = 3
  · simp only [show (ps.length : Int) = 3 by omega, decide_true, Bool.not_true, cond_false]
    exact main (.inl h3)
  · by_cases h4 : ps.length = 4
    · simp only [show (ps.length : Int) = 4 by omega, show ¬ (4 : Int) = 3 by decide, decide_true, decide_false, Bool.not_true, Bool.not_false, cond_false, cond_true]
      exact main (.inr h4)
    · simp only [show ¬ (ps.length : Int) = 4 by omega, show ¬ (ps.length : Int) = 3 by omega, decide_false, Bool.not_false, cond_true]
      exact ev_eq (ev_now _) (readV_short h3 h4).symm
theorem impl_ReadHeading_eq {s : ByteArray} (hs : s.size ≤ 1048576) : impl_ReadHeading s = some (readV (pieces s (bs [32]))) := by
  refine evF_eq ?_
  have hz : ∀ p ∈ pieces s (bs [32]), p.size ≤ 9223372036854775807 := fun p hp => by have := pieces_size hp; omega
  have hd : dSplit s (bs [32]) = some (pieces s (bs [32])) := by
    unfold dSplit
    simp only [show s.size < 4294967281 by omega, show (bs [32]).size = 1 from rfl, decide_true, Bool.and_self, cond_true]
  simp only [impl_ReadHeading_F, hd, Option.bind_some, bneI]
  generalize pieces s (bs [32]) = ps at hz ⊢
  have main : (ps.length = 3 ∨ ps.length = 4) → Ev (fun k => implL k ((ps.length : Nat) : Int) 0 ps) (readV ps) := fun h => by
    obtain ⟨p0, p1, p2, ms, rfl, hms⟩ := readV_long h
    refine impl_look _ (by omega) _ (fun hm => ?_) (fun hm k => ?_) _ 0 rfl (by omega) (fun i hi h => by omega)
    · simp only [readV]; rw [if_pos hms, if_pos hm]
    · simp only [readV]; rw [if_pos hms, if_neg hm]
      exact impl_tail k p0 p1 p2 ms hms fun m hm => hz m (by simp [hm])
  by_cases h3 : ps.length = 3
  · have := main (.inl h3)
    have e3 : (ps.length : Int) = 3 := by omega
    rw [e3] at this
    simp only [e3, decide_true, Bool.not_true, cond_false]
    exact this
  · by_cases h4 : ps.length = 4
    · have := main (.inr h4)
      have e3 : (ps.length : Int) = 4 := by omega
      rw [e3] at this
      simp only [e3, show ¬ (4 : Int) = 3 by decide, decide_true, decide_false, Bool.not_true, Bool.not_false, cond_false, cond_true]
      exact this
    · simp only [show ¬ (ps.length : Int) = 4 by omega, show ¬ (ps.length : Int) = 3 by omega, decide_false, Bool.not_false, cond_true]
      exact ev_eq (ev_now _) (readV_short h3 h4).symm
end Go.Proofs.YtmcmkdiefpepnaaDoor.RH
