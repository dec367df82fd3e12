/-
  Part of a proof by the engine: texts that a program of ours printed, or plain lemmas on them. No condition but what each theorem says.
-/
import Derived.Test.YtmcmkdiefpepnaaDoorHD
import Derived.Test.YtmcmkdiefpepnaaDoorDRP
import Derived.Test.YtmcmkdiefpepnaaDoorRHPlain
set_option linter.unusedVariables false
set_option linter.unusedSimpArgs false
namespace Go.Proofs.YtmcmkdiefpepnaaDoor.HD
open Go Go.Eng Go.Proofs.YtmcmkdiefpepnaaDoor.DT Go.Proofs.YtmcmkdiefpepnaaDoor.EX Go.Proofs.YtmcmkdiefpepnaaDoor.RH Go.Proofs.YtmcmkdiefpepnaaDoor.DR
/-- Is a heading right? -/
def hokV (a b : ByteArray) (n : Int) (c : ByteArray) (d h m : Int) (k : ByteArray) : Bool :=
  ((L a).all isUp && decide (a.size = 2)) && (((L b).all isUp && decide (b.size = 2)) && ((decide (0 ≤ n) && decide (n ≤ 99)) && (centreV c && ((decide (1 ≤ d) && decide (d ≤ 31)) && ((decide (0 ≤ h) && decide (h ≤ 23)) && ((decide (0 ≤ m) && decide (m ≤ 59)) && decide (0 ≤ mk k)))))))
theorem spec_hok {a b : ByteArray} (n : Int) (c : ByteArray) (d h m : Int) {k : ByteArray} (ha : a.size ≤ 1000) (hb : b.size ≤ 1000) (hk : k.size ≤ 1000) : spec_l4HeadingOk a b n c d h m k = some (hokV a b n c d h m k) := by
  obtain ⟨x, hx⟩ := spec_mark k (by omega)
  have hl : spec_l4Letters (a ++ b) = some ((L a).all isUp && (L b).all isUp) := by
    rw [spec_l4Letters_eq (by rw [ByteArray.size_append]; omega), L_append, List.all_append]
  unfold spec_l4HeadingOk hokV
  simp only [hx, Option.bind_some, beqI, hl, l2In_eq, spec_l4CentreOk_eq, show a.size + b.size ≤ 9223372036854775807 by omega, decide_true, cond_true, show ∀ x : Nat, decide ((x : Int) = 2) = decide (x = 2) from fun x => by rw [decide_eq_decide]; omega, ge_iff_le]
  generalize (L a).all isUp = q1
  generalize (L b).all isUp = q2
  generalize decide (a.size = 2) = q3
  generalize decide (b.size = 2) = q4
  generalize centreV c = q5
  generalize (decide (0 ≤ n) && decide (n ≤ 99)) = q6
  generalize (decide (1 ≤ d) && decide (d ≤ 31)) = q7
  generalize (decide (0 ≤ h) && decide (h ≤ 23)) = q8
  generalize (decide (0 ≤ m) && decide (m ≤ 59)) = q9
  cases q1 <;> cases q2 <;> cases q3 <;> cases q4 <;> cases q5 <;> cases q6 <;> cases q7 <;> cases q8 <;> cases q9 <;> rfl
theorem impl_hok {a b : ByteArray} (n : Int) (c : ByteArray) (d h m : Int) {k : ByteArray} (ha : a.size ≤ 1000) (hb : b.size ≤ 1000) (hk : k.size ≤ 1000) : impl_headingOk a b n c d h m k = some (hokV a b n c d h m k) := by
  obtain ⟨x, hx⟩ := impl_mark k (by omega)
  have hm : (mk k != -1) = decide (0 ≤ mk k) := by
    rcases mk_cases k with h | h
    · rw [h]; rfl
    · have : ¬ mk k = -1 := by omega
      rw [bneI]; simp [this, h]
  unfold impl_headingOk hokV
  simp only [hx, Option.bind_some, hm, impl_capitals_eq 2 (s := a) (by omega), impl_capitals_eq 2 (s := b) (by omega), in_eq, impl_centreOk_eq, show ∀ x : Nat, decide ((x : Int) = 2) = decide (x = 2) from fun x => by rw [decide_eq_decide]; omega]
  generalize ((L a).all isUp && decide (a.size = 2)) = q1
  generalize ((L b).all isUp && decide (b.size = 2)) = q2
  generalize centreV c = q5
  generalize (decide (0 ≤ n) && decide (n ≤ 99)) = q6
  generalize (decide (1 ≤ d) && decide (d ≤ 31)) = q7
  generalize (decide (0 ≤ h) && decide (h ≤ 23)) = q8
  generalize (decide (0 ≤ m) && decide (m ≤ 59)) = q9
  cases q1 <;> cases q2 <;> cases q5 <;> cases q6 <;> cases q7 <;> cases q8 <;> cases q9 <;> rfl
/-- The text of a heading that is right. -/
def htV (a b : ByteArray) (n : Nat) (c : ByteArray) (d h m : Nat) (k : ByteArray) : ByteArray :=
  a ++ b ++ bs (d2 n) ++ bs [32] ++ c ++ bs [32] ++ bs (d2 d) ++ bs (d2 h) ++ bs (d2 m) ++ (if k = bs [] then bs [] else bs [32] ++ k)
theorem d2_size (n : Nat) : (bs (d2 n)).size = 2 := by rw [size_bs]; rfl
theorem bs_nil_append (s : ByteArray) : s ++ bs [] = s := L_inj (by rw [L_append, L_bs, List.append_nil])
theorem app_assoc (a b c : ByteArray) : a ++ (b ++ c) = a ++ b ++ c := L_inj (by simp only [L_append, List.append_assoc])
theorem hok_parts {a b : ByteArray} {n : Int} {c : ByteArray} {d h m : Int} {k : ByteArray} (hh : hokV a b n c d h m k = true) :
    ((L a).all isUp = true ∧ a.size = 2) ∧ ((L b).all isUp = true ∧ b.size = 2) ∧ (0 ≤ n ∧ n ≤ 99) ∧ centreV c = true ∧ (1 ≤ d ∧ d ≤ 31) ∧ (0 ≤ h ∧ h ≤ 23) ∧ (0 ≤ m ∧ m ≤ 59) ∧ 0 ≤ mk k := by
  simpa only [hokV, Bool.and_eq_true, decide_eq_true_eq] using hh
theorem centre_size {c : ByteArray} (h : centreV c = true) : c.size = 4 := by
  simp only [centreV, Bool.and_eq_true, decide_eq_true_eq] at h
  exact h.1
theorem text_spec {a b : ByteArray} {n : Int} {c : ByteArray} {d h m : Int} {k : ByteArray} (ha : a.size ≤ 1000) (hb : b.size ≤ 1000) (hk : k.size ≤ 1000) :
    spec_HeadingText a b n c d h m k = some (if hokV a b n c d h m k = true then (htV a b n.toNat c d.toNat h.toNat m.toNat k, true) else (bs [], false)) := by
  unfold spec_HeadingText
  rw [spec_hok n c d h m ha hb hk, Option.bind_some]
  cases hh : hokV a b n c d h m k with
  | false => rfl
  | true =>
    obtain ⟨⟨_, sa⟩, ⟨_, sb⟩, hn, hc, hd, hh', hm, _⟩ := hok_parts hh
    have sc := centre_size hc
    have en := pad2_spec (n := n.toNat) (by omega)
    have ed := pad2_spec (n := d.toNat) (by omega)
    have eh := pad2_spec (n := h.toNat) (by omega)
    have em := pad2_spec (n := m.toNat) (by omega)
    rw [show ((n.toNat : Nat) : Int) = n by omega] at en
    rw [show ((d.toNat : Nat) : Int) = d by omega] at ed
    rw [show ((h.toNat : Nat) : Int) = h by omega] at eh
    rw [show ((m.toNat : Nat) : Int) = m by omega] at em
    simp only [Bool.not_true, cond_false, en, ed, eh, em, Option.bind_some, ByteArray.size_append, d2_size, sa, sb, sc, show (bs [32]).size = 1 from rfl, Nat.reduceAdd, Nat.reduceLeDiff, decide_true, cond_true, beq_bytes, show 19 + k.size ≤ 9223372036854775807 by omega]
    unfold htV
    by_cases e : k = bs []
    · simp [e, bs_nil_append]
    · simp [e, app_assoc, show 19 + k.size ≤ 9223372036854775807 by omega]
theorem text_impl {a b : ByteArray} {n : Int} {c : ByteArray} {d h m : Int} {k : ByteArray} (ha : a.size ≤ 1000) (hb : b.size ≤ 1000) (hk : k.size ≤ 1000) :
    impl_HeadingText a b n c d h m k = some (if hokV a b n c d h m k = true then (htV a b n.toNat c d.toNat h.toNat m.toNat k, true) else (bs [], false)) := by
  unfold impl_HeadingText
  rw [impl_hok n c d h m ha hb hk, Option.bind_some]
  cases hh : hokV a b n c d h m k with
  | false => rfl
  | true =>
    obtain ⟨⟨_, sa⟩, ⟨_, sb⟩, hn, hc, hd, hh', hm, _⟩ := hok_parts hh
    have sc := centre_size hc
    have en := pad2_impl (n := n.toNat) (by omega)
    have ed := pad2_impl (n := d.toNat) (by omega)
    have eh := pad2_impl (n := h.toNat) (by omega)
    have em := pad2_impl (n := m.toNat) (by omega)
    rw [show ((n.toNat : Nat) : Int) = n by omega] at en
    rw [show ((d.toNat : Nat) : Int) = d by omega] at ed
    rw [show ((h.toNat : Nat) : Int) = h by omega] at eh
    rw [show ((m.toNat : Nat) : Int) = m by omega] at em
    simp only [Bool.not_true, cond_false, en, ed, eh, em, Option.bind_some, ByteArray.size_append, d2_size, sa, sb, sc, show (bs [32]).size = 1 from rfl, Nat.reduceAdd, Nat.reduceLeDiff, decide_true, cond_true, beq_bytes, show 1 + k.size ≤ 9223372036854775807 by omega, show 18 + (1 + k.size) ≤ 9223372036854775807 by omega]
    unfold htV
    by_cases e : k = bs []
    · simp [e, bs_nil_append]
    · simp [e]
end Go.Proofs.YtmcmkdiefpepnaaDoor.HD

namespace Go.Proofs.YtmcmkdiefpepnaaDoor.HD
open Go Go.Eng Go.Proofs.YtmcmkdiefpepnaaDoor.DT Go.Proofs.YtmcmkdiefpepnaaDoor.EX Go.Proofs.YtmcmkdiefpepnaaDoor.RH Go.Proofs.YtmcmkdiefpepnaaDoor.DR
theorem nat_dig {a : Nat} (h : a < 10) : (UInt8.ofNat (48 + a)).toNat = 48 + a := by rw [UInt8.toNat_ofNat']; omega
theorem isDig_of {a : Nat} (h : a < 10) : isDig (UInt8.ofNat (48 + a)) = true := by
  simp only [isDig, nat_dig h, Bool.and_eq_true, decide_eq_true_eq]; omega
theorem spell_d2 {n : Nat} (h : n < 100) : spell 0 (d2 n) = (n : Int) := by
  simp only [d2, spell, nat_dig (show n / 10 < 10 by omega), nat_dig (show n % 10 < 10 by omega)]
  omega
theorem d2_dig {n : Nat} (h : n < 100) : (d2 n).all isDig = true := by
  simp only [d2, List.all_cons, List.all_nil, isDig_of (show n / 10 < 10 by omega), isDig_of (show n % 10 < 10 by omega), Bool.and_self]
theorem d2_spell {x y : UInt8} (hx : isDig x = true) (hy : isDig y = true) : d2 (spell 0 [x, y]).toNat = [x, y] := by
  obtain ⟨a, ha, rfl⟩ := dig_of hx
  obtain ⟨b, hb, rfl⟩ := dig_of hy
  simp only [spell, nat_dig ha, nat_dig hb]
  rw [show ((0 * 10 + (((48 + a : Nat) : Int) - 48)) * 10 + (((48 + b : Nat) : Int) - 48)).toNat = 10 * a + b by omega]
  simp only [d2]
  rw [show (10 * a + b) / 10 = a by omega, show (10 * a + b) % 10 = b by omega]
theorem no_blank_up {l : List UInt8} (h : l.all isUp = true) : (32 : UInt8) ∉ l := by
  intro hm
  rw [List.all_eq_true] at h
  have := h _ hm
  simp [isUp] at this
theorem no_blank_dig {l : List UInt8} (h : l.all isDig = true) : (32 : UInt8) ∉ l := by
  intro hm
  rw [List.all_eq_true] at h
  have := h _ hm
  simp [isDig] at this
theorem no_blank_centre {c : ByteArray} (h : centreV c = true) : (32 : UInt8) ∉ L c := by
  intro hm
  simp only [centreV, Bool.and_eq_true, List.all_eq_true] at h
  rw [← List.take_append_drop 1 (L c)] at hm
  rcases List.mem_append.1 hm with hm | hm
  · have := h.2.1 _ hm
    simp [isUp] at this
  · have := h.2.2 _ hm
    simp [isUp, isDig] at this
theorem no_blank_mark {k : ByteArray} (h : 0 ≤ mk k) : (32 : UInt8) ∉ L k := by
  unfold mk at h
  split at h
  · rename_i e; rw [e]; simp
  · rename_i a b c e
    rw [e]
    split at h
    · rename_i hu
      exact no_blank_up (by simpa using hu)
    · exact absurd h (by decide)
  · exact absurd h (by decide)
theorem pieces_of {s : ByteArray} {l : List (List UInt8)} (h : pc [] (L s) = l) : pieces s (bs [32]) = l.map bs := by
  rw [← h, ← pieces_pc, List.map_map]
  have : ∀ l : List ByteArray, l = l.map (bs ∘ L) := fun l => by
    induction l with
    | nil => rfl
    | cons x l ih =>
      rw [List.map_cons, ← ih]
      congr 1
      try exact (bs_L x).symm
  exact this _
theorem L_if (k : ByteArray) : L (if k = bs [] then bs [] else bs [32] ++ k) = if k = bs [] then [] else 32 :: L k := by
  split <;> simp [L_append, L_bs]
theorem pieces_text {a b c k : ByteArray} {n d h m : Nat} (ha : (L a).all isUp = true) (hb : (L b).all isUp = true) (hc : centreV c = true) (hn : n < 100) (hd : d < 100) (hh : h < 100) (hm : m < 100) (hk : 0 ≤ mk k) :
    pieces (htV a b n c d h m k) (bs [32]) = [bs (L a ++ L b ++ d2 n), c, bs (d2 d ++ d2 h ++ d2 m)] ++ (if k = bs [] then [] else [k]) := by
  have n0 : (32 : UInt8) ∉ L a ++ L b ++ d2 n := by simp only [List.mem_append, not_or]; exact ⟨⟨no_blank_up ha, no_blank_up hb⟩, no_blank_dig (d2_dig hn)⟩
  have n2 : (32 : UInt8) ∉ d2 d ++ d2 h ++ d2 m := by simp only [List.mem_append, not_or]; exact ⟨⟨no_blank_dig (d2_dig hd), no_blank_dig (d2_dig hh)⟩, no_blank_dig (d2_dig hm)⟩
  have e : L (htV a b n c d h m k) = (L a ++ L b ++ d2 n) ++ 32 :: (L c ++ 32 :: (d2 d ++ d2 h ++ d2 m ++ (if k = bs [] then [] else 32 :: L k))) := by
    unfold htV
    simp only [L_append, L_bs, L_if, List.append_assoc, List.cons_append, List.nil_append]
  have hp : pc [] (L (htV a b n c d h m k)) = [L a ++ L b ++ d2 n, L c, d2 d ++ d2 h ++ d2 m] ++ (if k = bs [] then [] else [L k]) := by
    rw [e, pc_some _ _ _ n0, pc_some _ _ _ (no_blank_centre hc)]
    split
    · rw [List.append_nil, pc_none _ _ n2]; rfl
    · rw [pc_some _ _ _ n2, pc_none _ _ (no_blank_mark hk)]; rfl
  rw [pieces_of hp]
  split <;> simp [bs_L]
theorem read_text {a b c k : ByteArray} {n d h m : Int} (hh : hokV a b n c d h m k = true) :
    readV (pieces (htV a b n.toNat c d.toNat h.toNat m.toNat k) (bs [32])) = (a, b, n, c, d, h, m, k, 0) := by
  obtain ⟨⟨ua, sa⟩, ⟨ub, sb⟩, hn, hc, hd, hh', hm, hk⟩ := hok_parts hh
  rw [pieces_text ua ub hc (by omega) (by omega) (by omega) (by omega) hk]
  obtain ⟨a1, a2, ea⟩ := two_of sa
  obtain ⟨b1, b2, eb⟩ := two_of sb
  have sc := centre_size hc
  obtain rfl : a = bs [a1, a2] := L_inj (by rw [ea, L_bs])
  obtain rfl : b = bs [b1, b2] := L_inj (by rw [eb, L_bs])
  rw [L_bs] at ua ub
  rw [L_bs, L_bs]
  obtain ⟨N, rfl⟩ : ∃ N : Nat, n = (N : Int) := ⟨n.toNat, by omega⟩
  obtain ⟨D, rfl⟩ : ∃ N : Nat, d = (N : Int) := ⟨d.toNat, by omega⟩
  obtain ⟨H, rfl⟩ : ∃ N : Nat, h = (N : Int) := ⟨h.toNat, by omega⟩
  obtain ⟨M, rfl⟩ : ∃ N : Nat, m = (N : Int) := ⟨m.toNat, by omega⟩
  simp only [Int.toNat_natCast]
  have dn := d2_dig (n := N) (by omega)
  have dd := d2_dig (n := D) (by omega)
  have dh := d2_dig (n := H) (by omega)
  have dm := d2_dig (n := M) (by omega)
  have sn := spell_d2 (n := N) (by omega)
  have sd := spell_d2 (n := D) (by omega)
  have sh := spell_d2 (n := H) (by omega)
  have sm := spell_d2 (n := M) (by omega)
  generalize hq0 : d2 N = q0 at *
  generalize hq1 : d2 D = q1 at *
  generalize hq2 : d2 H = q2 at *
  generalize hq3 : d2 M = q3 at *
  have l2 : ∀ x, (d2 x).length = 2 := fun _ => rfl
  have z0 := l2 N; rw [hq0] at z0
  have z1 := l2 D; rw [hq1] at z1
  have z2 := l2 H; rw [hq2] at z2
  have z3 := l2 M; rw [hq3] at z3
  clear hq0 hq1 hq2 hq3 l2 hh
  match q0, z0, q1, z1, q2, z2, q3, z3 with
  | [n1, n2], _, [d1, d2'], _, [h1, h2], _, [m1, m2], _ =>
  have x1 : (bs [a1, a2, b1, b2, n1, n2]).extract 0 2 = bs [a1, a2] := L_inj (by rw [L_extract, L_bs, L_bs]; rfl)
  have x2 : (bs [a1, a2, b1, b2, n1, n2]).extract 2 4 = bs [b1, b2] := L_inj (by rw [L_extract, L_bs, L_bs]; rfl)
  have x3 : L ((bs [a1, a2, b1, b2, n1, n2]).extract 4 6) = [n1, n2] := by rw [L_extract, L_bs]; rfl
  have x4 : L ((bs [a1, a2, b1, b2, n1, n2]).extract 0 4) = [a1, a2, b1, b2] := by rw [L_extract, L_bs]; rfl
  have y1 : L ((bs [d1, d2', h1, h2, m1, m2]).extract 0 2) = [d1, d2'] := by rw [L_extract, L_bs]; rfl
  have y2 : L ((bs [d1, d2', h1, h2, m1, m2]).extract 2 4) = [h1, h2] := by rw [L_extract, L_bs]; rfl
  have y3 : L ((bs [d1, d2', h1, h2, m1, m2]).extract 4 6) = [m1, m2] := by rw [L_extract, L_bs]; rfl
  have g0 : ∀ s : ByteArray, 0 < s.size → bs [] ≠ s := fun s hs e => by rw [← e] at hs; exact absurd hs (by decide)
  have kin : RH.kindOk (bs [a1, a2, b1, b2, n1, n2]) = true := by
    simp only [List.all_cons, List.all_nil, Bool.and_true, Bool.and_eq_true] at ua ub dn
    simp only [RH.kindOk, x3, x4, List.all_cons, List.all_nil, ua, ub, dn, Bool.and_self]
  have dall : (L (bs [d1, d2', h1, h2, m1, m2])).all isDig = true := by
    simp only [List.all_cons, List.all_nil, Bool.and_true, Bool.and_eq_true] at dd dh dm
    simp only [L_bs, List.all_cons, List.all_nil, dd, dh, dm, Bool.and_self]
  have tok : timeOk (D : Int) (H : Int) (M : Int) = true := by
    simp only [timeOk, Bool.and_eq_true, decide_eq_true_eq]; omega
  show readV ([bs [a1, a2, b1, b2, n1, n2], c, bs [d1, d2', h1, h2, m1, m2]] ++ (if k = bs [] then [] else [k])) = _
  have gc := g0 c (by omega)
  have gp0 := g0 (bs [a1, a2, b1, b2, n1, n2]) (by simp [size_bs])
  have gp2 := g0 (bs [d1, d2', h1, h2, m1, m2]) (by simp [size_bs])
  by_cases e : k = bs []
  · rw [if_pos e, List.append_nil]
    simp only [readV, List.length_nil, show (0 : Nat) ≤ 1 by omega, if_true, List.mem_cons, List.not_mem_nil, or_false, gc, gp0, gp2, if_false]
    simp only [rhv, show (bs [a1, a2, b1, b2, n1, n2]).size = 6 from rfl, show (bs [d1, d2', h1, h2, m1, m2]).size = 6 from rfl, kin, hc, dall, sp, y1, y2, y3, sd, sh, sm, tok, if_true, markv, okv, x1, x2, x3, sn, e]
  · rw [if_neg e]
    have e' : ¬ bs [] = k := fun x => e x.symm
    simp only [List.cons_append, List.nil_append, readV, List.length_cons, List.length_nil, show (0 : Nat) + 1 ≤ 1 by omega, if_true, List.mem_cons, List.not_mem_nil, or_false, gc, gp0, gp2, e', if_false]
    simp only [rhv, show (bs [a1, a2, b1, b2, n1, n2]).size = 6 from rfl, show (bs [d1, d2', h1, h2, m1, m2]).size = 6 from rfl, kin, hc, dall, sp, y1, y2, y3, sd, sh, sm, tok, if_true, markv, okv, x1, x2, x3, sn, show ¬ mk k = -1 by omega, if_false]
end Go.Proofs.YtmcmkdiefpepnaaDoor.HD

namespace Go.Proofs.YtmcmkdiefpepnaaDoor.HD
open Go Go.Eng Go.Proofs.YtmcmkdiefpepnaaDoor.DT Go.Proofs.YtmcmkdiefpepnaaDoor.EX Go.Proofs.YtmcmkdiefpepnaaDoor.RH Go.Proofs.YtmcmkdiefpepnaaDoor.DR
structure Fits (p0 p1 p2 m : ByteArray) : Prop where
  s0 : p0.size = 6
  k : RH.kindOk p0 = true
  c : centreV p1 = true
  s2 : p2.size = 6
  d : (L p2).all isDig = true
  t : timeOk (sp p2 0 2) (sp p2 2 4) (sp p2 4 6) = true
  m : 0 ≤ mk m
theorem rhv_cases (p0 p1 p2 : ByteArray) (ms : List ByteArray) (hms : ms.length ≤ 1) : (∃ c : Int, c ≠ 0 ∧ rhv p0 p1 p2 ms = no c) ∨ ∃ m, ((ms = [] ∧ m = bs []) ∨ ms = [m]) ∧ rhv p0 p1 p2 ms = okv p0 p1 p2 m ∧ Fits p0 p1 p2 m := by
  unfold rhv
  by_cases h0 : p0.size = 6
  · by_cases h1 : RH.kindOk p0 = true
    · by_cases h2 : centreV p1 = true
      · by_cases h3 : p2.size = 6
        · by_cases h4 : (L p2).all isDig = true
          · by_cases h5 : timeOk (sp p2 0 2) (sp p2 2 4) (sp p2 4 6) = true
            · simp only [h0, h1, h2, h3, h4, h5, if_true]
              match ms, hms with
              | [], _ => exact .inr ⟨bs [], .inl ⟨rfl, rfl⟩, rfl, h0, h1, h2, h3, h4, h5, by decide⟩
              | [m], _ =>
                simp only [markv]
                by_cases h6 : mk m = -1
                · exact .inl ⟨5, by decide, by rw [if_pos h6]⟩
                · exact .inr ⟨m, .inr rfl, by rw [if_neg h6], h0, h1, h2, h3, h4, h5, (mk_cases m).resolve_left h6⟩
            · exact .inl ⟨4, by decide, by simp only [h0, h1, h2, h3, h4, h5, if_true]; rfl⟩
          · exact .inl ⟨4, by decide, by simp only [h0, h1, h2, h3, h4, if_true]; rfl⟩
        · exact .inl ⟨4, by decide, by simp only [h0, h1, h2, h3, if_true, if_false]⟩
      · exact .inl ⟨3, by decide, by simp only [h0, h1, h2, if_true]; rfl⟩
    · exact .inl ⟨2, by decide, by simp only [h0, h1, if_true]; rfl⟩
  · exact .inl ⟨2, by decide, by simp only [h0, if_false]⟩
theorem readV_cases (ps : List ByteArray) : (∃ c : Int, c ≠ 0 ∧ readV ps = no c) ∨ ∃ p0 p1 p2 m, (ps = [p0, p1, p2] ∧ m = bs [] ∨ ps = [p0, p1, p2, m] ∧ m ≠ bs []) ∧ readV ps = okv p0 p1 p2 m ∧ Fits p0 p1 p2 m := by
  by_cases h3 : ps.length = 3 ∨ ps.length = 4
  · obtain ⟨p0, p1, p2, ms, rfl, hms⟩ := readV_long h3
    simp only [readV]
    rw [if_pos hms]
    by_cases he : bs [] ∈ p0 :: p1 :: p2 :: ms
    · exact .inl ⟨1, by decide, by rw [if_pos he]⟩
    · rw [if_neg he]
      rcases rhv_cases p0 p1 p2 ms hms with h | ⟨m, hm, h1, h2⟩
      · exact .inl h
      · refine .inr ⟨p0, p1, p2, m, ?_, h1, h2⟩
        rcases hm with ⟨rfl, rfl⟩ | rfl
        · exact .inl ⟨rfl, rfl⟩
        · exact .inr ⟨rfl, fun e => he (by simp [e])⟩
  · exact .inl ⟨1, by decide, readV_short (fun h => h3 (.inl h)) (fun h => h3 (.inr h))⟩
def joinL : List (List UInt8) → List UInt8
  | [] => []
  | [x] => x
  | x :: y :: r => x ++ 32 :: joinL (y :: r)
theorem pc_ne : ∀ (l cur : List UInt8), ∃ x r, pc cur l = x :: r
  | [], cur => ⟨cur, [], rfl⟩
  | c :: l, cur => by
    rw [pc]
    split
    · exact ⟨_, _, rfl⟩
    · exact pc_ne l _
theorem join_pc : ∀ (l cur : List UInt8), joinL (pc cur l) = cur ++ l
  | [], cur => by simp [pc, joinL]
  | c :: l, cur => by
    rw [pc]
    split
    · rename_i h
      obtain ⟨x, r, e⟩ := pc_ne l []
      have := join_pc l []
      rw [e] at this ⊢
      simp only [joinL] at this ⊢
      rw [this, h, List.nil_append]
    · rw [join_pc l]; simp
theorem line_of {s : ByteArray} {ps : List ByteArray} (h : pieces s (bs [32]) = ps) : L s = joinL (ps.map L) := by
  rw [← h, pieces_pc, join_pc, List.nil_append]
theorem six_of {s : ByteArray} (h : s.size = 6) : ∃ a b c d e f, s = bs [a, b, c, d, e, f] := by
  have hl : (L s).length = 6 := by rw [L_length, h]
  have hs : s = bs (L s) := (bs_L s).symm
  generalize L s = l at hl hs
  subst hs
  match l, hl with
  | [a, b, c, d, e, f], _ => exact ⟨a, b, c, d, e, f, rfl⟩
theorem text_read {p0 p1 p2 m : ByteArray} (f : Fits p0 p1 p2 m) :
    hokV (p0.extract 0 2) (p0.extract 2 4) (sp p0 4 6) p1 (sp p2 0 2) (sp p2 2 4) (sp p2 4 6) m = true ∧
    L (htV (p0.extract 0 2) (p0.extract 2 4) (sp p0 4 6).toNat p1 (sp p2 0 2).toNat (sp p2 2 4).toNat (sp p2 4 6).toNat m) = L p0 ++ 32 :: (L p1 ++ 32 :: (L p2 ++ (if m = bs [] then [] else 32 :: L m))) := by
  obtain ⟨s0, k, c, s2, d, t, hm⟩ := f
  obtain ⟨a1, a2, b1, b2, n1, n2, rfl⟩ := six_of s0
  obtain ⟨d1, d2', h1, h2, m1, m2, rfl⟩ := six_of s2
  have x1 : (bs [a1, a2, b1, b2, n1, n2]).extract 0 2 = bs [a1, a2] := L_inj (by rw [L_extract, L_bs, L_bs]; rfl)
  have x2 : (bs [a1, a2, b1, b2, n1, n2]).extract 2 4 = bs [b1, b2] := L_inj (by rw [L_extract, L_bs, L_bs]; rfl)
  have x3 : L ((bs [a1, a2, b1, b2, n1, n2]).extract 4 6) = [n1, n2] := by rw [L_extract, L_bs]; rfl
  have x4 : L ((bs [a1, a2, b1, b2, n1, n2]).extract 0 4) = [a1, a2, b1, b2] := by rw [L_extract, L_bs]; rfl
  have y1 : L ((bs [d1, d2', h1, h2, m1, m2]).extract 0 2) = [d1, d2'] := by rw [L_extract, L_bs]; rfl
  have y2 : L ((bs [d1, d2', h1, h2, m1, m2]).extract 2 4) = [h1, h2] := by rw [L_extract, L_bs]; rfl
  have y3 : L ((bs [d1, d2', h1, h2, m1, m2]).extract 4 6) = [m1, m2] := by rw [L_extract, L_bs]; rfl
  simp only [RH.kindOk, x3, x4, List.all_cons, List.all_nil, Bool.and_true, Bool.and_eq_true] at k
  simp only [L_bs, List.all_cons, List.all_nil, Bool.and_true, Bool.and_eq_true] at d
  simp only [sp, x1, x2, x3, y1, y2, y3] at t ⊢
  have g1 := spell_two k.2.1 k.2.2
  have g2 := spell_two d.1 d.2.1
  have g3 := spell_two d.2.2.1 d.2.2.2.1
  have g4 := spell_two d.2.2.2.2.1 d.2.2.2.2.2
  have e1 := d2_spell k.2.1 k.2.2
  have e2 := d2_spell d.1 d.2.1
  have e3 := d2_spell d.2.2.1 d.2.2.2.1
  have e4 := d2_spell d.2.2.2.2.1 d.2.2.2.2.2
  constructor
  · simp only [timeOk, Bool.and_eq_true, decide_eq_true_eq] at t
    simp only [hokV, L_bs, List.all_cons, List.all_nil, k.1.1, k.1.2.1, k.1.2.2.1, k.1.2.2.2, c, size_bs, List.length_cons, List.length_nil, Bool.and_self, g1.1, g1.2, g3.1, g4.1, t.1, t.2.1, t.2.2.1, t.2.2.2, hm, decide_true]
  · unfold htV
    rw [e1, e2, e3, e4]
    simp only [L_append, L_bs, L_if, List.append_assoc, List.cons_append, List.nil_append]
theorem line_text {s p0 p1 p2 m : ByteArray} (h : pieces s (bs [32]) = [p0, p1, p2] ∧ m = bs [] ∨ pieces s (bs [32]) = [p0, p1, p2, m] ∧ m ≠ bs []) : L s = L p0 ++ 32 :: (L p1 ++ 32 :: (L p2 ++ (if m = bs [] then [] else 32 :: L m))) := by
  rcases h with ⟨h, rfl⟩ | ⟨h, hm⟩
  · rw [line_of h, if_pos rfl]; simp [joinL]
  · rw [line_of h, if_neg hm]; simp [joinL]
end Go.Proofs.YtmcmkdiefpepnaaDoor.HD

namespace Go.Proofs.YtmcmkdiefpepnaaDoor.HD
open Go Go.Eng Go.Proofs.YtmcmkdiefpepnaaDoor.DT Go.Proofs.YtmcmkdiefpepnaaDoor.EX Go.Proofs.YtmcmkdiefpepnaaDoor.RH Go.Proofs.YtmcmkdiefpepnaaDoor.DR
theorem size_bytesOf (xs : List Int) : (bytesOf xs).size = xs.length := by simp [bytesOf, ByteArray.size]
theorem mark_good {l : List Int} {p : Int} (h : Rdr l p) : Answ (fun y => Rdr y.2.1 y.2.2 ∧ y.1.size ≤ 3) (spec_l1Rd_mark l p) := by
  unfold spec_l1Rd_mark
  refine good_bind (below_good 26 (by omega) h) fun a ha => ?_
  refine good_bind (below_good 8 (by omega) ha.1) fun b hb => ?_
  refine good_bif (fun _ => good_some ⟨hb.1, show (bs []).size ≤ 3 by decide⟩) fun _ => ?_
  refine good_bif (fun _ => good_some ⟨hb.1, show (bs []).size ≤ 3 by decide⟩) fun _ => ?_
  refine good_bif (fun _ => good_some ⟨hb.1, show (bs []).size ≤ 3 by decide⟩) fun _ => ?_
  refine good_bif (fun _ => good_some ⟨hb.1, by simp [ByteArray.size_append, size_bytesOf, size_bs]⟩) fun _ => ?_
  refine good_bif (fun _ => good_some ⟨hb.1, by simp [ByteArray.size_append, size_bytesOf, size_bs]⟩) fun _ => ?_
  refine good_bif (fun _ => good_some ⟨hb.1, by simp [ByteArray.size_append, size_bytesOf, size_bs]⟩) fun _ => ?_
  refine good_bif (fun _ => good_bind (below_good 26 (by omega) hb.1) fun c hc => good_some ⟨hc.1, by simp [ByteArray.size_append, size_bytesOf, size_bs]⟩) fun _ => ?_
  refine good_bind (below_good 5 (by omega) hb.1) fun c hc => ?_
  have h1 := hc.2.2.2.1 (by omega)
  refine good_chk (chk_le hc.2.1) (good_chk (chk_lt (by simpa using h1)) (good_chk (chk_lt (by simpa using h1)) (good_some ⟨hc.1, ?_⟩)))
  have hm := rd_in (k := .str) (xs := [bs [82, 82, 88], bs [67, 67, 88], bs [80, 90, 90], bs [80, 65, 65], bs [65, 65, 88]]) hc.2.1 (by simpa using h1)
  have all : ∀ x ∈ [bs [82, 82, 88], bs [67, 67, 88], bs [80, 90, 90], bs [80, 65, 65], bs [65, 65, 88]], x.size ≤ 3 := by simp [size_bs]
  exact all _ hm
structure Small (a b : ByteArray) (n : Int) (c : ByteArray) (d h m : Int) (k : ByteArray) : Prop where
  a : a.size ≤ 3
  b : b.size ≤ 3
  k : k.size ≤ 3
theorem kinds_ok : ∀ x ∈ [bs [83, 77], bs [83, 73], bs [85, 83], bs [70, 84], bs [87, 87]], ((L x).all isUp && decide (x.size = 2)) = true := by decide
theorem areas_ok : ∀ x ∈ [bs [68, 76], bs [78, 79], bs [88, 88]], ((L x).all isUp && decide (x.size = 2)) = true := by decide
theorem centres_ok : ∀ x ∈ [bs [65, 77, 77, 67], bs [69, 78, 77, 73], bs [75, 49, 65, 65]], centreV x = true := by decide
theorem heading_good {l : List Int} {p : Int} (h : Rdr l p) : Answ (fun y => Rdr y.2.2.2.2.2.2.2.2.1 y.2.2.2.2.2.2.2.2.2 ∧ hokV y.1 y.2.1 y.2.2.1 y.2.2.2.1 y.2.2.2.2.1 y.2.2.2.2.2.1 y.2.2.2.2.2.2.1 y.2.2.2.2.2.2.2.1 = true ∧ y.2.2.2.2.2.2.2.1.size ≤ 3) (spec_l1Rd_heading l p) := by
  unfold spec_l1Rd_heading
  refine good_bind (below_good 5 (by omega) h) fun v0 h0 => ?_
  have q0 := h0.2.2.2.1 (by omega)
  refine good_chk (chk_le h0.2.1) (good_chk (chk_lt (by simpa using q0)) (good_chk (chk_lt (by simpa using q0)) ?_))
  refine good_bind (below_good 3 (by omega) h0.1) fun v1 h1 => ?_
  have q1 := h1.2.2.2.1 (by omega)
  refine good_chk (chk_le h1.2.1) (good_chk (chk_lt (by simpa using q1)) (good_chk (chk_lt (by simpa using q1)) ?_))
  refine good_bind (below_good 100 (by omega) h1.1) fun v2 h2 => ?_
  have q2 := h2.2.2.2.1 (by omega)
  refine good_bind (below_good 3 (by omega) h2.1) fun v3 h3 => ?_
  have q3 := h3.2.2.2.1 (by omega)
  refine good_chk (chk_le h3.2.1) (good_chk (chk_lt (by simpa using q3)) (good_chk (chk_lt (by simpa using q3)) ?_))
  refine good_bind (below_good 31 (by omega) h3.1) fun v4 h4 => ?_
  have q4 := h4.2.2.2.1 (by omega)
  refine good_bind (below_good 24 (by omega) h4.1) fun v5 h5 => ?_
  have q5 := h5.2.2.2.1 (by omega)
  refine good_bind (below_good 60 (by omega) h5.1) fun v6 h6 => ?_
  have q6 := h6.2.2.2.1 (by omega)
  refine good_bind (mark_good h6.1) fun v7 h7 => ?_
  obtain ⟨x, hx⟩ := spec_mark v7.1 (by omega)
  rw [hx, Option.bind_some]
  have m0 := kinds_ok _ (rd_in (k := .str) (xs := [bs [83, 77], bs [83, 73], bs [85, 83], bs [70, 84], bs [87, 87]]) h0.2.1 (by simpa using q0))
  have m1 := areas_ok _ (rd_in (k := .str) (xs := [bs [68, 76], bs [78, 79], bs [88, 88]]) h1.2.1 (by simpa using q1))
  have m3 := centres_ok _ (rd_in (k := .str) (xs := [bs [65, 77, 77, 67], bs [69, 78, 77, 73], bs [75, 49, 65, 65]]) h3.2.1 (by simpa using q3))
  have hw : IntKind.i64.wrap (1 + v4.1) = 1 + v4.1 := w64 (by omega) (by omega)
  have gen : ∀ k : ByteArray, 0 ≤ mk k → hokV (rd Kind.str [bs [83, 77], bs [83, 73], bs [85, 83], bs [70, 84], bs [87, 87]] v0.fst) (rd Kind.str [bs [68, 76], bs [78, 79], bs [88, 88]] v1.fst) v2.1 (rd Kind.str [bs [65, 77, 77, 67], bs [69, 78, 77, 73], bs [75, 49, 65, 65]] v3.fst) (IntKind.i64.wrap (1 + v4.1)) v5.1 v6.1 k = true := fun k hk => by
    unfold hokV
    rw [m0, m1, m3, hw]
    simp only [Bool.true_and, Bool.and_eq_true, decide_eq_true_eq]
    omega
  refine good_bif (fun hc => good_some ⟨h7.1, gen (bs [67, 67, 65]) (by decide), show (bs [67, 67, 65]).size ≤ 3 by decide⟩) fun hc => good_some ⟨h7.1, gen _ ?_, h7.2⟩
  simp only [decide_eq_false_iff_not] at hc
  show 0 ≤ mk v7.1
  omega
theorem small_of {a b : ByteArray} {n : Int} {c : ByteArray} {d h m : Int} {k : ByteArray} (hh : hokV a b n c d h m k = true) (hk : k.size ≤ 3) : Small a b n c d h m k := by
  obtain ⟨⟨_, sa⟩, ⟨_, sb⟩, _⟩ := hok_parts hh
  exact ⟨by omega, by omega, hk⟩
theorem drawHeading_good {l : List Int} (hl : l.length ≤ 1048576) (hb : ∀ x ∈ l, 0 ≤ x ∧ x ≤ 255) : Answ (fun y => Small y.1 y.2.1 y.2.2.1 y.2.2.2.1 y.2.2.2.2.1 y.2.2.2.2.2.1 y.2.2.2.2.2.2.1 y.2.2.2.2.2.2.2) (spec_DrawHeadingText l) := by
  unfold spec_DrawHeadingText
  refine good_bind (open_good hl hb) fun s hs => ?_
  refine good_bind (heading_good hs) fun v hv => ?_
  have sm := small_of hv.2.1 hv.2.2
  refine good_bind (below_good 16 (by omega) hv.1) fun w hw => ?_
  refine good_bif (fun _ => ?_) fun _ => ?_
  · refine good_bind (below_good 4 (by omega) hw.1) fun u hu => ?_
    have q := hu.2.2.2.1 (by omega)
    refine good_chk (chk_le hu.2.1) (good_chk (chk_lt (by simpa using q)) (good_chk (chk_lt (by simpa using q)) (good_some ⟨?_, sm.b, sm.k⟩)))
    have all : ∀ x ∈ [bs [83], bs [83, 77, 77], bs [115, 109], bs []], x.size ≤ 3 := by decide
    exact all _ (rd_in (k := .str) (xs := [bs [83], bs [83, 77, 77], bs [115, 109], bs []]) hu.2.1 (by simpa using q))
  refine good_bif (fun _ => good_some ⟨sm.a, by simp [size_bs], sm.k⟩) fun _ => ?_
  refine good_bif (fun _ => ?_) fun _ => ?_
  · refine good_bind (below_good 3 (by omega) hw.1) fun u hu => ?_
    have q := hu.2.2.2.1 (by omega)
    exact good_chk (chk_le hu.2.1) (good_chk (chk_lt (by simpa using q)) (good_chk (chk_lt (by simpa using q)) (good_some ⟨sm.a, sm.b, sm.k⟩)))
  refine good_bif (fun _ => ?_) fun _ => ?_
  · refine good_bind (below_good 3 (by omega) hw.1) fun u hu => ?_
    have q := hu.2.2.2.1 (by omega)
    exact good_chk (chk_le hu.2.1) (good_chk (chk_lt (by simpa using q)) (good_chk (chk_lt (by simpa using q)) (good_some ⟨sm.a, sm.b, sm.k⟩)))
  refine good_bif (fun _ => ?_) fun _ => ?_
  · refine good_bind (below_good 2 (by omega) hw.1) fun u hu => ?_
    have q := hu.2.2.2.1 (by omega)
    exact good_chk (chk_le hu.2.1) (good_chk (chk_lt (by simpa using q)) (good_chk (chk_lt (by simpa using q)) (good_some ⟨sm.a, sm.b, sm.k⟩)))
  refine good_bif (fun _ => good_some ⟨sm.a, sm.b, sm.k⟩) fun _ => ?_
  refine good_bif (fun _ => ?_) fun _ => good_some ⟨sm.a, sm.b, sm.k⟩
  refine good_bind (below_good 3 (by omega) hw.1) fun u hu => ?_
  have q := hu.2.2.2.1 (by omega)
  refine good_chk (chk_le hu.2.1) (good_chk (chk_lt (by simpa using q)) (good_chk (chk_lt (by simpa using q)) (good_some ⟨sm.a, sm.b, ?_⟩)))
  have all : ∀ x ∈ [bs [82, 82, 89], bs [88], bs [80, 65, 49]], x.size ≤ 3 := by decide
  exact all _ (rd_in (k := .str) (xs := [bs [82, 82, 89], bs [88], bs [80, 65, 49]]) hu.2.1 (by simpa using q))
theorem htV_size {a b : ByteArray} {n : Int} {c : ByteArray} {d h m : Int} {k : ByteArray} (hh : hokV a b n c d h m k = true) (hk : k.size ≤ 3) : 18 ≤ (htV a b n.toNat c d.toNat h.toNat m.toNat k).size ∧ (htV a b n.toNat c d.toNat h.toNat m.toNat k).size ≤ 22 := by
  obtain ⟨⟨_, sa⟩, ⟨_, sb⟩, _, hc, _⟩ := hok_parts hh
  have sc := centre_size hc
  unfold htV
  split <;> simp only [ByteArray.size_append, d2_size, sa, sb, sc, show (bs [32]).size = 1 from rfl, show (bs []).size = 0 from rfl] <;> omega
theorem drawRead_good {l : List Int} (hl : l.length ≤ 1048576) (hb : ∀ x ∈ l, 0 ≤ x ∧ x ≤ 255) : Answ (fun y => y.size ≤ 1000) (spec_DrawReadHeading l) := by
  unfold spec_DrawReadHeading
  refine good_bind (open_good hl hb) fun s hs => ?_
  refine good_bind (heading_good hs) fun v hv => ?_
  have sm := small_of hv.2.1 hv.2.2
  rw [text_spec (by have := sm.a; omega) (by have := sm.b; omega) (by have := sm.k; omega), hv.2.1, if_pos rfl, Option.bind_some]
  dsimp only
  have hz := htV_size hv.2.1 hv.2.2
  generalize htV v.1 v.2.1 v.2.2.1.toNat v.2.2.2.1 v.2.2.2.2.1.toNat v.2.2.2.2.2.1.toNat v.2.2.2.2.2.2.1.toNat v.2.2.2.2.2.2.2.1 = t at hz ⊢
  have tail : ∀ (l : List Int) (p : Int) (r : ByteArray), Rdr l p → r.size ≤ 1000 → Answ (fun y : ByteArray => y.size ≤ 1000) ((spec_l1Rd_once 12 l p).bind fun val => bif val.fst then (spec_l1Rd_below 7 val.snd.fst val.snd.snd).bind fun val => bif decide (0 ≤ val.fst) then bif decide (val.fst < (([bs [], bs [32], bs [32, 32], bs [97, 32, 98, 32, 99], bs [83, 77, 68, 76, 48, 49, 32, 65, 77, 77, 67], bs [83, 77, 68, 76, 48, 49, 32, 65, 77, 77, 67, 32, 48, 49, 48, 48, 48, 48, 32, 82, 82, 65, 32, 88], bs [83, 77, 68, 76, 48, 49, 32, 65, 77, 77, 67, 32, 48, 49, 48, 48, 48, 48, 32]].length : Nat) : Int)) then bif decide (val.fst < (([bs [], bs [32], bs [32, 32], bs [97, 32, 98, 32, 99], bs [83, 77, 68, 76, 48, 49, 32, 65, 77, 77, 67], bs [83, 77, 68, 76, 48, 49, 32, 65, 77, 77, 67, 32, 48, 49, 48, 48, 48, 48, 32, 82, 82, 65, 32, 88], bs [83, 77, 68, 76, 48, 49, 32, 65, 77, 77, 67, 32, 48, 49, 48, 48, 48, 48, 32]].length : Nat) : Int)) then some (rd Kind.str [bs [], bs [32], bs [32, 32], bs [97, 32, 98, 32, 99], bs [83, 77, 68, 76, 48, 49, 32, 65, 77, 77, 67], bs [83, 77, 68, 76, 48, 49, 32, 65, 77, 77, 67, 32, 48, 49, 48, 48, 48, 48, 32, 82, 82, 65, 32, 88], bs [83, 77, 68, 76, 48, 49, 32, 65, 77, 77, 67, 32, 48, 49, 48, 48, 48, 48, 32]] val.fst) else none else none else none else some r) := fun l p r hS hr => by
    refine good_bind (once_good 12 (by omega) hS) fun a ha => ?_
    refine good_bif (fun _ => ?_) fun _ => good_some hr
    refine good_bind (below_good 7 (by omega) ha) fun u hu => ?_
    have q := hu.2.2.2.1 (by omega)
    refine good_chk (chk_le hu.2.1) (good_chk (chk_lt (by simpa using q)) (good_chk (chk_lt (by simpa using q)) (good_some ?_)))
    have all : ∀ x ∈ [bs [], bs [32], bs [32, 32], bs [97, 32, 98, 32, 99], bs [83, 77, 68, 76, 48, 49, 32, 65, 77, 77, 67], bs [83, 77, 68, 76, 48, 49, 32, 65, 77, 77, 67, 32, 48, 49, 48, 48, 48, 48, 32, 82, 82, 65, 32, 88], bs [83, 77, 68, 76, 48, 49, 32, 65, 77, 77, 67, 32, 48, 49, 48, 48, 48, 48, 32]], x.size ≤ 1000 := by decide
    exact all _ (rd_in (k := .str) hu.2.1 (by simpa using q))
  refine good_bind (once_good 2 (by omega) hv.1) fun a ha => ?_
  refine good_bif (fun _ => ?_) fun _ => tail _ _ _ ha (by omega)
  refine good_bind (below_good _ (by omega) ha) fun u hu => ?_
  have q := hu.2.2.2.1 (by omega)
  refine good_chk (chk_and (chk_le hu.2.1) (chk_le (by omega))) ?_
  refine good_bind (below_good 7 (by omega) hu.1) fun w hw => ?_
  have q2 := hw.2.2.2.1 (by omega)
  have all : ∀ x ∈ [bs [], bs [32], bs [32, 32], bs [48], bs [65], bs [57], bs [45]], x.size ≤ 2 := by decide
  have hx := all _ (rd_in (k := .str) (xs := [bs [], bs [32], bs [32, 32], bs [48], bs [65], bs [57], bs [45]]) hw.2.1 (by simpa using q2))
  have hx1 : (t.extract (Int.toNat 0) u.1.toNat).size ≤ 22 := by rw [size_extract]; omega
  refine good_chk (chk_le hw.2.1) (good_chk (chk_lt (by simpa using q2)) (good_chk (chk_lt (by simpa using q2)) (good_chk (decide_eq_true (by omega)) ?_)))
  refine good_bind (below_good 2 (by omega) hw.1) fun z hz2 => ?_
  have q3 := hz2.2.2.2.1 (by omega)
  have e := w64 (n := u.1 + z.1) (by omega) (by omega)
  have hx2 : ∀ i : Nat, (t.extract i (t.size : Int).toNat).size ≤ 22 := fun i => by rw [size_extract]; omega
  refine good_chk (chk_and (chk_le (by rw [e]; omega)) (chk_le (by rw [e]; omega))) (good_chk (decide_eq_true ?_) ?_)
  · have := hx2 (IntKind.i64.wrap (u.1 + z.1)).toNat
    rw [ByteArray.size_append]; omega
  · refine tail _ _ _ hz2.1 ?_
    have := hx2 (IntKind.i64.wrap (u.1 + z.1)).toNat
    rw [ByteArray.size_append, ByteArray.size_append]; omega
end Go.Proofs.YtmcmkdiefpepnaaDoor.HD

namespace Go.Proofs.YtmcmkdiefpepnaaDoor.HD
open Go Go.Eng Go.Proofs.YtmcmkdiefpepnaaDoor.DT Go.Proofs.YtmcmkdiefpepnaaDoor.EX Go.Proofs.YtmcmkdiefpepnaaDoor.RH Go.Proofs.YtmcmkdiefpepnaaDoor.DR
theorem second (s : ByteArray) (hs : s.size ≤ 1000) :
    ((spec_ReadHeading s).bind fun val_4 => (impl_ReadHeading s).bind fun val_5 => bif val_5.snd.snd.snd.snd.snd.snd.snd.snd != val_4.snd.snd.snd.snd.snd.snd.snd.snd then some false else bif val_5.snd.snd.snd.snd.snd.snd.snd.snd != 0 then some (val_5.fst.toList == (bs []).toList && (val_5.snd.fst.toList == (bs []).toList && (val_5.snd.snd.fst == 0 && (val_5.snd.snd.snd.fst.toList == (bs []).toList && (val_5.snd.snd.snd.snd.fst == 0 && (val_5.snd.snd.snd.snd.snd.fst == 0 && (val_5.snd.snd.snd.snd.snd.snd.fst == 0 && val_5.snd.snd.snd.snd.snd.snd.snd.fst.toList == (bs []).toList))))))) else (impl_HeadingText val_5.fst val_5.snd.fst val_5.snd.snd.fst val_5.snd.snd.snd.fst val_5.snd.snd.snd.snd.fst val_5.snd.snd.snd.snd.snd.fst val_5.snd.snd.snd.snd.snd.snd.fst val_5.snd.snd.snd.snd.snd.snd.snd.fst).bind fun val_6 => bif val_6.snd then some (val_6.fst.toList == ByteArray.toList s) else some false) = some true := by
  simp only [spec_ReadHeading_eq (s := s) (by omega), impl_ReadHeading_eq (s := s) (by omega), Option.bind_some, bneI, decide_true, Bool.not_true, cond_false]
  rcases readV_cases (pieces s (bs [32])) with ⟨c, hc, e⟩ | ⟨p0, p1, p2, m, hp, e, f⟩
  · rw [e]
    simp [no, hc]
  · rw [e]
    obtain ⟨h1, h2⟩ := text_read f
    have hl := line_text hp
    have hm : m.size ≤ 1000 := by
      rcases hp with ⟨_, rfl⟩ | ⟨hp, _⟩
      · decide
      · have := pieces_size (s := s) (p := m) (by rw [hp]; simp)
        omega
    obtain ⟨⟨_, sa⟩, ⟨_, sb⟩, _⟩ := hok_parts h1
    have ht := text_impl (n := sp p0 4 6) (c := p1) (d := sp p2 0 2) (h := sp p2 2 4) (m := sp p2 4 6) (a := p0.extract 0 2) (b := p0.extract 2 4) (k := m) (by omega) (by omega) hm
    rw [h1, if_pos rfl] at ht
    simp only [okv, decide_true, Bool.not_true, cond_false, ht, Option.bind_some, cond_true, beq_bytes]
    have : htV (p0.extract 0 2) (p0.extract 2 4) (sp p0 4 6).toNat p1 (sp p2 0 2).toNat (sp p2 2 4).toNat (sp p2 4 6).toNat m = s := L_inj (h2.trans hl.symm)
    rw [this]; simp
theorem law (x y : List Int) (hx : ∀ c ∈ x, 0 ≤ c ∧ c ≤ 255) (hy : ∀ c ∈ y, 0 ≤ c ∧ c ≤ 255) : laws_FnHeadings x y = some true := by
  unfold laws_FnHeadings laws_big
  simp only [Option.bind_some]
  by_cases h1 : (x.length : Int) > 1048576
  · simp only [h1, decide_true, cond_true]
  by_cases h2 : (y.length : Int) > 1048576
  · simp only [h1, h2, decide_true, decide_false, cond_true, cond_false]
  obtain ⟨⟨a, b, n, c, d, h, m, k⟩, e, sm⟩ := drawHeading_good (l := x) (by omega) hx
  obtain ⟨s, e2, hs⟩ := drawRead_good (l := y) (by omega) hy
  obtain ⟨sa, sb, sk⟩ := sm
  simp only at sa sb sk
  have second' := second s hs
  simp only [h1, h2, decide_false, cond_false, e, e2, Option.bind_some, text_spec (n := n) (c := c) (d := d) (h := h) (m := m) (show a.size ≤ 1000 by omega) (show b.size ≤ 1000 by omega) (show k.size ≤ 1000 by omega), text_impl (n := n) (c := c) (d := d) (h := h) (m := m) (show a.size ≤ 1000 by omega) (show b.size ≤ 1000 by omega) (show k.size ≤ 1000 by omega), second']
  cases hh : hokV a b n c d h m k with
  | false => simp
  | true =>
    have hz := htV_size hh sk
    simp only [if_true, impl_ReadHeading_eq (s := htV a b n.toNat c d.toNat h.toNat m.toNat k) (by omega), read_text hh, Option.bind_some, bneI, beqI, beq_bytes, decide_true, Bool.not_true, cond_false, cond_true, Bool.and_self, beq_self_eq_true]
theorem pure (z0 : denKs [.sl (.int .u8)]) (z1 : denKs [.sl (.int .u8)]) (h0 : wfKs [.sl (.int .u8)] z0) (h1 : wfKs [.sl (.int .u8)] z1) :
    g_laws_FnHeadings.fn ((z0.1, z1.1, ()), ()) = some true := by
  obtain ⟨w0, _⟩ := h0
  obtain ⟨w1, _⟩ := h1
  exact law z0.1 z1.1 (fun x hx => wf_u8.1 ((wf_sl.1 w0).2 x hx)) (fun x hx => wf_u8.1 ((wf_sl.1 w1).2 x hx))
end Go.Proofs.YtmcmkdiefpepnaaDoor.HD
