-- By xprint.py, a driver of ours round the kit's printer, out of the translation; Lean checks it.
import Derived.Test.YtmcmkdiefpepnaaDoorXSK0
import Derived.Test.YtmcmkdiefpepnaaDoorXSK4
import Derived.Test.YtmcmkdiefpepnaaDoorXSK5
import Derived.Test.YtmcmkdiefpepnaaDoorXSK6
namespace Go.Proofs.YtmcmkdiefpepnaaDoor.XSK
open Go.Proofs.YtmcmkdiefpepnaaDoor.Ext
open Go.RowKit Go.Proofs.YtmcmkdiefpepnaaDoorW.PrintWords Go.Proofs.YtmcmkdiefpepnaaDoorW.PrintLast Go.Proofs.YtmcmkdiefpepnaaDoorW.PrintMore
attribute [local go_sem] max2_int min2_int max_two min_two max_three min_three max_four min_four   -- for this text's walks alone
set_option linter.unusedVariables false
set_option linter.unusedSimpArgs false

/-! ### impl_SkyText: function 33 -/
mutual
def impl_SkyText.j0 : Nat → List ByteArray → Int → Int → Int → ByteArray → ByteArray → Int → Bool → Bool → Bool → Bool → Option (ByteArray)
  | 0, _, _, _, _, _, _, _, _, _, _, _ => none
  | k + 1, x4, x172000, x172001, x172002, x172003, x172004, x172005, x178000, x178001, x178002, x178003 => if x178001 = true then ((impl_fill.f x172002 4).bind fun t190 => (if x4.length < 8796093022208 then (impl_SkyText.j1 k (x4 ++ [t190]) x172000 x172001 x172002 x172003 x172004 x172005 x178000 x178001 x178002 x178003) else (none))) else (impl_SkyText.j1 k x4 x172000 x172001 x172002 x172003 x172004 x172005 x178000 x178001 x178002 x178003)
def impl_SkyText.j1 : Nat → List ByteArray → Int → Int → Int → ByteArray → ByteArray → Int → Bool → Bool → Bool → Bool → Option (ByteArray)
  | 0, _, _, _, _, _, _, _, _, _, _, _ => none
  | k + 1, x4, x172000, x172001, x172002, x172003, x172004, x172005, x178000, x178001, x178002, x178003 => if x178002 = true then (if x4.length < 8796093022208 then (impl_SkyText.j2 k (x4 ++ [x172003]) x172000 x172001 x172002 x172003 x172004 x172005 x178000 x178001 x178002 x178003) else (none)) else (impl_SkyText.j2 k x4 x172000 x172001 x172002 x172003 x172004 x172005 x178000 x178001 x178002 x178003)
def impl_SkyText.j2 : Nat → List ByteArray → Int → Int → Int → ByteArray → ByteArray → Int → Bool → Bool → Bool → Bool → Option (ByteArray)
  | 0, _, _, _, _, _, _, _, _, _, _, _ => none
  | k + 1, x4, x172000, x172001, x172002, x172003, x172004, x172005, x178000, x178001, x178002, x178003 => if x172004.toList = ([83, 75, 67] : List UInt8) then (if x4.length < 8796093022208 then ((strings_Join.f (x4 ++ [(⟨#[83, 75, 67]⟩ : ByteArray)]) (⟨#[32]⟩ : ByteArray)).bind fun t200 => (some t200)) else (none)) else (if x178003 = true then ((impl_fill.f x172005 3).bind fun t201 => (if x172004.size + t201.size ≤ 9223372036854775807 then (if x4.length < 8796093022208 then ((strings_Join.f (x4 ++ [x172004 ++ t201]) (⟨#[32]⟩ : ByteArray)).bind fun t205 => (some t205)) else (none)) else (none))) else ((strings_Join.f x4 (⟨#[32]⟩ : ByteArray)).bind fun t206 => (some t206)))
end
def impl_SkyText.f (k : Nat) (a0_0 : Int) (a0_1 : Int) (a0_2 : Int) (a0_3 : ByteArray) (a0_4 : ByteArray) (a0_5 : Int) : Option (ByteArray) := (impl_SkyOk.f k a0_0 a0_1 a0_2 a0_3 a0_4 a0_5).bind fun t172 => (if t172 = true then ((impl_said.f a0_0 a0_1 a0_2 a0_3 a0_4 a0_5).bind fun bt173 => ((some (([] : List ByteArray) : List ByteArray)).bind fun y178 => (if bt173.1 = true then ((impl_fill.f (wrap64 (10 * a0_0)) 3).bind fun t181 => (if a0_0 = 99 then ((impl_fill.f a0_1 2).bind fun t182 => (if 3 + t182.size ≤ 9223372036854775807 then (if ((⟨#[86, 82, 66]⟩ : ByteArray) ++ t182).size + 2 ≤ 9223372036854775807 then (if y178.length < 8796093022208 then (impl_SkyText.j0 k (y178 ++ [((⟨#[86, 82, 66]⟩ : ByteArray) ++ t182) ++ (⟨#[75, 84]⟩ : ByteArray)]) a0_0 a0_1 a0_2 a0_3 a0_4 a0_5 bt173.1 bt173.2.1 bt173.2.2.1 bt173.2.2.2) else (none)) else (none)) else (none))) else ((impl_fill.f a0_1 2).bind fun t186 => (if t181.size + t186.size ≤ 9223372036854775807 then (if (t181 ++ t186).size + 2 ≤ 9223372036854775807 then (if y178.length < 8796093022208 then (impl_SkyText.j0 k (y178 ++ [(t181 ++ t186) ++ (⟨#[75, 84]⟩ : ByteArray)]) a0_0 a0_1 a0_2 a0_3 a0_4 a0_5 bt173.1 bt173.2.1 bt173.2.2.1 bt173.2.2.2) else (none)) else (none)) else (none))))) else (impl_SkyText.j0 k y178 a0_0 a0_1 a0_2 a0_3 a0_4 a0_5 bt173.1 bt173.2.1 bt173.2.2.1 bt173.2.2.2)))) else (some (⟨#[]⟩ : ByteArray)))
theorem impl_SkyText.mono_l : ∀ k, (∀ y0 y1 y2 y3 y4 y5 y6 y7 y8 y9 y10, LeO (impl_SkyText.j0 k y0 y1 y2 y3 y4 y5 y6 y7 y8 y9 y10) (impl_SkyText.j0 (k + 1) y0 y1 y2 y3 y4 y5 y6 y7 y8 y9 y10)) ∧ (∀ y0 y1 y2 y3 y4 y5 y6 y7 y8 y9 y10, LeO (impl_SkyText.j1 k y0 y1 y2 y3 y4 y5 y6 y7 y8 y9 y10) (impl_SkyText.j1 (k + 1) y0 y1 y2 y3 y4 y5 y6 y7 y8 y9 y10)) ∧ (∀ y0 y1 y2 y3 y4 y5 y6 y7 y8 y9 y10, LeO (impl_SkyText.j2 k y0 y1 y2 y3 y4 y5 y6 y7 y8 y9 y10) (impl_SkyText.j2 (k + 1) y0 y1 y2 y3 y4 y5 y6 y7 y8 y9 y10))
  | 0 => ⟨fun _ _ _ _ _ _ _ _ _ _ _ r h => by simp [impl_SkyText.j0] at h, fun _ _ _ _ _ _ _ _ _ _ _ r h => by simp [impl_SkyText.j1] at h, fun _ _ _ _ _ _ _ _ _ _ _ r h => by simp [impl_SkyText.j2] at h⟩
  | k + 1 => by
    obtain ⟨ih0, ih1, ih2⟩ := impl_SkyText.mono_l k
    refine ⟨?_, ?_, ?_⟩
    · intro y0 y1 y2 y3 y4 y5 y6 y7 y8 y9 y10
      unfold impl_SkyText.j0
      repeat' first
      | (with_reducible exact ih0 _ _ _ _ _ _ _ _ _ _ _)
      | (with_reducible exact ih1 _ _ _ _ _ _ _ _ _ _ _)
      | (with_reducible exact ih2 _ _ _ _ _ _ _ _ _ _ _)
      | (with_reducible exact impl_SkyOk.mono _ _ _ _ _ _ _)
      | (with_reducible exact LeO.refl _)
      | (with_reducible exact LeO.none _)
      | (with_reducible refine LeO.ite ?_ ?_)
      | (with_reducible refine LeO.bind ?_ (fun _ => ?_))
      | exact ih0 _ _ _ _ _ _ _ _ _ _ _
      | exact ih1 _ _ _ _ _ _ _ _ _ _ _
      | exact ih2 _ _ _ _ _ _ _ _ _ _ _
      | exact impl_SkyOk.mono _ _ _ _ _ _ _
      | exact LeO.none _
      | refine LeO.ite ?_ ?_
      | refine LeO.bind ?_ (fun _ => ?_)
    · intro y0 y1 y2 y3 y4 y5 y6 y7 y8 y9 y10
      unfold impl_SkyText.j1
      repeat' first
      | (with_reducible exact ih0 _ _ _ _ _ _ _ _ _ _ _)
      | (with_reducible exact ih1 _ _ _ _ _ _ _ _ _ _ _)
      | (with_reducible exact ih2 _ _ _ _ _ _ _ _ _ _ _)
      | (with_reducible exact impl_SkyOk.mono _ _ _ _ _ _ _)
      | (with_reducible exact LeO.refl _)
      | (with_reducible exact LeO.none _)
      | (with_reducible refine LeO.ite ?_ ?_)
      | (with_reducible refine LeO.bind ?_ (fun _ => ?_))
      | exact ih0 _ _ _ _ _ _ _ _ _ _ _
      | exact ih1 _ _ _ _ _ _ _ _ _ _ _
      | exact ih2 _ _ _ _ _ _ _ _ _ _ _
      | exact impl_SkyOk.mono _ _ _ _ _ _ _
      | exact LeO.none _
      | refine LeO.ite ?_ ?_
      | refine LeO.bind ?_ (fun _ => ?_)
    · intro y0 y1 y2 y3 y4 y5 y6 y7 y8 y9 y10
      unfold impl_SkyText.j2
      repeat' first
      | (with_reducible exact ih0 _ _ _ _ _ _ _ _ _ _ _)
      | (with_reducible exact ih1 _ _ _ _ _ _ _ _ _ _ _)
      | (with_reducible exact ih2 _ _ _ _ _ _ _ _ _ _ _)
      | (with_reducible exact impl_SkyOk.mono _ _ _ _ _ _ _)
      | (with_reducible exact LeO.refl _)
      | (with_reducible exact LeO.none _)
      | (with_reducible refine LeO.ite ?_ ?_)
      | (with_reducible refine LeO.bind ?_ (fun _ => ?_))
      | exact ih0 _ _ _ _ _ _ _ _ _ _ _
      | exact ih1 _ _ _ _ _ _ _ _ _ _ _
      | exact ih2 _ _ _ _ _ _ _ _ _ _ _
      | exact impl_SkyOk.mono _ _ _ _ _ _ _
      | exact LeO.none _
      | refine LeO.ite ?_ ?_
      | refine LeO.bind ?_ (fun _ => ?_)
theorem impl_SkyText.mono : ∀ a0 a1 a2 a3 a4 a5 k, LeO (impl_SkyText.f k a0 a1 a2 a3 a4 a5) (impl_SkyText.f (k + 1) a0 a1 a2 a3 a4 a5) := by
  intro a0 a1 a2 a3 a4 a5 k
  obtain ⟨ih0, ih1, ih2⟩ := impl_SkyText.mono_l k
  unfold impl_SkyText.f
  repeat' first
      | (with_reducible exact ih0 _ _ _ _ _ _ _ _ _ _ _)
      | (with_reducible exact ih1 _ _ _ _ _ _ _ _ _ _ _)
      | (with_reducible exact ih2 _ _ _ _ _ _ _ _ _ _ _)
      | (with_reducible exact impl_SkyOk.mono _ _ _ _ _ _ _)
      | (with_reducible exact LeO.refl _)
      | (with_reducible exact LeO.none _)
      | (with_reducible refine LeO.ite ?_ ?_)
      | (with_reducible refine LeO.bind ?_ (fun _ => ?_))
      | exact ih0 _ _ _ _ _ _ _ _ _ _ _
      | exact ih1 _ _ _ _ _ _ _ _ _ _ _
      | exact ih2 _ _ _ _ _ _ _ _ _ _ _
      | exact impl_SkyOk.mono _ _ _ _ _ _ _
      | exact LeO.none _
      | refine LeO.ite ?_ ?_
      | refine LeO.bind ?_ (fun _ => ?_)
def impl_SkyText.T17 : Bool × List (List Nat × List Nat) := (true, [([], []), ([], []), ([1], [1]), ([], []), ([3], [3]), ([4], [4]), ([2, 5], [2, 5]), ([6], [6]), ([0, 7, 5], [0, 7]), ([8, 8, 0, 1, 2, 3, 4, 5, 6, 7, 8], [0, 8])])
def impl_SkyText.B17 : List Nat := [0, 0, 2, 0, 8, 24, 62, 126, 255, 511]
theorem impl_SkyText.tab17 : rtab .any (opsOf Tryd.f33 17) = impl_SkyText.T17 := by kernel_rfl
theorem impl_SkyText.bits17 : waitsOk impl_SkyText.T17.2 impl_SkyText.B17 = true := by kernel_rfl
set_option maxHeartbeats 8000000 in
set_option maxRecDepth 100000 in
theorem impl_SkyText.calls (k : Nat) (a0_0 : Int) (a0_1 : Int) (a0_2 : Int) (a0_3 : ByteArray) (a0_4 : ByteArray) (a0_5 : Int) (r : ByteArray) (w : World) (hGcov : Gcov w) (hGpow : Gpow w) (hGwea : Gwea w) (h : impl_SkyText.f k a0_0 a0_1 a0_2 a0_3 a0_4 a0_5 = some r) :
    Calls Tryd.prog 33 #[.agg #[.int .i64 a0_0, .int .i64 a0_1, .int .i64 a0_2, .string a0_3, .string a0_4, .int .i64 a0_5]] w fun e w' => e = .returned (.string r) ∧ Below w.heap.size w w' := by
  have hu30 := Tryd.underlying30
  have hu109 := Tryd.underlying109
  have HGcov := Aside0.mk hGcov
  clear hGcov
  have HGpow := Aside0.mk hGpow
  clear hGpow
  have HGwea := Aside0.mk hGwea
  clear hGwea
  have HB := Aside0.mk (Below.refl w.heap.size w)
  have H : ((impl_SkyOk.f k a0_0 a0_1 a0_2 a0_3 a0_4 a0_5).bind fun t172 => (if t172 = true then ((impl_said.f a0_0 a0_1 a0_2 a0_3 a0_4 a0_5).bind fun bt173 => ((some (([] : List ByteArray) : List ByteArray)).bind fun y178 => (if bt173.1 = true then ((impl_fill.f (wrap64 (10 * a0_0)) 3).bind fun t181 => (if a0_0 = 99 then ((impl_fill.f a0_1 2).bind fun t182 => (if 3 + t182.size ≤ 9223372036854775807 then (if ((⟨#[86, 82, 66]⟩ : ByteArray) ++ t182).size + 2 ≤ 9223372036854775807 then (if y178.length < 8796093022208 then (impl_SkyText.j0 k (y178 ++ [((⟨#[86, 82, 66]⟩ : ByteArray) ++ t182) ++ (⟨#[75, 84]⟩ : ByteArray)]) a0_0 a0_1 a0_2 a0_3 a0_4 a0_5 bt173.1 bt173.2.1 bt173.2.2.1 bt173.2.2.2) else (none)) else (none)) else (none))) else ((impl_fill.f a0_1 2).bind fun t186 => (if t181.size + t186.size ≤ 9223372036854775807 then (if (t181 ++ t186).size + 2 ≤ 9223372036854775807 then (if y178.length < 8796093022208 then (impl_SkyText.j0 k (y178 ++ [(t181 ++ t186) ++ (⟨#[75, 84]⟩ : ByteArray)]) a0_0 a0_1 a0_2 a0_3 a0_4 a0_5 bt173.1 bt173.2.1 bt173.2.2.1 bt173.2.2.2) else (none)) else (none)) else (none))))) else (impl_SkyText.j0 k y178 a0_0 a0_1 a0_2 a0_3 a0_4 a0_5 bt173.1 bt173.2.1 bt173.2.2.1 bt173.2.2.2)))) else (some (⟨#[]⟩ : ByteArray)))) = some r := h
  clear h
  replace H := Option.bind_eq_some_iff.mp H
  obtain ⟨t172, A20, H⟩ := H
  replace H : (if t172 = true then ((impl_said.f a0_0 a0_1 a0_2 a0_3 a0_4 a0_5).bind fun bt173 => ((some (([] : List ByteArray) : List ByteArray)).bind fun y178 => (if bt173.1 = true then ((impl_fill.f (wrap64 (10 * a0_0)) 3).bind fun t181 => (if a0_0 = 99 then ((impl_fill.f a0_1 2).bind fun t182 => (if 3 + t182.size ≤ 9223372036854775807 then (if ((⟨#[86, 82, 66]⟩ : ByteArray) ++ t182).size + 2 ≤ 9223372036854775807 then (if y178.length < 8796093022208 then (impl_SkyText.j0 k (y178 ++ [((⟨#[86, 82, 66]⟩ : ByteArray) ++ t182) ++ (⟨#[75, 84]⟩ : ByteArray)]) a0_0 a0_1 a0_2 a0_3 a0_4 a0_5 bt173.1 bt173.2.1 bt173.2.2.1 bt173.2.2.2) else (none)) else (none)) else (none))) else ((impl_fill.f a0_1 2).bind fun t186 => (if t181.size + t186.size ≤ 9223372036854775807 then (if (t181 ++ t186).size + 2 ≤ 9223372036854775807 then (if y178.length < 8796093022208 then (impl_SkyText.j0 k (y178 ++ [(t181 ++ t186) ++ (⟨#[75, 84]⟩ : ByteArray)]) a0_0 a0_1 a0_2 a0_3 a0_4 a0_5 bt173.1 bt173.2.1 bt173.2.2.1 bt173.2.2.2) else (none)) else (none)) else (none))))) else (impl_SkyText.j0 k y178 a0_0 a0_1 a0_2 a0_3 a0_4 a0_5 bt173.1 bt173.2.1 bt173.2.2.1 bt173.2.2.2)))) else (some (⟨#[]⟩ : ByteArray))) = some r := H
  have A2 := Aside0.mk A20
  clear A20
  by_cases c3 : t172 = true
  · subst c3
    have H1 : ((impl_said.f a0_0 a0_1 a0_2 a0_3 a0_4 a0_5).bind fun bt173 => ((some (([] : List ByteArray) : List ByteArray)).bind fun y178 => (if bt173.1 = true then ((impl_fill.f (wrap64 (10 * a0_0)) 3).bind fun t181 => (if a0_0 = 99 then ((impl_fill.f a0_1 2).bind fun t182 => (if 3 + t182.size ≤ 9223372036854775807 then (if ((⟨#[86, 82, 66]⟩ : ByteArray) ++ t182).size + 2 ≤ 9223372036854775807 then (if y178.length < 8796093022208 then (impl_SkyText.j0 k (y178 ++ [((⟨#[86, 82, 66]⟩ : ByteArray) ++ t182) ++ (⟨#[75, 84]⟩ : ByteArray)]) a0_0 a0_1 a0_2 a0_3 a0_4 a0_5 bt173.1 bt173.2.1 bt173.2.2.1 bt173.2.2.2) else (none)) else (none)) else (none))) else ((impl_fill.f a0_1 2).bind fun t186 => (if t181.size + t186.size ≤ 9223372036854775807 then (if (t181 ++ t186).size + 2 ≤ 9223372036854775807 then (if y178.length < 8796093022208 then (impl_SkyText.j0 k (y178 ++ [(t181 ++ t186) ++ (⟨#[75, 84]⟩ : ByteArray)]) a0_0 a0_1 a0_2 a0_3 a0_4 a0_5 bt173.1 bt173.2.1 bt173.2.2.1 bt173.2.2.2) else (none)) else (none)) else (none))))) else (impl_SkyText.j0 k y178 a0_0 a0_1 a0_2 a0_3 a0_4 a0_5 bt173.1 bt173.2.1 bt173.2.2.1 bt173.2.2.2)))) = some r := by rw [if_pos rfl] at H; exact H
    clear H
    have H := H1
    clear H1
    replace H := Option.bind_eq_some_iff.mp H
    obtain ⟨⟨t173, t174, t175, t176⟩, A40, H⟩ := H
    replace H : ((some (([] : List ByteArray) : List ByteArray)).bind fun y178 => (if t173 = true then ((impl_fill.f (wrap64 (10 * a0_0)) 3).bind fun t181 => (if a0_0 = 99 then ((impl_fill.f a0_1 2).bind fun t182 => (if 3 + t182.size ≤ 9223372036854775807 then (if ((⟨#[86, 82, 66]⟩ : ByteArray) ++ t182).size + 2 ≤ 9223372036854775807 then (if y178.length < 8796093022208 then (impl_SkyText.j0 k (y178 ++ [((⟨#[86, 82, 66]⟩ : ByteArray) ++ t182) ++ (⟨#[75, 84]⟩ : ByteArray)]) a0_0 a0_1 a0_2 a0_3 a0_4 a0_5 t173 t174 t175 t176) else (none)) else (none)) else (none))) else ((impl_fill.f a0_1 2).bind fun t186 => (if t181.size + t186.size ≤ 9223372036854775807 then (if (t181 ++ t186).size + 2 ≤ 9223372036854775807 then (if y178.length < 8796093022208 then (impl_SkyText.j0 k (y178 ++ [(t181 ++ t186) ++ (⟨#[75, 84]⟩ : ByteArray)]) a0_0 a0_1 a0_2 a0_3 a0_4 a0_5 t173 t174 t175 t176) else (none)) else (none)) else (none))))) else (impl_SkyText.j0 k y178 a0_0 a0_1 a0_2 a0_3 a0_4 a0_5 t173 t174 t175 t176))) = some r := H
    have A4 := Aside0.mk A40
    clear A40
    obtain ⟨y178, hy178⟩ : ∃ y_ : List ByteArray, y_ = (([] : List ByteArray)) := ⟨_, rfl⟩
    replace H : (if t173 = true then ((impl_fill.f (wrap64 (10 * a0_0)) 3).bind fun t181 => (if a0_0 = 99 then ((impl_fill.f a0_1 2).bind fun t182 => (if 3 + t182.size ≤ 9223372036854775807 then (if ((⟨#[86, 82, 66]⟩ : ByteArray) ++ t182).size + 2 ≤ 9223372036854775807 then (if y178.length < 8796093022208 then (impl_SkyText.j0 k (y178 ++ [((⟨#[86, 82, 66]⟩ : ByteArray) ++ t182) ++ (⟨#[75, 84]⟩ : ByteArray)]) a0_0 a0_1 a0_2 a0_3 a0_4 a0_5 t173 t174 t175 t176) else (none)) else (none)) else (none))) else ((impl_fill.f a0_1 2).bind fun t186 => (if t181.size + t186.size ≤ 9223372036854775807 then (if (t181 ++ t186).size + 2 ≤ 9223372036854775807 then (if y178.length < 8796093022208 then (impl_SkyText.j0 k (y178 ++ [(t181 ++ t186) ++ (⟨#[75, 84]⟩ : ByteArray)]) a0_0 a0_1 a0_2 a0_3 a0_4 a0_5 t173 t174 t175 t176) else (none)) else (none)) else (none))))) else (impl_SkyText.j0 k y178 a0_0 a0_1 a0_2 a0_3 a0_4 a0_5 t173 t174 t175 t176)) = some r := by first | (rw [hy178]; with_reducible exact H) | (have H2_ := (Option.bind_some _ _).symm.trans H; rw [hy178]; with_reducible exact H2_) | (have H2_ := (Option.bind_some _ _).symm.trans H; with_reducible exact H2_) | with_reducible exact H | (rw [hy178]; exact H) | exact H
    have Ny178 := Aside0.mk hy178
    clear hy178
    have HC5 := Aside0.mk H
    clear H
    go_enter Tryd.func33, Tryd.ntmps33
    go_upto_if 13 with (first | ((with_reducible refine gate_dst (N := 1) rfl ?_); refine box_event ?hg (N := 1) ?hd (cs := #[.int .i64 a0_0, .int .i64 a0_1, .int .i64 a0_2, .string a0_3, .string a0_4, .int .i64 a0_5]) (t := 30) ?hr ?_; (case hd => rfl); (case hg => rfl); (case hr => first | (go_simp; done) | (go_simp; rfl)); intro gb171 hg w6 hbox hb; have n0_ := Aside0.mk (below_step (by repeat (first | (with_reducible first | exact HB.out | apply below_alloc | apply pw_below_drewN | apply below_drew1) | exact HB.out)) hb); have n1_ := Aside0.mk (hbox); have n2_ := Aside0.mk ((by rw [hg]; exact (below_size (by repeat (first | (with_reducible first | exact HB.out | apply below_alloc | apply pw_below_drewN | apply below_drew1) | exact HB.out))) : w.heap.size ≤ gb171)); have n3_ := Aside0.mk ((by rw [hg]; exact (below_size (by repeat (first | (with_reducible first | exact HB.out | apply below_alloc | apply pw_below_drewN | apply below_drew1) | exact HB.out))) : w.heap.size ≤ gb171)); clear HB; have HB := n0_; have BK171 := n1_; have GW171 := n2_; have GE171 := n3_; clear n0_ n1_ n2_ n3_; clear hb hbox hg; have hcz7_0 : w6.cell? ⟨gb171, 0, none⟩ = some (.int .i64 a0_0) := (blk_cell BK171.out 0).trans rfl; have hcz7_1 : w6.cell? ⟨gb171, 1, none⟩ = some (.int .i64 a0_1) := (blk_cell BK171.out 1).trans rfl; have hcz7_2 : w6.cell? ⟨gb171, 2, none⟩ = some (.int .i64 a0_2) := (blk_cell BK171.out 2).trans rfl; have hcz7_3 : w6.cell? ⟨gb171, 3, none⟩ = some (.string a0_3) := (blk_cell BK171.out 3).trans rfl; have hcz7_4 : w6.cell? ⟨gb171, 4, none⟩ = some (.string a0_4) := (blk_cell BK171.out 4).trans rfl; have hcz7_5 : w6.cell? ⟨gb171, 5, none⟩ = some (.int .i64 a0_5) := (blk_cell BK171.out 5).trans rfl; have hfz7_0 := blk_frozen BK171.out 0; have hfz7_1 := blk_frozen BK171.out 1; have hfz7_2 := blk_frozen BK171.out 2; have hfz7_3 := blk_frozen BK171.out 3; have hfz7_4 := blk_frozen BK171.out 4; have hfz7_5 := blk_frozen BK171.out 5) | ((with_reducible refine gate_callee (f := 85) rfl ?_); refine goesL_ (some 7) rfl rfl Tryd.func85 (by kernel_rfl) rfl #[.agg #[.int .i64 a0_0, .int .i64 a0_1, .int .i64 a0_2, .string a0_3, .string a0_4, .int .i64 a0_5]] rfl (by (try simp only [List.map_toArray, List.map_cons, List.map_nil]); first | done | rfl | (simp only [List.length_drop, List.length_take]; rfl)) ?_; (with_reducible refine (impl_SkyOk.calls k a0_0 a0_1 a0_2 a0_3 a0_4 a0_5 true _ ?side1 ?side2 A2.out).mono ?_); (case side1 => exact Gcov.below HGcov.out (by repeat (first | (with_reducible first | exact HB.out | apply below_alloc | apply pw_below_drewN | apply below_drew1 | refine below_set ?_ GE171.out) | exact HB.out))); (case side2 => exact Gwea.below HGwea.out (by repeat (first | (with_reducible first | exact HB.out | apply below_alloc | apply pw_below_drewN | apply below_drew1 | refine below_set ?_ GE171.out) | exact HB.out))); rintro e w8 ⟨rfl, hb⟩; refine ⟨_, rfl, ?_⟩; have n0_ := Aside0.mk (blk_below (g := gb171) (o := .cells #[.int .i64 a0_0, .int .i64 a0_1, .int .i64 a0_2, .string a0_3, .string a0_4, .int .i64 a0_5] 30 (0, 0)) (by (with_reducible repeat (first | refine blk_drewN ?_ _ | refine blk_drew ?_ | refine blk_alloc ?_ _)); exact BK171.out) hb); have n1_ := Aside0.mk (below_step (by repeat (first | (with_reducible first | exact HB.out | apply below_alloc | apply pw_below_drewN | apply below_drew1 | refine below_set ?_ GE171.out) | exact HB.out)) hb); clear BK171; clear HB; have BK171 := n0_; have HB := n1_; clear n0_ n1_; (try clear hb); (try clear hb2); (try clear hk); (try clear hi); have hcz9_0 : w8.cell? ⟨gb171, 0, none⟩ = some (.int .i64 a0_0) := (blk_cell BK171.out 0).trans rfl; have hcz9_1 : w8.cell? ⟨gb171, 1, none⟩ = some (.int .i64 a0_1) := (blk_cell BK171.out 1).trans rfl; have hcz9_2 : w8.cell? ⟨gb171, 2, none⟩ = some (.int .i64 a0_2) := (blk_cell BK171.out 2).trans rfl; have hcz9_3 : w8.cell? ⟨gb171, 3, none⟩ = some (.string a0_3) := (blk_cell BK171.out 3).trans rfl; have hcz9_4 : w8.cell? ⟨gb171, 4, none⟩ = some (.string a0_4) := (blk_cell BK171.out 4).trans rfl; have hcz9_5 : w8.cell? ⟨gb171, 5, none⟩ = some (.int .i64 a0_5) := (blk_cell BK171.out 5).trans rfl; have hfz9_0 := blk_frozen BK171.out 0; have hfz9_1 := blk_frozen BK171.out 1; have hfz9_2 := blk_frozen BK171.out 2; have hfz9_3 := blk_frozen BK171.out 3; have hfz9_4 := blk_frozen BK171.out 4; have hfz9_5 := blk_frozen BK171.out 5) | ((with_reducible refine gate_callee (f := 86) rfl ?_); refine goesL_ (some 10) rfl rfl Tryd.func86 (by kernel_rfl) rfl #[.agg #[.int .i64 a0_0, .int .i64 a0_1, .int .i64 a0_2, .string a0_3, .string a0_4, .int .i64 a0_5]] rfl (by (try simp only [List.map_toArray, List.map_cons, List.map_nil]); first | done | rfl | (simp only [List.length_drop, List.length_take]; rfl)) ?_; (with_reducible refine (impl_said.calls a0_0 a0_1 a0_2 a0_3 a0_4 a0_5 t173 t174 t175 t176 _ A4.out).mono ?_); rintro e w10 ⟨rfl, hb⟩; refine ⟨_, rfl, ?_⟩; have n0_ := Aside0.mk (blk_below (g := gb171) (o := .cells #[.int .i64 a0_0, .int .i64 a0_1, .int .i64 a0_2, .string a0_3, .string a0_4, .int .i64 a0_5] 30 (0, 0)) (by (with_reducible repeat (first | refine blk_drewN ?_ _ | refine blk_drew ?_ | refine blk_alloc ?_ _)); exact BK171.out) hb); have n1_ := Aside0.mk (below_step (by repeat (first | (with_reducible first | exact HB.out | apply below_alloc | apply pw_below_drewN | apply below_drew1 | refine below_set ?_ GE171.out) | exact HB.out)) hb); clear BK171; clear HB; have BK171 := n0_; have HB := n1_; clear n0_ n1_; (try clear hb); (try clear hb2); (try clear hk); (try clear hi)) | ((with_reducible refine gate_dst (N := 3) rfl ?_); refine box_event ?hg (N := 3) ?hd (cs := #[.bool false, .bool false, .bool false, .bool false]) (t := 109) ?hr ?_; (case hd => rfl); (case hg => rfl); (case hr => first | (go_simp; done) | (go_simp; rfl)); intro gb177 hg w11 hbox hb; have n0_ := Aside0.mk (blk_below (g := gb171) (o := .cells #[.int .i64 a0_0, .int .i64 a0_1, .int .i64 a0_2, .string a0_3, .string a0_4, .int .i64 a0_5] 30 (0, 0)) (by (with_reducible repeat (first | refine blk_drewN ?_ _ | refine blk_drew ?_ | refine blk_alloc ?_ _)); exact BK171.out) hb); have n1_ := Aside0.mk (below_step (by repeat (first | (with_reducible first | exact HB.out | apply below_alloc | apply pw_below_drewN | apply below_drew1 | refine below_set ?_ GE171.out) | exact HB.out)) hb); have n2_ := Aside0.mk (hbox); have n3_ := Aside0.mk ((by rw [hg]; exact (below_size (by repeat (first | (with_reducible first | exact HB.out | apply below_alloc | apply pw_below_drewN | apply below_drew1 | refine below_set ?_ GE171.out) | exact HB.out))) : w.heap.size ≤ gb177)); have n4_ := Aside0.mk ((by rw [hg]; exact (below_size (by repeat (first | (with_reducible first | exact HB.out | apply below_alloc | apply pw_below_drewN | apply below_drew1 | refine below_set ?_ GE171.out) | exact HB.out))) : w.heap.size ≤ gb177)); have n5_ := Aside0.mk ((by rw [hg]; exact Nat.ne_of_lt (blk_lt (g := gb171) (o := .cells #[.int .i64 a0_0, .int .i64 a0_1, .int .i64 a0_2, .string a0_3, .string a0_4, .int .i64 a0_5] 30 (0, 0)) (by (with_reducible repeat (first | refine blk_drewN ?_ _ | refine blk_drew ?_ | refine blk_alloc ?_ _)); exact BK171.out)) : gb171 ≠ gb177)); have n6_ := Aside0.mk ((by rw [hg]; exact Nat.ne_of_gt (blk_lt (g := gb171) (o := .cells #[.int .i64 a0_0, .int .i64 a0_1, .int .i64 a0_2, .string a0_3, .string a0_4, .int .i64 a0_5] 30 (0, 0)) (by (with_reducible repeat (first | refine blk_drewN ?_ _ | refine blk_drew ?_ | refine blk_alloc ?_ _)); exact BK171.out)) : gb177 ≠ gb171)); clear BK171; clear HB; have BK171 := n0_; have HB := n1_; have BK177 := n2_; have GW177 := n3_; have GE177 := n4_; have NB171_177 := n5_; have NB177_171 := n6_; clear n0_ n1_ n2_ n3_ n4_ n5_ n6_; clear hb hbox hg; have hnb12 := NB177_171.out; have hnc12 := NB171_177.out; have hcz13_0 : w11.cell? ⟨gb177, 0, none⟩ = some (.bool false) := (blk_cell BK177.out 0).trans rfl; have hcz13_1 : w11.cell? ⟨gb177, 1, none⟩ = some (.bool false) := (blk_cell BK177.out 1).trans rfl; have hcz13_2 : w11.cell? ⟨gb177, 2, none⟩ = some (.bool false) := (blk_cell BK177.out 2).trans rfl; have hcz13_3 : w11.cell? ⟨gb177, 3, none⟩ = some (.bool false) := (blk_cell BK177.out 3).trans rfl; have hfz13_0 := blk_frozen BK177.out 0; have hfz13_1 := blk_frozen BK177.out 1; have hfz13_2 := blk_frozen BK177.out 2; have hfz13_3 := blk_frozen BK177.out 3) | ((with_reducible refine gate_dst (N := 11) rfl ?_); refine Kd.R_lit Kd.string _ 9 ?hg (N := 11) ?hd (xs := ([] : List ByteArray)) (inner := []) (ok := fun _ => True) (okp := fun _ => True) ?hr ?hp (fun _ hk => hk) trivial (Below.refl _ _) (Nat.le_refl _) (by simp) ?_; (case hd => rfl); (case hg => rfl); (case hr => first | (go_simp; done) | (go_simp; rfl)); (case hp => exact (Reps.none _ _)); intro v179 w14 ho15 hb hg_ hnew_; clear hg_ hnew_; (first | rw [← Ny178.out] at ho15 | (simp only [Int.reduceToNat] at ho15; rw [← Ny178.out] at ho15)); have n0_ := Aside0.mk (Kd.R_lower ho15 (below_size (by repeat (first | (with_reducible first | exact HB.out | apply below_alloc | apply pw_below_drewN | apply below_drew1 | refine below_set ?_ GE171.out | refine below_set ?_ GE177.out) | exact HB.out)))); have n1_ := Aside0.mk (blk_below (g := gb171) (o := .cells #[.int .i64 a0_0, .int .i64 a0_1, .int .i64 a0_2, .string a0_3, .string a0_4, .int .i64 a0_5] 30 (0, 0)) (by (with_reducible repeat (first | refine blk_drewN ?_ _ | refine blk_drew ?_ | refine blk_alloc ?_ _)); refine blk_far ?_ NB171_177.out _; (with_reducible repeat (first | refine blk_drewN ?_ _ | refine blk_drew ?_ | refine blk_alloc ?_ _)); refine blk_far ?_ NB171_177.out _; (with_reducible repeat (first | refine blk_drewN ?_ _ | refine blk_drew ?_ | refine blk_alloc ?_ _)); refine blk_far ?_ NB171_177.out _; (with_reducible repeat (first | refine blk_drewN ?_ _ | refine blk_drew ?_ | refine blk_alloc ?_ _)); refine blk_far ?_ NB171_177.out _; (with_reducible repeat (first | refine blk_drewN ?_ _ | refine blk_drew ?_ | refine blk_alloc ?_ _)); exact BK171.out) hb); have n2_ := Aside0.mk (blk_below (g := gb177) (o := .cells #[.bool t173, .bool t174, .bool t175, .bool t176] 109 (0, 0)) (by (with_reducible repeat (first | refine blk_drewN ?_ _ | refine blk_drew ?_ | refine blk_alloc ?_ _)); refine blk_put (cs := #[.bool t173, .bool t174, .bool t175, .bool false]) ?_ 3 _ (by first | rfl | simp [bne]); (with_reducible repeat (first | refine blk_drewN ?_ _ | refine blk_drew ?_ | refine blk_alloc ?_ _)); refine blk_put (cs := #[.bool t173, .bool t174, .bool false, .bool false]) ?_ 2 _ (by first | rfl | simp [bne]); (with_reducible repeat (first | refine blk_drewN ?_ _ | refine blk_drew ?_ | refine blk_alloc ?_ _)); refine blk_put (cs := #[.bool t173, .bool false, .bool false, .bool false]) ?_ 1 _ (by first | rfl | simp [bne]); (with_reducible repeat (first | refine blk_drewN ?_ _ | refine blk_drew ?_ | refine blk_alloc ?_ _)); refine blk_put (cs := #[.bool false, .bool false, .bool false, .bool false]) ?_ 0 _ (by first | rfl | simp [bne]); (with_reducible repeat (first | refine blk_drewN ?_ _ | refine blk_drew ?_ | refine blk_alloc ?_ _)); exact BK177.out) hb); have n3_ := Aside0.mk (below_step (by repeat (first | (with_reducible first | exact HB.out | apply below_alloc | apply pw_below_drewN | apply below_drew1 | refine below_set ?_ GE171.out | refine below_set ?_ GE177.out) | exact HB.out)) hb); clear BK171; clear BK177; clear HB; have HO180 := n0_; have BK171 := n1_; have BK177 := n2_; have HB := n3_; clear n0_ n1_ n2_ n3_; clear hb ho15; have hcz16_0 : w14.cell? ⟨gb177, 0, none⟩ = some (.bool t173) := (blk_cell BK177.out 0).trans rfl; have hcz16_1 : w14.cell? ⟨gb177, 1, none⟩ = some (.bool t174) := (blk_cell BK177.out 1).trans rfl; have hcz16_2 : w14.cell? ⟨gb177, 2, none⟩ = some (.bool t175) := (blk_cell BK177.out 2).trans rfl; have hcz16_3 : w14.cell? ⟨gb177, 3, none⟩ = some (.bool t176) := (blk_cell BK177.out 3).trans rfl; have hfz16_0 := blk_frozen BK177.out 0; have hfz16_1 := blk_frozen BK177.out 1; have hfz16_2 := blk_frozen BK177.out 2; have hfz16_3 := blk_frozen BK177.out 3))
    (try simp only [Act.put, List.setIfInBounds_toArray, List.set_cons_zero, List.set_cons_succ])
    go_cut [4] (fun v4 wc => ∃ (kq : Nat) (x4_4 : List ByteArray), Aside0 (impl_SkyText.j0 kq x4_4 a0_0 a0_1 a0_2 a0_3 a0_4 a0_5 t173 t174 t175 t176 = some r) ∧ Aside0 (kq ≤ k) ∧ Aside0 (Kd.R Kd.string 9 wc w.heap.size (fun _ => True) v4 x4_4) ∧ Aside0 (wc.heap[gb171]? = some (.cells #[.int .i64 a0_0, .int .i64 a0_1, .int .i64 a0_2, .string a0_3, .string a0_4, .int .i64 a0_5] 30 (0, 0))) ∧ Aside0 (wc.heap[gb177]? = some (.cells #[.bool t173, .bool t174, .bool t175, .bool t176] 109 (0, 0))) ∧ Aside0 (Below w.heap.size w wc))
    case first =>
      have H := HC5.out
      clear HC5
      by_cases c17 : t173 = true
      · subst c17
        have H1 : ((impl_fill.f (wrap64 (10 * a0_0)) 3).bind fun t181 => (if a0_0 = 99 then ((impl_fill.f a0_1 2).bind fun t182 => (if 3 + t182.size ≤ 9223372036854775807 then (if ((⟨#[86, 82, 66]⟩ : ByteArray) ++ t182).size + 2 ≤ 9223372036854775807 then (if y178.length < 8796093022208 then (impl_SkyText.j0 k (y178 ++ [((⟨#[86, 82, 66]⟩ : ByteArray) ++ t182) ++ (⟨#[75, 84]⟩ : ByteArray)]) a0_0 a0_1 a0_2 a0_3 a0_4 a0_5 true t174 t175 t176) else (none)) else (none)) else (none))) else ((impl_fill.f a0_1 2).bind fun t186 => (if t181.size + t186.size ≤ 9223372036854775807 then (if (t181 ++ t186).size + 2 ≤ 9223372036854775807 then (if y178.length < 8796093022208 then (impl_SkyText.j0 k (y178 ++ [(t181 ++ t186) ++ (⟨#[75, 84]⟩ : ByteArray)]) a0_0 a0_1 a0_2 a0_3 a0_4 a0_5 true t174 t175 t176) else (none)) else (none)) else (none))))) = some r := by rw [if_pos rfl] at H; exact H
        clear H
        have H := H1
        clear H1
        replace H := Option.bind_eq_some_iff.mp H
        obtain ⟨t181, A180, H⟩ := H
        replace H : (if a0_0 = 99 then ((impl_fill.f a0_1 2).bind fun t182 => (if 3 + t182.size ≤ 9223372036854775807 then (if ((⟨#[86, 82, 66]⟩ : ByteArray) ++ t182).size + 2 ≤ 9223372036854775807 then (if y178.length < 8796093022208 then (impl_SkyText.j0 k (y178 ++ [((⟨#[86, 82, 66]⟩ : ByteArray) ++ t182) ++ (⟨#[75, 84]⟩ : ByteArray)]) a0_0 a0_1 a0_2 a0_3 a0_4 a0_5 true t174 t175 t176) else (none)) else (none)) else (none))) else ((impl_fill.f a0_1 2).bind fun t186 => (if t181.size + t186.size ≤ 9223372036854775807 then (if (t181 ++ t186).size + 2 ≤ 9223372036854775807 then (if y178.length < 8796093022208 then (impl_SkyText.j0 k (y178 ++ [(t181 ++ t186) ++ (⟨#[75, 84]⟩ : ByteArray)]) a0_0 a0_1 a0_2 a0_3 a0_4 a0_5 true t174 t175 t176) else (none)) else (none)) else (none)))) = some r := H
        have A18 := Aside0.mk A180
        clear A180
        by_cases c19 : a0_0 = 99
        · rw [if_pos c19] at H
          have c19b0 : (a0_0 == 99) = true := beq_iff_eq.mpr c19
          have c19b1 : (a0_0 != 99) = false := bne_eq_false_iff_eq.mpr c19
          clear c19
          (first | rw [c19b0] | (simp only [i64_w, i32_w]; rw [c19b0]) | skip)
          replace H := Option.bind_eq_some_iff.mp H
          obtain ⟨t182, A200, H⟩ := H
          replace H : (if 3 + t182.size ≤ 9223372036854775807 then (if ((⟨#[86, 82, 66]⟩ : ByteArray) ++ t182).size + 2 ≤ 9223372036854775807 then (if y178.length < 8796093022208 then (impl_SkyText.j0 k (y178 ++ [((⟨#[86, 82, 66]⟩ : ByteArray) ++ t182) ++ (⟨#[75, 84]⟩ : ByteArray)]) a0_0 a0_1 a0_2 a0_3 a0_4 a0_5 true t174 t175 t176) else (none)) else (none)) else (none)) = some r := H
          have A20 := Aside0.mk A200
          clear A200
          by_cases c21 : 3 + t182.size ≤ 9223372036854775807
          · rw [if_pos c21] at H
            have c21b0 := eq_true c21
            have c21b1 : decide (3 + t182.size ≤ 9223372036854775807) = true := decide_eq_true c21
            try have c21b2 : (9223372036854775807 < 3 + t182.size) = False := eq_false (Nat.not_lt.2 c21)
            by_cases c22 : ((⟨#[86, 82, 66]⟩ : ByteArray) ++ t182).size + 2 ≤ 9223372036854775807
            · rw [if_pos c22] at H
              have c22b0 := eq_true c22
              have c22b1 : decide (((⟨#[86, 82, 66]⟩ : ByteArray) ++ t182).size + 2 ≤ 9223372036854775807) = true := decide_eq_true c22
              try have c22b2 : (9223372036854775807 < ((⟨#[86, 82, 66]⟩ : ByteArray) ++ t182).size + 2) = False := eq_false (Nat.not_lt.2 c22)
              (try (have c22b3 := c22b2; simp only [ByteArray.size_append, show (⟨#[86, 82, 66]⟩ : ByteArray).size = 3 from rfl] at c22b3))
              by_cases c23 : y178.length < 8796093022208
              · rw [if_pos c23] at H
                have LMc23 := Aside0.mk c23
                clear c23
                obtain ⟨y183, hy183⟩ : ∃ y_ : List ByteArray, y_ = (y178 ++ [((⟨#[86, 82, 66]⟩ : ByteArray) ++ t182) ++ (⟨#[75, 84]⟩ : ByteArray)]) := ⟨_, rfl⟩
                replace H : (impl_SkyText.j0 k y183 a0_0 a0_1 a0_2 a0_3 a0_4 a0_5 true t174 t175 t176) = some r := by first | (rw [hy183]; with_reducible exact H) | (have H2_ := (Option.bind_some _ _).symm.trans H; rw [hy183]; with_reducible exact H2_) | (have H2_ := (Option.bind_some _ _).symm.trans H; with_reducible exact H2_) | with_reducible exact H | (rw [hy183]; exact H) | exact H
                have Ny183 := Aside0.mk hy183
                clear hy183
                have H' := Aside0.mk H
                clear H
                have hnb24 := NB171_177.out
                have hnc24 := NB177_171.out
                have hcz25_0 : w14.cell? ⟨gb171, 0, none⟩ = some (.int .i64 a0_0) := (blk_cell BK171.out 0).trans rfl
                have hcz25_1 : w14.cell? ⟨gb171, 1, none⟩ = some (.int .i64 a0_1) := (blk_cell BK171.out 1).trans rfl
                have hcz25_2 : w14.cell? ⟨gb171, 2, none⟩ = some (.int .i64 a0_2) := (blk_cell BK171.out 2).trans rfl
                have hcz25_3 : w14.cell? ⟨gb171, 3, none⟩ = some (.string a0_3) := (blk_cell BK171.out 3).trans rfl
                have hcz25_4 : w14.cell? ⟨gb171, 4, none⟩ = some (.string a0_4) := (blk_cell BK171.out 4).trans rfl
                have hcz25_5 : w14.cell? ⟨gb171, 5, none⟩ = some (.int .i64 a0_5) := (blk_cell BK171.out 5).trans rfl
                have hfz25_0 := blk_frozen BK171.out 0
                have hfz25_1 := blk_frozen BK171.out 1
                have hfz25_2 := blk_frozen BK171.out 2
                have hfz25_3 := blk_frozen BK171.out 3
                have hfz25_4 := blk_frozen BK171.out 4
                have hfz25_5 := blk_frozen BK171.out 5
                go_wp2_with (first | ((with_reducible refine gate_callee (f := 79) rfl ?_); refine goesL_ (some 17) rfl rfl Tryd.func79 (by kernel_rfl) rfl #[.int .i64 (wrap64 (10 * a0_0)), .int .i64 3] rfl (by (try simp only [List.map_toArray, List.map_cons, List.map_nil]); first | done | rfl | (simp only [List.length_drop, List.length_take]; rfl)) ?_; (with_reducible refine (impl_fill.calls (wrap64 (10 * a0_0)) 3 t181 _ ?side1 A18.out).mono ?_); (case side1 => exact Gpow.below HGpow.out (by repeat (first | (with_reducible first | exact HB.out | apply below_alloc | apply pw_below_drewN | apply below_drew1 | refine below_set ?_ GE171.out | refine below_set ?_ GE177.out) | exact HB.out))); rintro e w26 ⟨rfl, hb⟩; refine ⟨_, rfl, ?_⟩; have n0_ := Aside0.mk (Kd.R_below (by (with_reducible repeat (first | apply Kd.R_alloc | apply Kd.R_drewN | apply Kd.R_drew)); exact HO180.out) hb); have n1_ := Aside0.mk (blk_below (g := gb171) (o := .cells #[.int .i64 a0_0, .int .i64 a0_1, .int .i64 a0_2, .string a0_3, .string a0_4, .int .i64 a0_5] 30 (0, 0)) (by (with_reducible repeat (first | refine blk_drewN ?_ _ | refine blk_drew ?_ | refine blk_alloc ?_ _)); exact BK171.out) hb); have n2_ := Aside0.mk (blk_below (g := gb177) (o := .cells #[.bool true, .bool t174, .bool t175, .bool t176] 109 (0, 0)) (by (with_reducible repeat (first | refine blk_drewN ?_ _ | refine blk_drew ?_ | refine blk_alloc ?_ _)); exact BK177.out) hb); have n3_ := Aside0.mk (below_step (by repeat (first | (with_reducible first | exact HB.out | apply below_alloc | apply pw_below_drewN | apply below_drew1 | refine below_set ?_ GE171.out | refine below_set ?_ GE177.out) | exact HB.out)) hb); clear HO180; clear BK171; clear BK177; clear HB; have HO180 := n0_; have BK171 := n1_; have BK177 := n2_; have HB := n3_; clear n0_ n1_ n2_ n3_; (try clear hb); (try clear hb2); (try clear hk); (try clear hi); have hcz27_0 : w26.cell? ⟨gb171, 0, none⟩ = some (.int .i64 a0_0) := (blk_cell BK171.out 0).trans rfl; have hcz27_1 : w26.cell? ⟨gb171, 1, none⟩ = some (.int .i64 a0_1) := (blk_cell BK171.out 1).trans rfl; have hcz27_2 : w26.cell? ⟨gb171, 2, none⟩ = some (.int .i64 a0_2) := (blk_cell BK171.out 2).trans rfl; have hcz27_3 : w26.cell? ⟨gb171, 3, none⟩ = some (.string a0_3) := (blk_cell BK171.out 3).trans rfl; have hcz27_4 : w26.cell? ⟨gb171, 4, none⟩ = some (.string a0_4) := (blk_cell BK171.out 4).trans rfl; have hcz27_5 : w26.cell? ⟨gb171, 5, none⟩ = some (.int .i64 a0_5) := (blk_cell BK171.out 5).trans rfl; have hfz27_0 := blk_frozen BK171.out 0; have hfz27_1 := blk_frozen BK171.out 1; have hfz27_2 := blk_frozen BK171.out 2; have hfz27_3 := blk_frozen BK171.out 3; have hfz27_4 := blk_frozen BK171.out 4; have hfz27_5 := blk_frozen BK171.out 5) | ((with_reducible refine gate_callee (f := 79) rfl ?_); refine goesL_ (some 25) rfl rfl Tryd.func79 (by kernel_rfl) rfl #[.int .i64 a0_1, .int .i64 2] rfl (by (try simp only [List.map_toArray, List.map_cons, List.map_nil]); first | done | rfl | (simp only [List.length_drop, List.length_take]; rfl)) ?_; (with_reducible refine (impl_fill.calls a0_1 2 t182 _ ?side1 A20.out).mono ?_); (case side1 => exact Gpow.below HGpow.out (by repeat (first | (with_reducible first | exact HB.out | apply below_alloc | apply pw_below_drewN | apply below_drew1 | refine below_set ?_ GE171.out | refine below_set ?_ GE177.out) | exact HB.out))); rintro e w28 ⟨rfl, hb⟩; refine ⟨_, rfl, ?_⟩; have n0_ := Aside0.mk (Kd.R_below (by (with_reducible repeat (first | apply Kd.R_alloc | apply Kd.R_drewN | apply Kd.R_drew)); exact HO180.out) hb); have n1_ := Aside0.mk (blk_below (g := gb171) (o := .cells #[.int .i64 a0_0, .int .i64 a0_1, .int .i64 a0_2, .string a0_3, .string a0_4, .int .i64 a0_5] 30 (0, 0)) (by (with_reducible repeat (first | refine blk_drewN ?_ _ | refine blk_drew ?_ | refine blk_alloc ?_ _)); exact BK171.out) hb); have n2_ := Aside0.mk (blk_below (g := gb177) (o := .cells #[.bool true, .bool t174, .bool t175, .bool t176] 109 (0, 0)) (by (with_reducible repeat (first | refine blk_drewN ?_ _ | refine blk_drew ?_ | refine blk_alloc ?_ _)); exact BK177.out) hb); have n3_ := Aside0.mk (below_step (by repeat (first | (with_reducible first | exact HB.out | apply below_alloc | apply pw_below_drewN | apply below_drew1 | refine below_set ?_ GE171.out | refine below_set ?_ GE177.out) | exact HB.out)) hb); clear HO180; clear BK171; clear BK177; clear HB; have HO180 := n0_; have BK171 := n1_; have BK177 := n2_; have HB := n3_; clear n0_ n1_ n2_ n3_; (try clear hb); (try clear hb2); (try clear hk); (try clear hi)) | ((with_reducible refine gate_builtin (b := .append) (xs := #[.tmp 21, .tmp 28]) rfl ?_); at_builtin; refine Kd.R_append Kd.string (w0 := w) w.heap.size rfl (.tmp 21) (.tmp 28) 107 9 (.string ⟨#[]⟩) 16 rfl Tryd.underlying107 info9 rfl (by decide) (by omega) v179 y178 (((⟨#[86, 82, 66]⟩ : ByteArray) ++ t182) ++ (⟨#[75, 84]⟩ : ByteArray)) [.string (((⟨#[86, 82, 66]⟩ : ByteArray) ++ t182) ++ (⟨#[75, 84]⟩ : ByteArray))] (fun _ => True) (fun _ => False) rfl rfl ?aP (fun _ hk => hk.elim) ?aF ?aO ?aB ?aS ?aL ?_; (case aP => exact rfl); (case aB => exact (by repeat (first | (with_reducible first | exact HB.out | apply below_alloc | apply pw_below_drewN | apply below_drew1 | refine below_set ?_ GE171.out | refine below_set ?_ GE177.out) | exact HB.out))); (case aF => exact (fun _ _ => trivial)); (case aO => exact (by (with_reducible repeat (first | apply Kd.R_alloc | apply Kd.R_drewN | apply Kd.R_drew)); exact HO180.out)); (case aS => exact (below_size (by repeat (first | (with_reducible first | exact HB.out | apply below_alloc | apply pw_below_drewN | apply below_drew1 | refine below_set ?_ GE171.out | refine below_set ?_ GE177.out) | exact HB.out)))); (case aL => have := LMc23.out; omega); intro v184 w29 ho hb hg hat; rw [← Ny183.out] at ho; have n0_ := Aside0.mk (blk_grown (g := gb171) (o := .cells #[.int .i64 a0_0, .int .i64 a0_1, .int .i64 a0_2, .string a0_3, .string a0_4, .int .i64 a0_5] 30 (0, 0)) (by (with_reducible repeat (first | refine blk_drewN ?_ _ | refine blk_drew ?_ | refine blk_alloc ?_ _)); exact BK171.out) hg (Kd.R_ne HO180.out BK171.out (by decide))); have n1_ := Aside0.mk (blk_grown (g := gb177) (o := .cells #[.bool true, .bool t174, .bool t175, .bool t176] 109 (0, 0)) (by (with_reducible repeat (first | refine blk_drewN ?_ _ | refine blk_drew ?_ | refine blk_alloc ?_ _)); exact BK177.out) hg (Kd.R_ne HO180.out BK177.out (by decide))); have n2_ := Aside0.mk (hb); have n3_ := Aside0.mk (ho); clear BK171; clear BK177; clear HB; clear HO180; have BK171 := n0_; have BK177 := n1_; have HB := n2_; have HO185 := n3_; clear n0_ n1_ n2_ n3_; clear ho hb hg hat))
                go_meet
                case rel => exact ⟨_, (y183), H', ⟨by first | omega | exact Nat.le_refl _⟩, ⟨by (with_reducible repeat (first | apply Kd.R_alloc | apply Kd.R_drewN | apply Kd.R_drew)); exact HO185.out⟩, ⟨by (with_reducible repeat (first | refine blk_drewN ?_ _ | refine blk_drew ?_ | refine blk_alloc ?_ _)); exact BK171.out⟩, ⟨by (with_reducible repeat (first | refine blk_drewN ?_ _ | refine blk_drew ?_ | refine blk_alloc ?_ _)); exact BK177.out⟩, ⟨by repeat (first | (with_reducible first | exact HB.out | apply below_alloc | apply pw_below_drewN | apply below_drew1 | refine below_set ?_ GE171.out | refine below_set ?_ GE177.out) | exact HB.out)⟩⟩
              · rw [if_neg c23] at H
                exact absurd H (by simp)
            · rw [if_neg c22] at H
              exact absurd H (by simp)
          · rw [if_neg c21] at H
            exact absurd H (by simp)
        · rw [if_neg c19] at H
          have c19b0 : (a0_0 == 99) = false := beq_eq_false_iff_ne.mpr c19
          have c19b1 : (a0_0 != 99) = true := bne_iff_ne.mpr c19
          (first | rw [c19b0] | (simp only [i64_w, i32_w]; rw [c19b0]) | skip)
          replace H := Option.bind_eq_some_iff.mp H
          obtain ⟨t186, A300, H⟩ := H
          replace H : (if t181.size + t186.size ≤ 9223372036854775807 then (if (t181 ++ t186).size + 2 ≤ 9223372036854775807 then (if y178.length < 8796093022208 then (impl_SkyText.j0 k (y178 ++ [(t181 ++ t186) ++ (⟨#[75, 84]⟩ : ByteArray)]) a0_0 a0_1 a0_2 a0_3 a0_4 a0_5 true t174 t175 t176) else (none)) else (none)) else (none)) = some r := H
          have A30 := Aside0.mk A300
          clear A300
          by_cases c31 : t181.size + t186.size ≤ 9223372036854775807
          · rw [if_pos c31] at H
            have c31b0 := eq_true c31
            have c31b1 : decide (t181.size + t186.size ≤ 9223372036854775807) = true := decide_eq_true c31
            try have c31b2 : (9223372036854775807 < t181.size + t186.size) = False := eq_false (Nat.not_lt.2 c31)
            by_cases c32 : (t181 ++ t186).size + 2 ≤ 9223372036854775807
            · rw [if_pos c32] at H
              have c32b0 := eq_true c32
              have c32b1 : decide ((t181 ++ t186).size + 2 ≤ 9223372036854775807) = true := decide_eq_true c32
              try have c32b2 : (9223372036854775807 < (t181 ++ t186).size + 2) = False := eq_false (Nat.not_lt.2 c32)
              (try (have c32b3 := c32b2; simp only [ByteArray.size_append] at c32b3))
              by_cases c33 : y178.length < 8796093022208
              · rw [if_pos c33] at H
                have LMc33 := Aside0.mk c33
                clear c33
                obtain ⟨y187, hy187⟩ : ∃ y_ : List ByteArray, y_ = (y178 ++ [(t181 ++ t186) ++ (⟨#[75, 84]⟩ : ByteArray)]) := ⟨_, rfl⟩
                replace H : (impl_SkyText.j0 k y187 a0_0 a0_1 a0_2 a0_3 a0_4 a0_5 true t174 t175 t176) = some r := by first | (rw [hy187]; with_reducible exact H) | (have H2_ := (Option.bind_some _ _).symm.trans H; rw [hy187]; with_reducible exact H2_) | (have H2_ := (Option.bind_some _ _).symm.trans H; with_reducible exact H2_) | with_reducible exact H | (rw [hy187]; exact H) | exact H
                have Ny187 := Aside0.mk hy187
                clear hy187
                have H' := Aside0.mk H
                clear H
                have hnb34 := NB171_177.out
                have hnc34 := NB177_171.out
                have hcz35_0 : w14.cell? ⟨gb171, 0, none⟩ = some (.int .i64 a0_0) := (blk_cell BK171.out 0).trans rfl
                have hcz35_1 : w14.cell? ⟨gb171, 1, none⟩ = some (.int .i64 a0_1) := (blk_cell BK171.out 1).trans rfl
                have hcz35_2 : w14.cell? ⟨gb171, 2, none⟩ = some (.int .i64 a0_2) := (blk_cell BK171.out 2).trans rfl
                have hcz35_3 : w14.cell? ⟨gb171, 3, none⟩ = some (.string a0_3) := (blk_cell BK171.out 3).trans rfl
                have hcz35_4 : w14.cell? ⟨gb171, 4, none⟩ = some (.string a0_4) := (blk_cell BK171.out 4).trans rfl
                have hcz35_5 : w14.cell? ⟨gb171, 5, none⟩ = some (.int .i64 a0_5) := (blk_cell BK171.out 5).trans rfl
                have hfz35_0 := blk_frozen BK171.out 0
                have hfz35_1 := blk_frozen BK171.out 1
                have hfz35_2 := blk_frozen BK171.out 2
                have hfz35_3 := blk_frozen BK171.out 3
                have hfz35_4 := blk_frozen BK171.out 4
                have hfz35_5 := blk_frozen BK171.out 5
                go_wp2_with (first | ((with_reducible refine gate_callee (f := 79) rfl ?_); refine goesL_ (some 17) rfl rfl Tryd.func79 (by kernel_rfl) rfl #[.int .i64 (wrap64 (10 * a0_0)), .int .i64 3] rfl (by (try simp only [List.map_toArray, List.map_cons, List.map_nil]); first | done | rfl | (simp only [List.length_drop, List.length_take]; rfl)) ?_; (with_reducible refine (impl_fill.calls (wrap64 (10 * a0_0)) 3 t181 _ ?side1 A18.out).mono ?_); (case side1 => exact Gpow.below HGpow.out (by repeat (first | (with_reducible first | exact HB.out | apply below_alloc | apply pw_below_drewN | apply below_drew1 | refine below_set ?_ GE171.out | refine below_set ?_ GE177.out) | exact HB.out))); rintro e w36 ⟨rfl, hb⟩; refine ⟨_, rfl, ?_⟩; have n0_ := Aside0.mk (Kd.R_below (by (with_reducible repeat (first | apply Kd.R_alloc | apply Kd.R_drewN | apply Kd.R_drew)); exact HO180.out) hb); have n1_ := Aside0.mk (blk_below (g := gb171) (o := .cells #[.int .i64 a0_0, .int .i64 a0_1, .int .i64 a0_2, .string a0_3, .string a0_4, .int .i64 a0_5] 30 (0, 0)) (by (with_reducible repeat (first | refine blk_drewN ?_ _ | refine blk_drew ?_ | refine blk_alloc ?_ _)); exact BK171.out) hb); have n2_ := Aside0.mk (blk_below (g := gb177) (o := .cells #[.bool true, .bool t174, .bool t175, .bool t176] 109 (0, 0)) (by (with_reducible repeat (first | refine blk_drewN ?_ _ | refine blk_drew ?_ | refine blk_alloc ?_ _)); exact BK177.out) hb); have n3_ := Aside0.mk (below_step (by repeat (first | (with_reducible first | exact HB.out | apply below_alloc | apply pw_below_drewN | apply below_drew1 | refine below_set ?_ GE171.out | refine below_set ?_ GE177.out) | exact HB.out)) hb); clear HO180; clear BK171; clear BK177; clear HB; have HO180 := n0_; have BK171 := n1_; have BK177 := n2_; have HB := n3_; clear n0_ n1_ n2_ n3_; (try clear hb); (try clear hb2); (try clear hk); (try clear hi); have hcz37_0 : w36.cell? ⟨gb171, 0, none⟩ = some (.int .i64 a0_0) := (blk_cell BK171.out 0).trans rfl; have hcz37_1 : w36.cell? ⟨gb171, 1, none⟩ = some (.int .i64 a0_1) := (blk_cell BK171.out 1).trans rfl; have hcz37_2 : w36.cell? ⟨gb171, 2, none⟩ = some (.int .i64 a0_2) := (blk_cell BK171.out 2).trans rfl; have hcz37_3 : w36.cell? ⟨gb171, 3, none⟩ = some (.string a0_3) := (blk_cell BK171.out 3).trans rfl; have hcz37_4 : w36.cell? ⟨gb171, 4, none⟩ = some (.string a0_4) := (blk_cell BK171.out 4).trans rfl; have hcz37_5 : w36.cell? ⟨gb171, 5, none⟩ = some (.int .i64 a0_5) := (blk_cell BK171.out 5).trans rfl; have hfz37_0 := blk_frozen BK171.out 0; have hfz37_1 := blk_frozen BK171.out 1; have hfz37_2 := blk_frozen BK171.out 2; have hfz37_3 := blk_frozen BK171.out 3; have hfz37_4 := blk_frozen BK171.out 4; have hfz37_5 := blk_frozen BK171.out 5) | ((with_reducible refine gate_callee (f := 79) rfl ?_); refine goesL_ (some 25) rfl rfl Tryd.func79 (by kernel_rfl) rfl #[.int .i64 a0_1, .int .i64 2] rfl (by (try simp only [List.map_toArray, List.map_cons, List.map_nil]); first | done | rfl | (simp only [List.length_drop, List.length_take]; rfl)) ?_; (with_reducible refine (impl_fill.calls a0_1 2 t186 _ ?side1 A30.out).mono ?_); (case side1 => exact Gpow.below HGpow.out (by repeat (first | (with_reducible first | exact HB.out | apply below_alloc | apply pw_below_drewN | apply below_drew1 | refine below_set ?_ GE171.out | refine below_set ?_ GE177.out) | exact HB.out))); rintro e w38 ⟨rfl, hb⟩; refine ⟨_, rfl, ?_⟩; have n0_ := Aside0.mk (Kd.R_below (by (with_reducible repeat (first | apply Kd.R_alloc | apply Kd.R_drewN | apply Kd.R_drew)); exact HO180.out) hb); have n1_ := Aside0.mk (blk_below (g := gb171) (o := .cells #[.int .i64 a0_0, .int .i64 a0_1, .int .i64 a0_2, .string a0_3, .string a0_4, .int .i64 a0_5] 30 (0, 0)) (by (with_reducible repeat (first | refine blk_drewN ?_ _ | refine blk_drew ?_ | refine blk_alloc ?_ _)); exact BK171.out) hb); have n2_ := Aside0.mk (blk_below (g := gb177) (o := .cells #[.bool true, .bool t174, .bool t175, .bool t176] 109 (0, 0)) (by (with_reducible repeat (first | refine blk_drewN ?_ _ | refine blk_drew ?_ | refine blk_alloc ?_ _)); exact BK177.out) hb); have n3_ := Aside0.mk (below_step (by repeat (first | (with_reducible first | exact HB.out | apply below_alloc | apply pw_below_drewN | apply below_drew1 | refine below_set ?_ GE171.out | refine below_set ?_ GE177.out) | exact HB.out)) hb); clear HO180; clear BK171; clear BK177; clear HB; have HO180 := n0_; have BK171 := n1_; have BK177 := n2_; have HB := n3_; clear n0_ n1_ n2_ n3_; (try clear hb); (try clear hb2); (try clear hk); (try clear hi)) | ((with_reducible refine gate_builtin (b := .append) (xs := #[.tmp 21, .tmp 28]) rfl ?_); at_builtin; refine Kd.R_append Kd.string (w0 := w) w.heap.size rfl (.tmp 21) (.tmp 28) 107 9 (.string ⟨#[]⟩) 16 rfl Tryd.underlying107 info9 rfl (by decide) (by omega) v179 y178 ((t181 ++ t186) ++ (⟨#[75, 84]⟩ : ByteArray)) [.string ((t181 ++ t186) ++ (⟨#[75, 84]⟩ : ByteArray))] (fun _ => True) (fun _ => False) rfl rfl ?aP (fun _ hk => hk.elim) ?aF ?aO ?aB ?aS ?aL ?_; (case aP => exact rfl); (case aB => exact (by repeat (first | (with_reducible first | exact HB.out | apply below_alloc | apply pw_below_drewN | apply below_drew1 | refine below_set ?_ GE171.out | refine below_set ?_ GE177.out) | exact HB.out))); (case aF => exact (fun _ _ => trivial)); (case aO => exact (by (with_reducible repeat (first | apply Kd.R_alloc | apply Kd.R_drewN | apply Kd.R_drew)); exact HO180.out)); (case aS => exact (below_size (by repeat (first | (with_reducible first | exact HB.out | apply below_alloc | apply pw_below_drewN | apply below_drew1 | refine below_set ?_ GE171.out | refine below_set ?_ GE177.out) | exact HB.out)))); (case aL => have := LMc33.out; omega); intro v188 w39 ho hb hg hat; rw [← Ny187.out] at ho; have n0_ := Aside0.mk (blk_grown (g := gb171) (o := .cells #[.int .i64 a0_0, .int .i64 a0_1, .int .i64 a0_2, .string a0_3, .string a0_4, .int .i64 a0_5] 30 (0, 0)) (by (with_reducible repeat (first | refine blk_drewN ?_ _ | refine blk_drew ?_ | refine blk_alloc ?_ _)); exact BK171.out) hg (Kd.R_ne HO180.out BK171.out (by decide))); have n1_ := Aside0.mk (blk_grown (g := gb177) (o := .cells #[.bool true, .bool t174, .bool t175, .bool t176] 109 (0, 0)) (by (with_reducible repeat (first | refine blk_drewN ?_ _ | refine blk_drew ?_ | refine blk_alloc ?_ _)); exact BK177.out) hg (Kd.R_ne HO180.out BK177.out (by decide))); have n2_ := Aside0.mk (hb); have n3_ := Aside0.mk (ho); clear BK171; clear BK177; clear HB; clear HO180; have BK171 := n0_; have BK177 := n1_; have HB := n2_; have HO189 := n3_; clear n0_ n1_ n2_ n3_; clear ho hb hg hat))
                go_meet
                case rel => exact ⟨_, (y187), H', ⟨by first | omega | exact Nat.le_refl _⟩, ⟨by (with_reducible repeat (first | apply Kd.R_alloc | apply Kd.R_drewN | apply Kd.R_drew)); exact HO189.out⟩, ⟨by (with_reducible repeat (first | refine blk_drewN ?_ _ | refine blk_drew ?_ | refine blk_alloc ?_ _)); exact BK171.out⟩, ⟨by (with_reducible repeat (first | refine blk_drewN ?_ _ | refine blk_drew ?_ | refine blk_alloc ?_ _)); exact BK177.out⟩, ⟨by repeat (first | (with_reducible first | exact HB.out | apply below_alloc | apply pw_below_drewN | apply below_drew1 | refine below_set ?_ GE171.out | refine below_set ?_ GE177.out) | exact HB.out)⟩⟩
              · rw [if_neg c33] at H
                exact absurd H (by simp)
            · rw [if_neg c32] at H
              exact absurd H (by simp)
          · rw [if_neg c31] at H
            exact absurd H (by simp)
      · replace c17 := Bool.eq_false_iff.mpr c17
        subst c17
        have H1 : (impl_SkyText.j0 k y178 a0_0 a0_1 a0_2 a0_3 a0_4 a0_5 false t174 t175 t176) = some r := by rw [if_neg (show ¬ (false = true) by decide)] at H; exact H
        clear H
        have H := H1
        clear H1
        have H' := Aside0.mk H
        clear H
        go_wp2
        go_meet
        case rel => exact ⟨_, (y178), H', ⟨by first | omega | exact Nat.le_refl _⟩, ⟨by (with_reducible repeat (first | apply Kd.R_alloc | apply Kd.R_drewN | apply Kd.R_drew)); exact HO180.out⟩, ⟨by (with_reducible repeat (first | refine blk_drewN ?_ _ | refine blk_drew ?_ | refine blk_alloc ?_ _)); exact BK171.out⟩, ⟨by (with_reducible repeat (first | refine blk_drewN ?_ _ | refine blk_drew ?_ | refine blk_alloc ?_ _)); exact BK177.out⟩, ⟨by repeat (first | (with_reducible first | exact HB.out | apply below_alloc | apply pw_below_drewN | apply below_drew1 | refine below_set ?_ GE171.out | refine below_set ?_ GE177.out) | exact HB.out)⟩⟩
    case rest =>
      clear HC5
      try clear c1
      try clear c2
      try clear p2
      try clear c3
      try clear p6
      try clear c7
      try clear c8
      try clear c12
      try clear c17
      try clear c19
      try clear c19b0
      try clear c19b1
      try clear c21
      try clear c21b0
      try clear c21b1
      try clear c21b2
      try clear c22
      try clear c22b0
      try clear c22b1
      try clear c22b2
      try clear c23
      try clear c24
      try clear c31
      try clear c31b0
      try clear c31b1
      try clear c31b2
      try clear c32
      try clear c32b0
      try clear c32b1
      try clear c32b2
      try clear c33
      try clear c34
      try clear hcz13_0
      try clear hcz13_1
      try clear hcz13_2
      try clear hcz13_3
      try clear hcz16_0
      try clear hcz16_1
      try clear hcz16_2
      try clear hcz16_3
      try clear hcz25_0
      try clear hcz25_1
      try clear hcz25_2
      try clear hcz25_3
      try clear hcz25_4
      try clear hcz25_5
      try clear hcz27_0
      try clear hcz27_1
      try clear hcz27_2
      try clear hcz27_3
      try clear hcz27_4
      try clear hcz27_5
      try clear hcz35_0
      try clear hcz35_1
      try clear hcz35_2
      try clear hcz35_3
      try clear hcz35_4
      try clear hcz35_5
      try clear hcz37_0
      try clear hcz37_1
      try clear hcz37_2
      try clear hcz37_3
      try clear hcz37_4
      try clear hcz37_5
      try clear hcz7_0
      try clear hcz7_1
      try clear hcz7_2
      try clear hcz7_3
      try clear hcz7_4
      try clear hcz7_5
      try clear hcz9_0
      try clear hcz9_1
      try clear hcz9_2
      try clear hcz9_3
      try clear hcz9_4
      try clear hcz9_5
      try clear hfz13_0
      try clear hfz13_1
      try clear hfz13_2
      try clear hfz13_3
      try clear hfz16_0
      try clear hfz16_1
      try clear hfz16_2
      try clear hfz16_3
      try clear hfz25_0
      try clear hfz25_1
      try clear hfz25_2
      try clear hfz25_3
      try clear hfz25_4
      try clear hfz25_5
      try clear hfz27_0
      try clear hfz27_1
      try clear hfz27_2
      try clear hfz27_3
      try clear hfz27_4
      try clear hfz27_5
      try clear hfz35_0
      try clear hfz35_1
      try clear hfz35_2
      try clear hfz35_3
      try clear hfz35_4
      try clear hfz35_5
      try clear hfz37_0
      try clear hfz37_1
      try clear hfz37_2
      try clear hfz37_3
      try clear hfz37_4
      try clear hfz37_5
      try clear hfz7_0
      try clear hfz7_1
      try clear hfz7_2
      try clear hfz7_3
      try clear hfz7_4
      try clear hfz7_5
      try clear hfz9_0
      try clear hfz9_1
      try clear hfz9_2
      try clear hfz9_3
      try clear hfz9_4
      try clear hfz9_5
      obtain ⟨kq, x4_4, HA, HJ4, HO_4, BK171, BK177, HB⟩ := hcut
      cases kq with
      | zero => exact absurd HA.out (by simp [impl_SkyText.j0])
      | succ kj4 =>
        have H := HA.out
        clear HA
        simp only [impl_SkyText.j0] at H
        have HC40 := Aside0.mk H
        clear H
        have hnb41 := NB177_171.out
        have hnc41 := NB171_177.out
        have hcz42_0 : wc.cell? ⟨gb177, 0, none⟩ = some (.bool t173) := (blk_cell BK177.out 0).trans rfl
        have hcz42_1 : wc.cell? ⟨gb177, 1, none⟩ = some (.bool t174) := (blk_cell BK177.out 1).trans rfl
        have hcz42_2 : wc.cell? ⟨gb177, 2, none⟩ = some (.bool t175) := (blk_cell BK177.out 2).trans rfl
        have hcz42_3 : wc.cell? ⟨gb177, 3, none⟩ = some (.bool t176) := (blk_cell BK177.out 3).trans rfl
        have hfz42_0 := blk_frozen BK177.out 0
        have hfz42_1 := blk_frozen BK177.out 1
        have hfz42_2 := blk_frozen BK177.out 2
        have hfz42_3 := blk_frozen BK177.out 3
        go_upto_if 31 with (fail)
        go_cut [4] (fun v4 wc => ∃ (kq : Nat) (x4_39 : List ByteArray), Aside0 (impl_SkyText.j1 kq x4_39 a0_0 a0_1 a0_2 a0_3 a0_4 a0_5 t173 t174 t175 t176 = some r) ∧ Aside0 (kq ≤ kj4) ∧ Aside0 (Kd.R Kd.string 9 wc w.heap.size (fun _ => True) v4 x4_39) ∧ Aside0 (wc.heap[gb171]? = some (.cells #[.int .i64 a0_0, .int .i64 a0_1, .int .i64 a0_2, .string a0_3, .string a0_4, .int .i64 a0_5] 30 (0, 0))) ∧ Aside0 (wc.heap[gb177]? = some (.cells #[.bool t173, .bool t174, .bool t175, .bool t176] 109 (0, 0))) ∧ Aside0 (Below w.heap.size w wc))
        case first =>
          have H := HC40.out
          clear HC40
          by_cases c43 : t174 = true
          · subst c43
            have H1 : ((impl_fill.f a0_2 4).bind fun t190 => (if x4_4.length < 8796093022208 then (impl_SkyText.j1 kj4 (x4_4 ++ [t190]) a0_0 a0_1 a0_2 a0_3 a0_4 a0_5 t173 true t175 t176) else (none))) = some r := by rw [if_pos rfl] at H; exact H
            clear H
            have H := H1
            clear H1
            replace H := Option.bind_eq_some_iff.mp H
            obtain ⟨t190, A440, H⟩ := H
            replace H : (if x4_4.length < 8796093022208 then (impl_SkyText.j1 kj4 (x4_4 ++ [t190]) a0_0 a0_1 a0_2 a0_3 a0_4 a0_5 t173 true t175 t176) else (none)) = some r := H
            have A44 := Aside0.mk A440
            clear A440
            by_cases c45 : x4_4.length < 8796093022208
            · rw [if_pos c45] at H
              have LMc45 := Aside0.mk c45
              clear c45
              obtain ⟨y191, hy191⟩ : ∃ y_ : List ByteArray, y_ = (x4_4 ++ [t190]) := ⟨_, rfl⟩
              replace H : (impl_SkyText.j1 kj4 y191 a0_0 a0_1 a0_2 a0_3 a0_4 a0_5 t173 true t175 t176) = some r := by first | (rw [hy191]; with_reducible exact H) | (have H2_ := (Option.bind_some _ _).symm.trans H; rw [hy191]; with_reducible exact H2_) | (have H2_ := (Option.bind_some _ _).symm.trans H; with_reducible exact H2_) | with_reducible exact H | (rw [hy191]; exact H) | exact H
              have Ny191 := Aside0.mk hy191
              clear hy191
              have H' := Aside0.mk H
              clear H
              have hnb46 := NB171_177.out
              have hnc46 := NB177_171.out
              have hcz47_0 : wc.cell? ⟨gb171, 0, none⟩ = some (.int .i64 a0_0) := (blk_cell BK171.out 0).trans rfl
              have hcz47_1 : wc.cell? ⟨gb171, 1, none⟩ = some (.int .i64 a0_1) := (blk_cell BK171.out 1).trans rfl
              have hcz47_2 : wc.cell? ⟨gb171, 2, none⟩ = some (.int .i64 a0_2) := (blk_cell BK171.out 2).trans rfl
              have hcz47_3 : wc.cell? ⟨gb171, 3, none⟩ = some (.string a0_3) := (blk_cell BK171.out 3).trans rfl
              have hcz47_4 : wc.cell? ⟨gb171, 4, none⟩ = some (.string a0_4) := (blk_cell BK171.out 4).trans rfl
              have hcz47_5 : wc.cell? ⟨gb171, 5, none⟩ = some (.int .i64 a0_5) := (blk_cell BK171.out 5).trans rfl
              have hfz47_0 := blk_frozen BK171.out 0
              have hfz47_1 := blk_frozen BK171.out 1
              have hfz47_2 := blk_frozen BK171.out 2
              have hfz47_3 := blk_frozen BK171.out 3
              have hfz47_4 := blk_frozen BK171.out 4
              have hfz47_5 := blk_frozen BK171.out 5
              go_wp2_with (first | ((with_reducible refine gate_callee (f := 79) rfl ?_); refine goesL_ (some 35) rfl rfl Tryd.func79 (by kernel_rfl) rfl #[.int .i64 a0_2, .int .i64 4] rfl (by (try simp only [List.map_toArray, List.map_cons, List.map_nil]); first | done | rfl | (simp only [List.length_drop, List.length_take]; rfl)) ?_; (with_reducible refine (impl_fill.calls a0_2 4 t190 _ ?side1 A44.out).mono ?_); (case side1 => exact Gpow.below HGpow.out (by repeat (first | (with_reducible first | exact HB.out | apply below_alloc | apply pw_below_drewN | apply below_drew1 | refine below_set ?_ GE171.out | refine below_set ?_ GE177.out) | exact HB.out))); rintro e w48 ⟨rfl, hb⟩; refine ⟨_, rfl, ?_⟩; have n0_ := Aside0.mk (Kd.R_below (by (with_reducible repeat (first | apply Kd.R_alloc | apply Kd.R_drewN | apply Kd.R_drew)); exact HO_4.out) hb); have n1_ := Aside0.mk (blk_below (g := gb171) (o := .cells #[.int .i64 a0_0, .int .i64 a0_1, .int .i64 a0_2, .string a0_3, .string a0_4, .int .i64 a0_5] 30 (0, 0)) (by (with_reducible repeat (first | refine blk_drewN ?_ _ | refine blk_drew ?_ | refine blk_alloc ?_ _)); exact BK171.out) hb); have n2_ := Aside0.mk (blk_below (g := gb177) (o := .cells #[.bool t173, .bool true, .bool t175, .bool t176] 109 (0, 0)) (by (with_reducible repeat (first | refine blk_drewN ?_ _ | refine blk_drew ?_ | refine blk_alloc ?_ _)); exact BK177.out) hb); have n3_ := Aside0.mk (below_step (by repeat (first | (with_reducible first | exact HB.out | apply below_alloc | apply pw_below_drewN | apply below_drew1 | refine below_set ?_ GE171.out | refine below_set ?_ GE177.out) | exact HB.out)) hb); clear HO_4; clear BK171; clear BK177; clear HB; have HO_4 := n0_; have BK171 := n1_; have BK177 := n2_; have HB := n3_; clear n0_ n1_ n2_ n3_; (try clear hb); (try clear hb2); (try clear hk); (try clear hi)) | ((with_reducible refine gate_builtin (b := .append) (xs := #[.tmp 32, .tmp 36]) rfl ?_); at_builtin; refine Kd.R_append Kd.string (w0 := w) w.heap.size rfl (.tmp 32) (.tmp 36) 107 9 (.string ⟨#[]⟩) 16 rfl Tryd.underlying107 info9 rfl (by decide) (by omega) u4 x4_4 t190 [.string t190] (fun _ => True) (fun _ => False) rfl rfl ?aP (fun _ hk => hk.elim) ?aF ?aO ?aB ?aS ?aL ?_; (case aP => exact rfl); (case aB => exact (by repeat (first | (with_reducible first | exact HB.out | apply below_alloc | apply pw_below_drewN | apply below_drew1 | refine below_set ?_ GE171.out | refine below_set ?_ GE177.out) | exact HB.out))); (case aF => exact (fun _ _ => trivial)); (case aO => exact (by (with_reducible repeat (first | apply Kd.R_alloc | apply Kd.R_drewN | apply Kd.R_drew)); exact HO_4.out)); (case aS => exact (below_size (by repeat (first | (with_reducible first | exact HB.out | apply below_alloc | apply pw_below_drewN | apply below_drew1 | refine below_set ?_ GE171.out | refine below_set ?_ GE177.out) | exact HB.out)))); (case aL => have := LMc45.out; omega); intro v192 w49 ho hb hg hat; rw [← Ny191.out] at ho; have n0_ := Aside0.mk (blk_grown (g := gb171) (o := .cells #[.int .i64 a0_0, .int .i64 a0_1, .int .i64 a0_2, .string a0_3, .string a0_4, .int .i64 a0_5] 30 (0, 0)) (by (with_reducible repeat (first | refine blk_drewN ?_ _ | refine blk_drew ?_ | refine blk_alloc ?_ _)); exact BK171.out) hg (Kd.R_ne HO_4.out BK171.out (by decide))); have n1_ := Aside0.mk (blk_grown (g := gb177) (o := .cells #[.bool t173, .bool true, .bool t175, .bool t176] 109 (0, 0)) (by (with_reducible repeat (first | refine blk_drewN ?_ _ | refine blk_drew ?_ | refine blk_alloc ?_ _)); exact BK177.out) hg (Kd.R_ne HO_4.out BK177.out (by decide))); have n2_ := Aside0.mk (hb); have n3_ := Aside0.mk (ho); clear BK171; clear BK177; clear HB; clear HO_4; have BK171 := n0_; have BK177 := n1_; have HB := n2_; have HO193 := n3_; clear n0_ n1_ n2_ n3_; clear ho hb hg hat))
              go_meet
              case rel => exact ⟨_, (y191), H', ⟨by have := HJ4.out; first | omega | exact Nat.le_refl _⟩, ⟨by (with_reducible repeat (first | apply Kd.R_alloc | apply Kd.R_drewN | apply Kd.R_drew)); exact HO193.out⟩, ⟨by (with_reducible repeat (first | refine blk_drewN ?_ _ | refine blk_drew ?_ | refine blk_alloc ?_ _)); exact BK171.out⟩, ⟨by (with_reducible repeat (first | refine blk_drewN ?_ _ | refine blk_drew ?_ | refine blk_alloc ?_ _)); exact BK177.out⟩, ⟨by repeat (first | (with_reducible first | exact HB.out | apply below_alloc | apply pw_below_drewN | apply below_drew1 | refine below_set ?_ GE171.out | refine below_set ?_ GE177.out) | exact HB.out)⟩⟩
            · rw [if_neg c45] at H
              exact absurd H (by simp)
          · replace c43 := Bool.eq_false_iff.mpr c43
            subst c43
            have H1 : (impl_SkyText.j1 kj4 x4_4 a0_0 a0_1 a0_2 a0_3 a0_4 a0_5 t173 false t175 t176) = some r := by rw [if_neg (show ¬ (false = true) by decide)] at H; exact H
            clear H
            have H := H1
            clear H1
            have H' := Aside0.mk H
            clear H
            go_wp2
            go_meet
            case rel => exact ⟨_, (x4_4), H', ⟨by have := HJ4.out; first | omega | exact Nat.le_refl _⟩, ⟨by (with_reducible repeat (first | apply Kd.R_alloc | apply Kd.R_drewN | apply Kd.R_drew)); exact HO_4.out⟩, ⟨by (with_reducible repeat (first | refine blk_drewN ?_ _ | refine blk_drew ?_ | refine blk_alloc ?_ _)); exact BK171.out⟩, ⟨by (with_reducible repeat (first | refine blk_drewN ?_ _ | refine blk_drew ?_ | refine blk_alloc ?_ _)); exact BK177.out⟩, ⟨by repeat (first | (with_reducible first | exact HB.out | apply below_alloc | apply pw_below_drewN | apply below_drew1 | refine below_set ?_ GE171.out | refine below_set ?_ GE177.out) | exact HB.out)⟩⟩
        case rest =>
          clear HC40
          try clear c1
          try clear c2
          try clear p2
          try clear c3
          try clear c4
          try clear p6
          try clear c7
          try clear c8
          try clear c12
          try clear c17
          try clear c19
          try clear c19b0
          try clear c19b1
          try clear c21
          try clear c21b0
          try clear c21b1
          try clear c21b2
          try clear c22
          try clear c22b0
          try clear c22b1
          try clear c22b2
          try clear c23
          try clear c24
          try clear c31
          try clear c31b0
          try clear c31b1
          try clear c31b2
          try clear c32
          try clear c32b0
          try clear c32b1
          try clear c32b2
          try clear c33
          try clear c34
          try clear c41
          try clear c43
          try clear c45
          try clear c46
          try clear hcz13_0
          try clear hcz13_1
          try clear hcz13_2
          try clear hcz13_3
          try clear hcz16_0
          try clear hcz16_1
          try clear hcz16_2
          try clear hcz16_3
          try clear hcz25_0
          try clear hcz25_1
          try clear hcz25_2
          try clear hcz25_3
          try clear hcz25_4
          try clear hcz25_5
          try clear hcz27_0
          try clear hcz27_1
          try clear hcz27_2
          try clear hcz27_3
          try clear hcz27_4
          try clear hcz27_5
          try clear hcz35_0
          try clear hcz35_1
          try clear hcz35_2
          try clear hcz35_3
          try clear hcz35_4
          try clear hcz35_5
          try clear hcz37_0
          try clear hcz37_1
          try clear hcz37_2
          try clear hcz37_3
          try clear hcz37_4
          try clear hcz37_5
          try clear hcz42_0
          try clear hcz42_1
          try clear hcz42_2
          try clear hcz42_3
          try clear hcz47_0
          try clear hcz47_1
          try clear hcz47_2
          try clear hcz47_3
          try clear hcz47_4
          try clear hcz47_5
          try clear hcz7_0
          try clear hcz7_1
          try clear hcz7_2
          try clear hcz7_3
          try clear hcz7_4
          try clear hcz7_5
          try clear hcz9_0
          try clear hcz9_1
          try clear hcz9_2
          try clear hcz9_3
          try clear hcz9_4
          try clear hcz9_5
          try clear hfz13_0
          try clear hfz13_1
          try clear hfz13_2
          try clear hfz13_3
          try clear hfz16_0
          try clear hfz16_1
          try clear hfz16_2
          try clear hfz16_3
          try clear hfz25_0
          try clear hfz25_1
          try clear hfz25_2
          try clear hfz25_3
          try clear hfz25_4
          try clear hfz25_5
          try clear hfz27_0
          try clear hfz27_1
          try clear hfz27_2
          try clear hfz27_3
          try clear hfz27_4
          try clear hfz27_5
          try clear hfz35_0
          try clear hfz35_1
          try clear hfz35_2
          try clear hfz35_3
          try clear hfz35_4
          try clear hfz35_5
          try clear hfz37_0
          try clear hfz37_1
          try clear hfz37_2
          try clear hfz37_3
          try clear hfz37_4
          try clear hfz37_5
          try clear hfz42_0
          try clear hfz42_1
          try clear hfz42_2
          try clear hfz42_3
          try clear hfz47_0
          try clear hfz47_1
          try clear hfz47_2
          try clear hfz47_3
          try clear hfz47_4
          try clear hfz47_5
          try clear hfz7_0
          try clear hfz7_1
          try clear hfz7_2
          try clear hfz7_3
          try clear hfz7_4
          try clear hfz7_5
          try clear hfz9_0
          try clear hfz9_1
          try clear hfz9_2
          try clear hfz9_3
          try clear hfz9_4
          try clear hfz9_5
          try clear p2
          try clear p6
          obtain ⟨kq, x4_39, HA, HJ39, HO_4, BK171, BK177, HB⟩ := hcut
          cases kq with
          | zero => exact absurd HA.out (by simp [impl_SkyText.j1])
          | succ kj39 =>
            have H := HA.out
            clear HA
            simp only [impl_SkyText.j1] at H
            have HC50 := Aside0.mk H
            clear H
            have hnb51 := NB177_171.out
            have hnc51 := NB171_177.out
            have hcz52_0 : wc.cell? ⟨gb177, 0, none⟩ = some (.bool t173) := (blk_cell BK177.out 0).trans rfl
            have hcz52_1 : wc.cell? ⟨gb177, 1, none⟩ = some (.bool t174) := (blk_cell BK177.out 1).trans rfl
            have hcz52_2 : wc.cell? ⟨gb177, 2, none⟩ = some (.bool t175) := (blk_cell BK177.out 2).trans rfl
            have hcz52_3 : wc.cell? ⟨gb177, 3, none⟩ = some (.bool t176) := (blk_cell BK177.out 3).trans rfl
            have hfz52_0 := blk_frozen BK177.out 0
            have hfz52_1 := blk_frozen BK177.out 1
            have hfz52_2 := blk_frozen BK177.out 2
            have hfz52_3 := blk_frozen BK177.out 3
            go_upto_if 39 with (fail)
            go_cut [4] (fun v4 wc => ∃ (kq : Nat) (x4_49 : List ByteArray), Aside0 (impl_SkyText.j2 kq x4_49 a0_0 a0_1 a0_2 a0_3 a0_4 a0_5 t173 t174 t175 t176 = some r) ∧ Aside0 (kq ≤ kj39) ∧ Aside0 (Kd.R Kd.string 9 wc w.heap.size (fun _ => True) v4 x4_49) ∧ Aside0 (wc.heap[gb171]? = some (.cells #[.int .i64 a0_0, .int .i64 a0_1, .int .i64 a0_2, .string a0_3, .string a0_4, .int .i64 a0_5] 30 (0, 0))) ∧ Aside0 (wc.heap[gb177]? = some (.cells #[.bool t173, .bool t174, .bool t175, .bool t176] 109 (0, 0))) ∧ Aside0 (Below w.heap.size w wc))
            case first =>
              have H := HC50.out
              clear HC50
              by_cases c53 : t175 = true
              · subst c53
                have H1 : (if x4_39.length < 8796093022208 then (impl_SkyText.j2 kj39 (x4_39 ++ [a0_3]) a0_0 a0_1 a0_2 a0_3 a0_4 a0_5 t173 t174 true t176) else (none)) = some r := by rw [if_pos rfl] at H; exact H
                clear H
                have H := H1
                clear H1
                by_cases c54 : x4_39.length < 8796093022208
                · rw [if_pos c54] at H
                  have LMc54 := Aside0.mk c54
                  clear c54
                  obtain ⟨y194, hy194⟩ : ∃ y_ : List ByteArray, y_ = (x4_39 ++ [a0_3]) := ⟨_, rfl⟩
                  replace H : (impl_SkyText.j2 kj39 y194 a0_0 a0_1 a0_2 a0_3 a0_4 a0_5 t173 t174 true t176) = some r := by first | (rw [hy194]; with_reducible exact H) | (have H2_ := (Option.bind_some _ _).symm.trans H; rw [hy194]; with_reducible exact H2_) | (have H2_ := (Option.bind_some _ _).symm.trans H; with_reducible exact H2_) | with_reducible exact H | (rw [hy194]; exact H) | exact H
                  have Ny194 := Aside0.mk hy194
                  clear hy194
                  have H' := Aside0.mk H
                  clear H
                  have hnb55 := NB171_177.out
                  have hnc55 := NB177_171.out
                  have hcz56_0 : wc.cell? ⟨gb171, 0, none⟩ = some (.int .i64 a0_0) := (blk_cell BK171.out 0).trans rfl
                  have hcz56_1 : wc.cell? ⟨gb171, 1, none⟩ = some (.int .i64 a0_1) := (blk_cell BK171.out 1).trans rfl
                  have hcz56_2 : wc.cell? ⟨gb171, 2, none⟩ = some (.int .i64 a0_2) := (blk_cell BK171.out 2).trans rfl
                  have hcz56_3 : wc.cell? ⟨gb171, 3, none⟩ = some (.string a0_3) := (blk_cell BK171.out 3).trans rfl
                  have hcz56_4 : wc.cell? ⟨gb171, 4, none⟩ = some (.string a0_4) := (blk_cell BK171.out 4).trans rfl
                  have hcz56_5 : wc.cell? ⟨gb171, 5, none⟩ = some (.int .i64 a0_5) := (blk_cell BK171.out 5).trans rfl
                  have hfz56_0 := blk_frozen BK171.out 0
                  have hfz56_1 := blk_frozen BK171.out 1
                  have hfz56_2 := blk_frozen BK171.out 2
                  have hfz56_3 := blk_frozen BK171.out 3
                  have hfz56_4 := blk_frozen BK171.out 4
                  have hfz56_5 := blk_frozen BK171.out 5
                  go_wp2_with (first | ((with_reducible refine gate_builtin (b := .append) (xs := #[.tmp 40, .tmp 43]) rfl ?_); at_builtin; refine Kd.R_append Kd.string (w0 := w) w.heap.size rfl (.tmp 40) (.tmp 43) 107 9 (.string ⟨#[]⟩) 16 rfl Tryd.underlying107 info9 rfl (by decide) (by omega) u4 x4_39 a0_3 [.string a0_3] (fun _ => True) (fun _ => False) rfl rfl ?aP (fun _ hk => hk.elim) ?aF ?aO ?aB ?aS ?aL ?_; (case aP => exact rfl); (case aB => exact (by repeat (first | (with_reducible first | exact HB.out | apply below_alloc | apply pw_below_drewN | apply below_drew1 | refine below_set ?_ GE171.out | refine below_set ?_ GE177.out) | exact HB.out))); (case aF => exact (fun _ _ => trivial)); (case aO => exact (by (with_reducible repeat (first | apply Kd.R_alloc | apply Kd.R_drewN | apply Kd.R_drew)); exact HO_4.out)); (case aS => exact (below_size (by repeat (first | (with_reducible first | exact HB.out | apply below_alloc | apply pw_below_drewN | apply below_drew1 | refine below_set ?_ GE171.out | refine below_set ?_ GE177.out) | exact HB.out)))); (case aL => have := LMc54.out; omega); intro v195 w57 ho hb hg hat; rw [← Ny194.out] at ho; have n0_ := Aside0.mk (blk_grown (g := gb171) (o := .cells #[.int .i64 a0_0, .int .i64 a0_1, .int .i64 a0_2, .string a0_3, .string a0_4, .int .i64 a0_5] 30 (0, 0)) (by (with_reducible repeat (first | refine blk_drewN ?_ _ | refine blk_drew ?_ | refine blk_alloc ?_ _)); exact BK171.out) hg (Kd.R_ne HO_4.out BK171.out (by decide))); have n1_ := Aside0.mk (blk_grown (g := gb177) (o := .cells #[.bool t173, .bool t174, .bool true, .bool t176] 109 (0, 0)) (by (with_reducible repeat (first | refine blk_drewN ?_ _ | refine blk_drew ?_ | refine blk_alloc ?_ _)); exact BK177.out) hg (Kd.R_ne HO_4.out BK177.out (by decide))); have n2_ := Aside0.mk (hb); have n3_ := Aside0.mk (ho); clear BK171; clear BK177; clear HB; clear HO_4; have BK171 := n0_; have BK177 := n1_; have HB := n2_; have HO196 := n3_; clear n0_ n1_ n2_ n3_; clear ho hb hg hat))
                  go_meet
                  case rel => exact ⟨_, (y194), H', ⟨by have := HJ4.out; have := HJ39.out; first | omega | exact Nat.le_refl _⟩, ⟨by (with_reducible repeat (first | apply Kd.R_alloc | apply Kd.R_drewN | apply Kd.R_drew)); exact HO196.out⟩, ⟨by (with_reducible repeat (first | refine blk_drewN ?_ _ | refine blk_drew ?_ | refine blk_alloc ?_ _)); exact BK171.out⟩, ⟨by (with_reducible repeat (first | refine blk_drewN ?_ _ | refine blk_drew ?_ | refine blk_alloc ?_ _)); exact BK177.out⟩, ⟨by repeat (first | (with_reducible first | exact HB.out | apply below_alloc | apply pw_below_drewN | apply below_drew1 | refine below_set ?_ GE171.out | refine below_set ?_ GE177.out) | exact HB.out)⟩⟩
                · rw [if_neg c54] at H
                  exact absurd H (by simp)
              · replace c53 := Bool.eq_false_iff.mpr c53
                subst c53
                have H1 : (impl_SkyText.j2 kj39 x4_39 a0_0 a0_1 a0_2 a0_3 a0_4 a0_5 t173 t174 false t176) = some r := by rw [if_neg (show ¬ (false = true) by decide)] at H; exact H
                clear H
                have H := H1
                clear H1
                have H' := Aside0.mk H
                clear H
                go_wp2
                go_meet
                case rel => exact ⟨_, (x4_39), H', ⟨by have := HJ4.out; have := HJ39.out; first | omega | exact Nat.le_refl _⟩, ⟨by (with_reducible repeat (first | apply Kd.R_alloc | apply Kd.R_drewN | apply Kd.R_drew)); exact HO_4.out⟩, ⟨by (with_reducible repeat (first | refine blk_drewN ?_ _ | refine blk_drew ?_ | refine blk_alloc ?_ _)); exact BK171.out⟩, ⟨by (with_reducible repeat (first | refine blk_drewN ?_ _ | refine blk_drew ?_ | refine blk_alloc ?_ _)); exact BK177.out⟩, ⟨by repeat (first | (with_reducible first | exact HB.out | apply below_alloc | apply pw_below_drewN | apply below_drew1 | refine below_set ?_ GE171.out | refine below_set ?_ GE177.out) | exact HB.out)⟩⟩
            case rest =>
              clear HC50
              try clear c1
              try clear c2
              try clear p2
              try clear c3
              try clear c4
              try clear c5
              try clear p6
              try clear c7
              try clear c8
              try clear c12
              try clear c17
              try clear c19
              try clear c19b0
              try clear c19b1
              try clear c21
              try clear c21b0
              try clear c21b1
              try clear c21b2
              try clear c22
              try clear c22b0
              try clear c22b1
              try clear c22b2
              try clear c23
              try clear c24
              try clear c31
              try clear c31b0
              try clear c31b1
              try clear c31b2
              try clear c32
              try clear c32b0
              try clear c32b1
              try clear c32b2
              try clear c33
              try clear c34
              try clear c41
              try clear c43
              try clear c45
              try clear c46
              try clear c51
              try clear c53
              try clear c54
              try clear c55
              try clear hcz13_0
              try clear hcz13_1
              try clear hcz13_2
              try clear hcz13_3
              try clear hcz16_0
              try clear hcz16_1
              try clear hcz16_2
              try clear hcz16_3
              try clear hcz25_0
              try clear hcz25_1
              try clear hcz25_2
              try clear hcz25_3
              try clear hcz25_4
              try clear hcz25_5
              try clear hcz27_0
              try clear hcz27_1
              try clear hcz27_2
              try clear hcz27_3
              try clear hcz27_4
              try clear hcz27_5
              try clear hcz35_0
              try clear hcz35_1
              try clear hcz35_2
              try clear hcz35_3
              try clear hcz35_4
              try clear hcz35_5
              try clear hcz37_0
              try clear hcz37_1
              try clear hcz37_2
              try clear hcz37_3
              try clear hcz37_4
              try clear hcz37_5
              try clear hcz42_0
              try clear hcz42_1
              try clear hcz42_2
              try clear hcz42_3
              try clear hcz47_0
              try clear hcz47_1
              try clear hcz47_2
              try clear hcz47_3
              try clear hcz47_4
              try clear hcz47_5
              try clear hcz52_0
              try clear hcz52_1
              try clear hcz52_2
              try clear hcz52_3
              try clear hcz56_0
              try clear hcz56_1
              try clear hcz56_2
              try clear hcz56_3
              try clear hcz56_4
              try clear hcz56_5
              try clear hcz7_0
              try clear hcz7_1
              try clear hcz7_2
              try clear hcz7_3
              try clear hcz7_4
              try clear hcz7_5
              try clear hcz9_0
              try clear hcz9_1
              try clear hcz9_2
              try clear hcz9_3
              try clear hcz9_4
              try clear hcz9_5
              try clear hfz13_0
              try clear hfz13_1
              try clear hfz13_2
              try clear hfz13_3
              try clear hfz16_0
              try clear hfz16_1
              try clear hfz16_2
              try clear hfz16_3
              try clear hfz25_0
              try clear hfz25_1
              try clear hfz25_2
              try clear hfz25_3
              try clear hfz25_4
              try clear hfz25_5
              try clear hfz27_0
              try clear hfz27_1
              try clear hfz27_2
              try clear hfz27_3
              try clear hfz27_4
              try clear hfz27_5
              try clear hfz35_0
              try clear hfz35_1
              try clear hfz35_2
              try clear hfz35_3
              try clear hfz35_4
              try clear hfz35_5
              try clear hfz37_0
              try clear hfz37_1
              try clear hfz37_2
              try clear hfz37_3
              try clear hfz37_4
              try clear hfz37_5
              try clear hfz42_0
              try clear hfz42_1
              try clear hfz42_2
              try clear hfz42_3
              try clear hfz47_0
              try clear hfz47_1
              try clear hfz47_2
              try clear hfz47_3
              try clear hfz47_4
              try clear hfz47_5
              try clear hfz52_0
              try clear hfz52_1
              try clear hfz52_2
              try clear hfz52_3
              try clear hfz56_0
              try clear hfz56_1
              try clear hfz56_2
              try clear hfz56_3
              try clear hfz56_4
              try clear hfz56_5
              try clear hfz7_0
              try clear hfz7_1
              try clear hfz7_2
              try clear hfz7_3
              try clear hfz7_4
              try clear hfz7_5
              try clear hfz9_0
              try clear hfz9_1
              try clear hfz9_2
              try clear hfz9_3
              try clear hfz9_4
              try clear hfz9_5
              try clear p2
              try clear p6
              obtain ⟨kq, x4_49, HA, HJ49, HO_4, BK171, BK177, HB⟩ := hcut
              cases kq with
              | zero => exact absurd HA.out (by simp [impl_SkyText.j2])
              | succ kj49 =>
                have H := HA.out
                clear HA
                simp only [impl_SkyText.j2] at H
                by_cases c58 : a0_4.toList = ([83, 75, 67] : List UInt8)
                · rw [if_pos c58] at H
                  have c58b0 : (a0_4.toList == ([83, 75, 67] : List UInt8)) = true := beq_iff_eq.mpr c58
                  have c58b1 : (a0_4.toList != ([83, 75, 67] : List UInt8)) = false := bne_eq_false_iff_eq.mpr c58
                  clear c58
                  by_cases c59 : x4_49.length < 8796093022208
                  · rw [if_pos c59] at H
                    have LMc59 := Aside0.mk c59
                    clear c59
                    obtain ⟨y197, hy197⟩ : ∃ y_ : List ByteArray, y_ = (x4_49 ++ [(⟨#[83, 75, 67]⟩ : ByteArray)]) := ⟨_, rfl⟩
                    replace H : ((strings_Join.f y197 (⟨#[32]⟩ : ByteArray)).bind fun t200 => (some t200)) = some r := by first | (rw [hy197]; with_reducible exact H) | (have H2_ := (Option.bind_some _ _).symm.trans H; rw [hy197]; with_reducible exact H2_) | (have H2_ := (Option.bind_some _ _).symm.trans H; with_reducible exact H2_) | with_reducible exact H | (rw [hy197]; exact H) | exact H
                    have Ny197 := Aside0.mk hy197
                    clear hy197
                    replace H := Option.bind_eq_some_iff.mp H
                    obtain ⟨t200, A600, H⟩ := H
                    replace H : (some t200) = some r := H
                    have A60 := Aside0.mk A600
                    clear A600
                    obtain rfl := Option.some.inj H
                    have hnb61 := NB171_177.out
                    have hnc61 := NB177_171.out
                    have hcz62_0 : wc.cell? ⟨gb171, 0, none⟩ = some (.int .i64 a0_0) := (blk_cell BK171.out 0).trans rfl
                    have hcz62_1 : wc.cell? ⟨gb171, 1, none⟩ = some (.int .i64 a0_1) := (blk_cell BK171.out 1).trans rfl
                    have hcz62_2 : wc.cell? ⟨gb171, 2, none⟩ = some (.int .i64 a0_2) := (blk_cell BK171.out 2).trans rfl
                    have hcz62_3 : wc.cell? ⟨gb171, 3, none⟩ = some (.string a0_3) := (blk_cell BK171.out 3).trans rfl
                    have hcz62_4 : wc.cell? ⟨gb171, 4, none⟩ = some (.string a0_4) := (blk_cell BK171.out 4).trans rfl
                    have hcz62_5 : wc.cell? ⟨gb171, 5, none⟩ = some (.int .i64 a0_5) := (blk_cell BK171.out 5).trans rfl
                    have hfz62_0 := blk_frozen BK171.out 0
                    have hfz62_1 := blk_frozen BK171.out 1
                    have hfz62_2 := blk_frozen BK171.out 2
                    have hfz62_3 := blk_frozen BK171.out 3
                    have hfz62_4 := blk_frozen BK171.out 4
                    have hfz62_5 := blk_frozen BK171.out 5
                    go_wp2_with (first | ((with_reducible refine gate_builtin (b := .append) (xs := #[.tmp 48, .tmp 49]) rfl ?_); at_builtin; refine Kd.R_append Kd.string (w0 := w) w.heap.size rfl (.tmp 48) (.tmp 49) 107 9 (.string ⟨#[]⟩) 16 rfl Tryd.underlying107 info9 rfl (by decide) (by omega) u4 x4_49 (⟨#[83, 75, 67]⟩ : ByteArray) [.string (⟨#[83, 75, 67]⟩ : ByteArray)] (fun _ => True) (fun _ => False) rfl rfl ?aP (fun _ hk => hk.elim) ?aF ?aO ?aB ?aS ?aL ?_; (case aP => exact rfl); (case aB => exact (by repeat (first | (with_reducible first | exact HB.out | apply below_alloc | apply pw_below_drewN | apply below_drew1 | refine below_set ?_ GE171.out | refine below_set ?_ GE177.out) | exact HB.out))); (case aF => exact (fun _ _ => trivial)); (case aO => exact (by (with_reducible repeat (first | apply Kd.R_alloc | apply Kd.R_drewN | apply Kd.R_drew)); exact HO_4.out)); (case aS => exact (below_size (by repeat (first | (with_reducible first | exact HB.out | apply below_alloc | apply pw_below_drewN | apply below_drew1 | refine below_set ?_ GE171.out | refine below_set ?_ GE177.out) | exact HB.out)))); (case aL => have := LMc59.out; omega); intro v198 w63 ho hb hg hat; rw [← Ny197.out] at ho; have n0_ := Aside0.mk (blk_grown (g := gb171) (o := .cells #[.int .i64 a0_0, .int .i64 a0_1, .int .i64 a0_2, .string a0_3, .string a0_4, .int .i64 a0_5] 30 (0, 0)) (by (with_reducible repeat (first | refine blk_drewN ?_ _ | refine blk_drew ?_ | refine blk_alloc ?_ _)); exact BK171.out) hg (Kd.R_ne HO_4.out BK171.out (by decide))); have n1_ := Aside0.mk (blk_grown (g := gb177) (o := .cells #[.bool t173, .bool t174, .bool t175, .bool t176] 109 (0, 0)) (by (with_reducible repeat (first | refine blk_drewN ?_ _ | refine blk_drew ?_ | refine blk_alloc ?_ _)); exact BK177.out) hg (Kd.R_ne HO_4.out BK177.out (by decide))); have n2_ := Aside0.mk (hb); have n3_ := Aside0.mk (ho); clear BK171; clear BK177; clear HB; clear HO_4; have BK171 := n0_; have BK177 := n1_; have HB := n2_; have HO199 := n3_; clear n0_ n1_ n2_ n3_; clear ho hb hg hat; obtain ⟨Ao64, co64, eo64⟩ := Kd.R_slice HO199.out; subst eo64) | ((with_reducible refine gate_callee (f := 87) rfl ?_); refine goesL_ (some 63) rfl rfl Tryd.func87 (by kernel_rfl) rfl #[.slice Ao64 y197.length co64, .string (⟨#[32]⟩ : ByteArray)] rfl (by (try simp only [List.map_toArray, List.map_cons, List.map_nil]); first | done | rfl | (simp only [List.length_drop, List.length_take]; rfl)) ?_; (with_reducible refine (strings_Join.calls _ _ y197 (⟨#[32]⟩ : ByteArray) t200 _ ?side1 ?side2 A60.out).mono ?_); (case side1 => repeat (first | exact (Kd.R_reads' HO199.out).2.2 | (with_reducible refine Kd.C_alloc ?_ _) | (with_reducible refine Kd.C_drewN ?_ _) | (with_reducible refine Kd.C_drew ?_))); (case side2 => exact (Kd.R_reads' HO199.out).2.1); rintro e w65 ⟨rfl, hb⟩; refine ⟨_, rfl, ?_⟩; have n0_ := Aside0.mk (Kd.R_below (by (with_reducible repeat (first | apply Kd.R_alloc | apply Kd.R_drewN | apply Kd.R_drew)); exact HO199.out) hb); have n1_ := Aside0.mk (blk_below (g := gb171) (o := .cells #[.int .i64 a0_0, .int .i64 a0_1, .int .i64 a0_2, .string a0_3, .string a0_4, .int .i64 a0_5] 30 (0, 0)) (by (with_reducible repeat (first | refine blk_drewN ?_ _ | refine blk_drew ?_ | refine blk_alloc ?_ _)); exact BK171.out) hb); have n2_ := Aside0.mk (blk_below (g := gb177) (o := .cells #[.bool t173, .bool t174, .bool t175, .bool t176] 109 (0, 0)) (by (with_reducible repeat (first | refine blk_drewN ?_ _ | refine blk_drew ?_ | refine blk_alloc ?_ _)); exact BK177.out) hb); have n3_ := Aside0.mk (below_step (by repeat (first | (with_reducible first | exact HB.out | apply below_alloc | apply pw_below_drewN | apply below_drew1 | refine below_set ?_ GE171.out | refine below_set ?_ GE177.out) | exact HB.out)) hb); clear HO199; clear BK171; clear BK177; clear HB; have HO199 := n0_; have BK171 := n1_; have BK177 := n2_; have HB := n3_; clear n0_ n1_ n2_ n3_; (try clear hb); (try clear hb2); (try clear hk); (try clear hi)))
                    go_ret
                    exact ⟨by first | rfl | (simp [errW_none, errW_some] <;> rfl) | (simp [*, errW_none, errW_some] <;> rfl), by repeat (first | (with_reducible first | exact HB.out | apply below_alloc | apply pw_below_drewN | apply below_drew1 | refine below_set ?_ GE171.out | refine below_set ?_ GE177.out) | exact HB.out)⟩
                  · rw [if_neg c59] at H
                    exact absurd H (by simp)
                · rw [if_neg c58] at H
                  have c58b0 : (a0_4.toList == ([83, 75, 67] : List UInt8)) = false := beq_eq_false_iff_ne.mpr c58
                  have c58b1 : (a0_4.toList != ([83, 75, 67] : List UInt8)) = true := bne_iff_ne.mpr c58
                  by_cases c66 : t176 = true
                  · subst c66
                    have H1 : ((impl_fill.f a0_5 3).bind fun t201 => (if a0_4.size + t201.size ≤ 9223372036854775807 then (if x4_49.length < 8796093022208 then ((strings_Join.f (x4_49 ++ [a0_4 ++ t201]) (⟨#[32]⟩ : ByteArray)).bind fun t205 => (some t205)) else (none)) else (none))) = some r := by rw [if_pos rfl] at H; exact H
                    clear H
                    have H := H1
                    clear H1
                    replace H := Option.bind_eq_some_iff.mp H
                    obtain ⟨t201, A670, H⟩ := H
                    replace H : (if a0_4.size + t201.size ≤ 9223372036854775807 then (if x4_49.length < 8796093022208 then ((strings_Join.f (x4_49 ++ [a0_4 ++ t201]) (⟨#[32]⟩ : ByteArray)).bind fun t205 => (some t205)) else (none)) else (none)) = some r := H
                    have A67 := Aside0.mk A670
                    clear A670
                    by_cases c68 : a0_4.size + t201.size ≤ 9223372036854775807
                    · rw [if_pos c68] at H
                      have c68b0 := eq_true c68
                      have c68b1 : decide (a0_4.size + t201.size ≤ 9223372036854775807) = true := decide_eq_true c68
                      try have c68b2 : (9223372036854775807 < a0_4.size + t201.size) = False := eq_false (Nat.not_lt.2 c68)
                      by_cases c69 : x4_49.length < 8796093022208
                      · rw [if_pos c69] at H
                        have LMc69 := Aside0.mk c69
                        clear c69
                        obtain ⟨y202, hy202⟩ : ∃ y_ : List ByteArray, y_ = (x4_49 ++ [a0_4 ++ t201]) := ⟨_, rfl⟩
                        replace H : ((strings_Join.f y202 (⟨#[32]⟩ : ByteArray)).bind fun t205 => (some t205)) = some r := by first | (rw [hy202]; with_reducible exact H) | (have H2_ := (Option.bind_some _ _).symm.trans H; rw [hy202]; with_reducible exact H2_) | (have H2_ := (Option.bind_some _ _).symm.trans H; with_reducible exact H2_) | with_reducible exact H | (rw [hy202]; exact H) | exact H
                        have Ny202 := Aside0.mk hy202
                        clear hy202
                        replace H := Option.bind_eq_some_iff.mp H
                        obtain ⟨t205, A700, H⟩ := H
                        replace H : (some t205) = some r := H
                        have A70 := Aside0.mk A700
                        clear A700
                        obtain rfl := Option.some.inj H
                        have hnb71 := NB171_177.out
                        have hnc71 := NB177_171.out
                        have hcz72_0 : wc.cell? ⟨gb171, 0, none⟩ = some (.int .i64 a0_0) := (blk_cell BK171.out 0).trans rfl
                        have hcz72_1 : wc.cell? ⟨gb171, 1, none⟩ = some (.int .i64 a0_1) := (blk_cell BK171.out 1).trans rfl
                        have hcz72_2 : wc.cell? ⟨gb171, 2, none⟩ = some (.int .i64 a0_2) := (blk_cell BK171.out 2).trans rfl
                        have hcz72_3 : wc.cell? ⟨gb171, 3, none⟩ = some (.string a0_3) := (blk_cell BK171.out 3).trans rfl
                        have hcz72_4 : wc.cell? ⟨gb171, 4, none⟩ = some (.string a0_4) := (blk_cell BK171.out 4).trans rfl
                        have hcz72_5 : wc.cell? ⟨gb171, 5, none⟩ = some (.int .i64 a0_5) := (blk_cell BK171.out 5).trans rfl
                        have hfz72_0 := blk_frozen BK171.out 0
                        have hfz72_1 := blk_frozen BK171.out 1
                        have hfz72_2 := blk_frozen BK171.out 2
                        have hfz72_3 := blk_frozen BK171.out 3
                        have hfz72_4 := blk_frozen BK171.out 4
                        have hfz72_5 := blk_frozen BK171.out 5
                        have hcz73_0 : wc.cell? ⟨gb177, 0, none⟩ = some (.bool t173) := (blk_cell BK177.out 0).trans rfl
                        have hcz73_1 : wc.cell? ⟨gb177, 1, none⟩ = some (.bool t174) := (blk_cell BK177.out 1).trans rfl
                        have hcz73_2 : wc.cell? ⟨gb177, 2, none⟩ = some (.bool t175) := (blk_cell BK177.out 2).trans rfl
                        have hcz73_3 : wc.cell? ⟨gb177, 3, none⟩ = some (.bool true) := (blk_cell BK177.out 3).trans rfl
                        have hfz73_0 := blk_frozen BK177.out 0
                        have hfz73_1 := blk_frozen BK177.out 1
                        have hfz73_2 := blk_frozen BK177.out 2
                        have hfz73_3 := blk_frozen BK177.out 3
                        try go_wp2
                        have n0_ := Aside0.mk (Kd.R_drew HO_4.out)
                        have n1_ := Aside0.mk (blk_drew BK171.out)
                        have n2_ := Aside0.mk (blk_drew BK177.out)
                        have n3_ := Aside0.mk (below_drew1 HB.out)
                        clear HO_4
                        clear BK171
                        clear BK177
                        clear HB
                        have HO_4 := n0_
                        have BK171 := n1_
                        have BK177 := n2_
                        have HB := n3_
                        clear n0_ n1_ n2_ n3_
                        refine start_ (n := 10) (S := fun w' => w'.cell? ⟨gb171, 0, none⟩ = some (.int .i64 a0_0) ∧ w'.cell? ⟨gb171, 1, none⟩ = some (.int .i64 a0_1) ∧ w'.cell? ⟨gb171, 2, none⟩ = some (.int .i64 a0_2) ∧ w'.cell? ⟨gb171, 3, none⟩ = some (.string a0_3) ∧ w'.cell? ⟨gb171, 4, none⟩ = some (.string a0_4) ∧ w'.cell? ⟨gb171, 5, none⟩ = some (.int .i64 a0_5)) (ds := []) #[false, false, false, false, false, false, false, false, false, false] (by kernel_rfl) rfl rfl ⟨(blk_cell BK171.out 0).trans rfl, (blk_cell BK171.out 1).trans rfl, (blk_cell BK171.out 2).trans rfl, (blk_cell BK171.out 3).trans rfl, (blk_cell BK171.out 4).trans rfl, (blk_cell BK171.out 5).trans rfl⟩ (fun hHeld => ?_); refine with_tabW impl_SkyText.tab17 impl_SkyText.bits17 (fun HT_ HW_ => ?_)
                        generalize wc.drew = w74 at HO_4 BK171 BK177 HB hHeld ⊢
                        refine pure_ (i := 0) (N := some 53) (v := ?_) (a' := ?_) #[true, false, false, false, false, false, false, false, false, false] rfl rfl (any_of HT_.out (by kernel_rfl)) (fun _ _ _ h => h) (Or.inl ⟨by rfl, ?_⟩) ?_ ?_
                        rotate_left
                        · intro w'
                          go_simp
                          with_reducible rfl
                        rotate_left
                        · simp only [Act.put, List.setIfInBounds_toArray, List.set_cons_zero, List.set_cons_succ, i64_w, i32_w]
                          rfl
                        refine pure_ (i := 1) (N := some 54) (v := ?_) (a' := ?_) #[true, true, false, false, false, false, false, false, false, false] rfl rfl (any_of HT_.out (by kernel_rfl)) (fun _ _ _ h => h) (Or.inl ⟨by rfl, ?_⟩) ?_ ?_
                        rotate_left
                        · intro w'
                          go_simp
                          with_reducible rfl
                        rotate_left
                        · simp only [Act.put, List.setIfInBounds_toArray, List.set_cons_zero, List.set_cons_succ, i64_w, i32_w]
                          rfl
                        refine pure_ (i := 3) (N := some 56) (v := ?_) (a' := ?_) #[true, true, false, true, false, false, false, false, false, false] rfl rfl (any_of HT_.out (by kernel_rfl)) (fun _ _ _ h => h) (Or.inl ⟨by rfl, ?_⟩) ?_ ?_
                        rotate_left
                        · intro w'
                          go_simp
                          with_reducible rfl
                        rotate_left
                        · simp only [Act.put, List.setIfInBounds_toArray, List.set_cons_zero, List.set_cons_succ, i64_w, i32_w]
                          rfl
                        refine take_ (i := 2) (N := some 55) (v := ?_) (a' := ?_) #[true, true, true, true, false, false, false, false, false, false] rfl rfl (take_ofW HT_.out HW_.out (by kernel_rfl)) (fun _ _ _ h => h) (Or.inl ⟨by rfl, ?_⟩) hHeld ?_ ?_
                        rotate_left
                        · rintro w' ⟨s0, s1, s2, s3, s4, s5⟩
                          go_simp
                          with_reducible rfl
                        rotate_left
                        · simp only [Act.put, List.setIfInBounds_toArray, List.set_cons_zero, List.set_cons_succ, i64_w, i32_w]
                          rfl
                        refine take_ (i := 4) (N := some 57) (v := ?_) (a' := ?_) #[true, true, true, true, true, false, false, false, false, false] rfl rfl (take_ofW HT_.out HW_.out (by kernel_rfl)) (fun _ _ _ h => h) (Or.inl ⟨by rfl, ?_⟩) hHeld ?_ ?_
                        rotate_left
                        · rintro w' ⟨s0, s1, s2, s3, s4, s5⟩
                          go_simp
                          with_reducible rfl
                        rotate_left
                        · simp only [Act.put, List.setIfInBounds_toArray, List.set_cons_zero, List.set_cons_succ, i64_w, i32_w]
                          rfl
                        refine one_ (i := 5) (N := some 58) #[true, true, true, true, true, true, false, false, false, false] rfl rfl (one_of HT_.out (by kernel_rfl)) (by decide) (fun K hK => ?_)
                        refine goes_ Tryd.func79 (by kernel_rfl) rfl #[.int .i64 a0_5, .int .i64 3] (by rfl) rfl rfl (by (try simp only [List.map_toArray, List.map_cons, List.map_nil]); first | done | rfl | (simp only [List.length_drop, List.length_take]; rfl)) ?_
                        with_reducible refine (impl_fill.calls a0_5 3 t201 _ ?side1 A67.out).mono ?_
                        (case side1 => exact Gpow.below HGpow.out (by repeat (first | (with_reducible first | exact HB.out | apply below_alloc | apply pw_below_drewN | apply below_drew1 | refine below_set ?_ GE171.out | refine below_set ?_ GE177.out) | exact HB.out)))
                        rintro e w75 ⟨rfl, hb⟩
                        refine ⟨_, rfl, ?_⟩
                        have n0_ := Aside0.mk (Kd.R_below (by (with_reducible repeat (first | apply Kd.R_alloc | apply Kd.R_drewN | apply Kd.R_drew)); exact HO_4.out) hb)
                        have n1_ := Aside0.mk (blk_below (g := gb171) (o := .cells #[.int .i64 a0_0, .int .i64 a0_1, .int .i64 a0_2, .string a0_3, .string a0_4, .int .i64 a0_5] 30 (0, 0)) (by (with_reducible repeat (first | refine blk_drewN ?_ _ | refine blk_drew ?_ | refine blk_alloc ?_ _)); exact BK171.out) hb)
                        have n2_ := Aside0.mk (blk_below (g := gb177) (o := .cells #[.bool t173, .bool t174, .bool t175, .bool true] 109 (0, 0)) (by (with_reducible repeat (first | refine blk_drewN ?_ _ | refine blk_drew ?_ | refine blk_alloc ?_ _)); exact BK177.out) hb)
                        have n3_ := Aside0.mk (below_step (by repeat (first | (with_reducible first | exact HB.out | apply below_alloc | apply pw_below_drewN | apply below_drew1 | refine below_set ?_ GE171.out | refine below_set ?_ GE177.out) | exact HB.out)) hb)
                        clear HO_4
                        clear BK171
                        clear BK177
                        clear HB
                        have HO_4 := n0_
                        have BK171 := n1_
                        have BK177 := n2_
                        have HB := n3_
                        clear n0_ n1_ n2_ n3_
                        (try clear hb)
                        (try clear hb2)
                        (try clear hk)
                        (try clear hi)
                        refine hK.out _ _ ⟨(blk_cell BK171.out 0).trans rfl, (blk_cell BK171.out 1).trans rfl, (blk_cell BK171.out 2).trans rfl, (blk_cell BK171.out 3).trans rfl, (blk_cell BK171.out 4).trans rfl, (blk_cell BK171.out 5).trans rfl⟩ (fun hHeld => ?_)
                        clear hK K
                        refine norm_ (a' := ?_) ?_ ?_
                        rotate_left
                        · show Act.put _ (some 58) _ = _
                          simp only [Act.put, List.setIfInBounds_toArray, List.set_cons_zero, List.set_cons_succ, i64_w, i32_w]
                          rfl
                        refine pure_ (i := 6) (N := some 59) (v := ?_) (a' := ?_) #[true, true, true, true, true, true, true, false, false, false] rfl rfl (any_of HT_.out (by kernel_rfl)) (fun _ _ _ h => h) (Or.inl ⟨by rfl, ?_⟩) ?_ ?_
                        rotate_left
                        · intro w'
                          go_simp
                          with_reducible rfl
                        rotate_left
                        · simp only [Act.put, List.setIfInBounds_toArray, List.set_cons_zero, List.set_cons_succ, i64_w, i32_w]
                          rfl
                        refine one_ (i := 7) (N := some 60) #[true, true, true, true, true, true, true, true, false, false] rfl rfl (one_of HT_.out (by kernel_rfl)) (by decide) (fun K hK => ?_)
                        refine value_ (w1 := ?_) (v := ?_) (by rfl) rfl ?_ ?_
                        rotate_left 2
                        · go_simp
                          constructor
                          · rfl
                          · rfl
                        refine hK.out _ _ ⟨(blk_cell (blk_alloc BK171.out _) 0).trans rfl, (blk_cell (blk_alloc BK171.out _) 1).trans rfl, (blk_cell (blk_alloc BK171.out _) 2).trans rfl, (blk_cell (blk_alloc BK171.out _) 3).trans rfl, (blk_cell (blk_alloc BK171.out _) 4).trans rfl, (blk_cell (blk_alloc BK171.out _) 5).trans rfl⟩ (fun hHeld => ?_)
                        clear hK K
                        refine norm_ (a' := ?_) ?_ ?_
                        rotate_left
                        · show Act.put _ (some 60) _ = _
                          simp only [Act.put, List.setIfInBounds_toArray, List.set_cons_zero, List.set_cons_succ, i64_w, i32_w]
                          rfl
                        refine one_ (i := 8) (N := some 61) #[true, true, true, true, true, true, true, true, true, false] rfl rfl (one_of HT_.out (by kernel_rfl)) (by decide) (fun K hK => ?_)
                        refine Kd.R_append_step Kd.string (w0 := w) w.heap.size (by rfl) (.tmp 53) (.tmp 60) 107 9 (.string ⟨#[]⟩) 16 rfl Tryd.underlying107 info9 rfl (by decide) (by omega) u4 x4_49 (a0_4 ++ t201) [.string (a0_4 ++ t201)] (fun _ => True) (fun _ => False) rfl rfl ?aP (fun _ hk => hk.elim) ?aF ?aO ?aB ?aS ?aL ?_
                        (case aP => exact rfl)
                        (case aB => exact (by repeat (first | (with_reducible first | exact HB.out | apply below_alloc | apply pw_below_drewN | apply below_drew1 | refine below_set ?_ GE171.out | refine below_set ?_ GE177.out) | exact HB.out)))
                        (case aF => exact (fun _ _ => trivial))
                        (case aO => exact (by (with_reducible repeat (first | apply Kd.R_alloc | apply Kd.R_drewN | apply Kd.R_drew)); exact HO_4.out))
                        (case aS => exact (below_size (by repeat (first | (with_reducible first | exact HB.out | apply below_alloc | apply pw_below_drewN | apply below_drew1 | refine below_set ?_ GE171.out | refine below_set ?_ GE177.out) | exact HB.out))))
                        (case aL => have := LMc69.out; omega)
                        intro v203 w76 ho hb hg hat
                        rw [← Ny202.out] at ho
                        have n0_ := Aside0.mk (blk_grown (g := gb171) (o := .cells #[.int .i64 a0_0, .int .i64 a0_1, .int .i64 a0_2, .string a0_3, .string a0_4, .int .i64 a0_5] 30 (0, 0)) (by (with_reducible repeat (first | refine blk_drewN ?_ _ | refine blk_drew ?_ | refine blk_alloc ?_ _)); exact BK171.out) hg (Kd.R_ne HO_4.out BK171.out (by decide)))
                        have n1_ := Aside0.mk (blk_grown (g := gb177) (o := .cells #[.bool t173, .bool t174, .bool t175, .bool true] 109 (0, 0)) (by (with_reducible repeat (first | refine blk_drewN ?_ _ | refine blk_drew ?_ | refine blk_alloc ?_ _)); exact BK177.out) hg (Kd.R_ne HO_4.out BK177.out (by decide)))
                        have n2_ := Aside0.mk (hb)
                        have n3_ := Aside0.mk (ho)
                        clear BK171
                        clear BK177
                        clear HB
                        clear HO_4
                        have BK171 := n0_
                        have BK177 := n1_
                        have HB := n2_
                        have HO204 := n3_
                        clear n0_ n1_ n2_ n3_
                        clear ho hb hg hat
                        refine hK.out _ _ ⟨(blk_cell BK171.out 0).trans rfl, (blk_cell BK171.out 1).trans rfl, (blk_cell BK171.out 2).trans rfl, (blk_cell BK171.out 3).trans rfl, (blk_cell BK171.out 4).trans rfl, (blk_cell BK171.out 5).trans rfl⟩ (fun hHeld => ?_)
                        clear hK K
                        refine norm_ (a' := ?_) ?_ ?_
                        rotate_left
                        · show Act.put _ (some 61) _ = _
                          simp only [Act.put, List.setIfInBounds_toArray, List.set_cons_zero, List.set_cons_succ, i64_w, i32_w]
                          rfl
                        refine pure_ (i := 9) (N := some 4) (v := ?_) (a' := ?_) #[true, true, true, true, true, true, true, true, true, true] rfl rfl (any_of HT_.out (by kernel_rfl)) (fun _ _ _ h => h) (Or.inl ⟨by rfl, ?_⟩) ?_ ?_
                        rotate_left
                        · intro w'
                          go_simp
                          with_reducible rfl
                        rotate_left
                        · simp only [Act.put, List.setIfInBounds_toArray, List.set_cons_zero, List.set_cons_succ, i64_w, i32_w]
                          rfl
                        refine done_ (done_of HT_.out (by kernel_rfl)) ?_
                        obtain ⟨Ao77, co77, eo77⟩ := Kd.R_slice HO204.out
                        subst eo77
                        try go_wp2_with (first | ((with_reducible refine gate_callee (f := 87) rfl ?_); refine goesL_ (some 63) rfl rfl Tryd.func87 (by kernel_rfl) rfl #[.slice Ao77 y202.length co77, .string (⟨#[32]⟩ : ByteArray)] rfl (by (try simp only [List.map_toArray, List.map_cons, List.map_nil]); first | done | rfl | (simp only [List.length_drop, List.length_take]; rfl)) ?_; (with_reducible refine (strings_Join.calls _ _ y202 (⟨#[32]⟩ : ByteArray) t205 _ ?side1 ?side2 A70.out).mono ?_); (case side1 => repeat (first | exact (Kd.R_reads' HO204.out).2.2 | (with_reducible refine Kd.C_alloc ?_ _) | (with_reducible refine Kd.C_drewN ?_ _) | (with_reducible refine Kd.C_drew ?_))); (case side2 => exact (Kd.R_reads' HO204.out).2.1); rintro e w78 ⟨rfl, hb⟩; refine ⟨_, rfl, ?_⟩; have n0_ := Aside0.mk (Kd.R_below (by (with_reducible repeat (first | apply Kd.R_alloc | apply Kd.R_drewN | apply Kd.R_drew)); exact HO204.out) hb); have n1_ := Aside0.mk (blk_below (g := gb171) (o := .cells #[.int .i64 a0_0, .int .i64 a0_1, .int .i64 a0_2, .string a0_3, .string a0_4, .int .i64 a0_5] 30 (0, 0)) (by (with_reducible repeat (first | refine blk_drewN ?_ _ | refine blk_drew ?_ | refine blk_alloc ?_ _)); exact BK171.out) hb); have n2_ := Aside0.mk (blk_below (g := gb177) (o := .cells #[.bool t173, .bool t174, .bool t175, .bool true] 109 (0, 0)) (by (with_reducible repeat (first | refine blk_drewN ?_ _ | refine blk_drew ?_ | refine blk_alloc ?_ _)); exact BK177.out) hb); have n3_ := Aside0.mk (below_step (by repeat (first | (with_reducible first | exact HB.out | apply below_alloc | apply pw_below_drewN | apply below_drew1 | refine below_set ?_ GE171.out | refine below_set ?_ GE177.out) | exact HB.out)) hb); clear HO204; clear BK171; clear BK177; clear HB; have HO204 := n0_; have BK171 := n1_; have BK177 := n2_; have HB := n3_; clear n0_ n1_ n2_ n3_; (try clear hb); (try clear hb2); (try clear hk); (try clear hi)))
                        go_ret
                        exact ⟨by first | rfl | (simp [errW_none, errW_some] <;> rfl) | (simp [*, errW_none, errW_some] <;> rfl), by repeat (first | (with_reducible first | exact HB.out | apply below_alloc | apply pw_below_drewN | apply below_drew1 | refine below_set ?_ GE171.out | refine below_set ?_ GE177.out) | exact HB.out)⟩
                      · rw [if_neg c69] at H
                        exact absurd H (by simp)
                    · rw [if_neg c68] at H
                      exact absurd H (by simp)
                  · replace c66 := Bool.eq_false_iff.mpr c66
                    subst c66
                    have H1 : ((strings_Join.f x4_49 (⟨#[32]⟩ : ByteArray)).bind fun t206 => (some t206)) = some r := by rw [if_neg (show ¬ (false = true) by decide)] at H; exact H
                    clear H
                    have H := H1
                    clear H1
                    replace H := Option.bind_eq_some_iff.mp H
                    obtain ⟨t206, A790, H⟩ := H
                    replace H : (some t206) = some r := H
                    have A79 := Aside0.mk A790
                    clear A790
                    obtain rfl := Option.some.inj H
                    have hnb80 := NB171_177.out
                    have hnc80 := NB177_171.out
                    have hcz81_0 : wc.cell? ⟨gb171, 0, none⟩ = some (.int .i64 a0_0) := (blk_cell BK171.out 0).trans rfl
                    have hcz81_1 : wc.cell? ⟨gb171, 1, none⟩ = some (.int .i64 a0_1) := (blk_cell BK171.out 1).trans rfl
                    have hcz81_2 : wc.cell? ⟨gb171, 2, none⟩ = some (.int .i64 a0_2) := (blk_cell BK171.out 2).trans rfl
                    have hcz81_3 : wc.cell? ⟨gb171, 3, none⟩ = some (.string a0_3) := (blk_cell BK171.out 3).trans rfl
                    have hcz81_4 : wc.cell? ⟨gb171, 4, none⟩ = some (.string a0_4) := (blk_cell BK171.out 4).trans rfl
                    have hcz81_5 : wc.cell? ⟨gb171, 5, none⟩ = some (.int .i64 a0_5) := (blk_cell BK171.out 5).trans rfl
                    have hfz81_0 := blk_frozen BK171.out 0
                    have hfz81_1 := blk_frozen BK171.out 1
                    have hfz81_2 := blk_frozen BK171.out 2
                    have hfz81_3 := blk_frozen BK171.out 3
                    have hfz81_4 := blk_frozen BK171.out 4
                    have hfz81_5 := blk_frozen BK171.out 5
                    have hcz82_0 : wc.cell? ⟨gb177, 0, none⟩ = some (.bool t173) := (blk_cell BK177.out 0).trans rfl
                    have hcz82_1 : wc.cell? ⟨gb177, 1, none⟩ = some (.bool t174) := (blk_cell BK177.out 1).trans rfl
                    have hcz82_2 : wc.cell? ⟨gb177, 2, none⟩ = some (.bool t175) := (blk_cell BK177.out 2).trans rfl
                    have hcz82_3 : wc.cell? ⟨gb177, 3, none⟩ = some (.bool false) := (blk_cell BK177.out 3).trans rfl
                    have hfz82_0 := blk_frozen BK177.out 0
                    have hfz82_1 := blk_frozen BK177.out 1
                    have hfz82_2 := blk_frozen BK177.out 2
                    have hfz82_3 := blk_frozen BK177.out 3
                    obtain ⟨Ao83, co83, eo83⟩ := Kd.R_slice HO_4.out
                    subst eo83
                    go_wp2_with (first | ((with_reducible refine gate_callee (f := 87) rfl ?_); refine goesL_ (some 63) rfl rfl Tryd.func87 (by kernel_rfl) rfl #[.slice Ao83 x4_49.length co83, .string (⟨#[32]⟩ : ByteArray)] rfl (by (try simp only [List.map_toArray, List.map_cons, List.map_nil]); first | done | rfl | (simp only [List.length_drop, List.length_take]; rfl)) ?_; (with_reducible refine (strings_Join.calls _ _ x4_49 (⟨#[32]⟩ : ByteArray) t206 _ ?side1 ?side2 A79.out).mono ?_); (case side1 => repeat (first | exact (Kd.R_reads' HO_4.out).2.2 | (with_reducible refine Kd.C_alloc ?_ _) | (with_reducible refine Kd.C_drewN ?_ _) | (with_reducible refine Kd.C_drew ?_))); (case side2 => exact (Kd.R_reads' HO_4.out).2.1); rintro e w84 ⟨rfl, hb⟩; refine ⟨_, rfl, ?_⟩; have n0_ := Aside0.mk (Kd.R_below (by (with_reducible repeat (first | apply Kd.R_alloc | apply Kd.R_drewN | apply Kd.R_drew)); exact HO_4.out) hb); have n1_ := Aside0.mk (blk_below (g := gb171) (o := .cells #[.int .i64 a0_0, .int .i64 a0_1, .int .i64 a0_2, .string a0_3, .string a0_4, .int .i64 a0_5] 30 (0, 0)) (by (with_reducible repeat (first | refine blk_drewN ?_ _ | refine blk_drew ?_ | refine blk_alloc ?_ _)); exact BK171.out) hb); have n2_ := Aside0.mk (blk_below (g := gb177) (o := .cells #[.bool t173, .bool t174, .bool t175, .bool false] 109 (0, 0)) (by (with_reducible repeat (first | refine blk_drewN ?_ _ | refine blk_drew ?_ | refine blk_alloc ?_ _)); exact BK177.out) hb); have n3_ := Aside0.mk (below_step (by repeat (first | (with_reducible first | exact HB.out | apply below_alloc | apply pw_below_drewN | apply below_drew1 | refine below_set ?_ GE171.out | refine below_set ?_ GE177.out) | exact HB.out)) hb); clear HO_4; clear BK171; clear BK177; clear HB; have HO_4 := n0_; have BK171 := n1_; have BK177 := n2_; have HB := n3_; clear n0_ n1_ n2_ n3_; (try clear hb); (try clear hb2); (try clear hk); (try clear hi)))
                    go_ret
                    exact ⟨by first | rfl | (simp [errW_none, errW_some] <;> rfl) | (simp [*, errW_none, errW_some] <;> rfl), by repeat (first | (with_reducible first | exact HB.out | apply below_alloc | apply pw_below_drewN | apply below_drew1 | refine below_set ?_ GE171.out | refine below_set ?_ GE177.out) | exact HB.out)⟩
  · replace c3 := Bool.eq_false_iff.mpr c3
    subst c3
    have H1 : (some (⟨#[]⟩ : ByteArray)) = some r := by rw [if_neg (show ¬ (false = true) by decide)] at H; exact H
    clear H
    have H := H1
    clear H1
    obtain rfl := Option.some.inj H
    go_enter Tryd.func33, Tryd.ntmps33
    go_wp2_with (first | ((with_reducible refine gate_dst (N := 1) rfl ?_); refine box_event ?hg (N := 1) ?hd (cs := #[.int .i64 a0_0, .int .i64 a0_1, .int .i64 a0_2, .string a0_3, .string a0_4, .int .i64 a0_5]) (t := 30) ?hr ?_; (case hd => rfl); (case hg => rfl); (case hr => first | (go_simp; done) | (go_simp; rfl)); intro gb171 hg w85 hbox hb; have n0_ := Aside0.mk (below_step (by repeat (first | (with_reducible first | exact HB.out | apply below_alloc | apply pw_below_drewN | apply below_drew1) | exact HB.out)) hb); have n1_ := Aside0.mk (hbox); have n2_ := Aside0.mk ((by rw [hg]; exact (below_size (by repeat (first | (with_reducible first | exact HB.out | apply below_alloc | apply pw_below_drewN | apply below_drew1) | exact HB.out))) : w.heap.size ≤ gb171)); have n3_ := Aside0.mk ((by rw [hg]; exact (below_size (by repeat (first | (with_reducible first | exact HB.out | apply below_alloc | apply pw_below_drewN | apply below_drew1) | exact HB.out))) : w.heap.size ≤ gb171)); clear HB; have HB := n0_; have BK171 := n1_; have GW171 := n2_; have GE171 := n3_; clear n0_ n1_ n2_ n3_; clear hb hbox hg; have hcz86_0 : w85.cell? ⟨gb171, 0, none⟩ = some (.int .i64 a0_0) := (blk_cell BK171.out 0).trans rfl; have hcz86_1 : w85.cell? ⟨gb171, 1, none⟩ = some (.int .i64 a0_1) := (blk_cell BK171.out 1).trans rfl; have hcz86_2 : w85.cell? ⟨gb171, 2, none⟩ = some (.int .i64 a0_2) := (blk_cell BK171.out 2).trans rfl; have hcz86_3 : w85.cell? ⟨gb171, 3, none⟩ = some (.string a0_3) := (blk_cell BK171.out 3).trans rfl; have hcz86_4 : w85.cell? ⟨gb171, 4, none⟩ = some (.string a0_4) := (blk_cell BK171.out 4).trans rfl; have hcz86_5 : w85.cell? ⟨gb171, 5, none⟩ = some (.int .i64 a0_5) := (blk_cell BK171.out 5).trans rfl; have hfz86_0 := blk_frozen BK171.out 0; have hfz86_1 := blk_frozen BK171.out 1; have hfz86_2 := blk_frozen BK171.out 2; have hfz86_3 := blk_frozen BK171.out 3; have hfz86_4 := blk_frozen BK171.out 4; have hfz86_5 := blk_frozen BK171.out 5) | ((with_reducible refine gate_callee (f := 85) rfl ?_); refine goesL_ (some 7) rfl rfl Tryd.func85 (by kernel_rfl) rfl #[.agg #[.int .i64 a0_0, .int .i64 a0_1, .int .i64 a0_2, .string a0_3, .string a0_4, .int .i64 a0_5]] rfl (by (try simp only [List.map_toArray, List.map_cons, List.map_nil]); first | done | rfl | (simp only [List.length_drop, List.length_take]; rfl)) ?_; (with_reducible refine (impl_SkyOk.calls k a0_0 a0_1 a0_2 a0_3 a0_4 a0_5 false _ ?side1 ?side2 A2.out).mono ?_); (case side1 => exact Gcov.below HGcov.out (by repeat (first | (with_reducible first | exact HB.out | apply below_alloc | apply pw_below_drewN | apply below_drew1 | refine below_set ?_ GE171.out) | exact HB.out))); (case side2 => exact Gwea.below HGwea.out (by repeat (first | (with_reducible first | exact HB.out | apply below_alloc | apply pw_below_drewN | apply below_drew1 | refine below_set ?_ GE171.out) | exact HB.out))); rintro e w87 ⟨rfl, hb⟩; refine ⟨_, rfl, ?_⟩; have n0_ := Aside0.mk (blk_below (g := gb171) (o := .cells #[.int .i64 a0_0, .int .i64 a0_1, .int .i64 a0_2, .string a0_3, .string a0_4, .int .i64 a0_5] 30 (0, 0)) (by (with_reducible repeat (first | refine blk_drewN ?_ _ | refine blk_drew ?_ | refine blk_alloc ?_ _)); exact BK171.out) hb); have n1_ := Aside0.mk (below_step (by repeat (first | (with_reducible first | exact HB.out | apply below_alloc | apply pw_below_drewN | apply below_drew1 | refine below_set ?_ GE171.out) | exact HB.out)) hb); clear BK171; clear HB; have BK171 := n0_; have HB := n1_; clear n0_ n1_; (try clear hb); (try clear hb2); (try clear hk); (try clear hi)))
    go_ret
    exact ⟨by first | rfl | (simp [errW_none, errW_some] <;> rfl) | (simp [*, errW_none, errW_some] <;> rfl), by repeat (first | (with_reducible first | exact HB.out | apply below_alloc | apply pw_below_drewN | apply below_drew1 | refine below_set ?_ GE171.out) | exact HB.out)⟩

end Go.Proofs.YtmcmkdiefpepnaaDoor.XSK
