/-
  DERIVED: THE SHELF's CONTRACTS AT THIS DUMP, IN PLAIN WORDS (tools/lay-plain.mjs out of 'YtmcmkdiefpepnaaDoorShelfStr.lean', which tools/lay-shelf.mjs wrote): THE SAME DECLARATIONS UNDER THE SAME NAMES: 'import', 'namespace', 'open', 'def', 'theorem' AND NOTHING ELSE: no command of the shelf's: FOR A HAND-IN. Each laying: the table of numbers ('.._ren') and one theorem, a field a fact of the dump's own or the kernel's comparison; each contract: ONE APPLICATION.
-/
import Derived.Shelf.LaysM
import Derived.Shelf.Strconv.Itoa4
import Derived.Shelf.Strings.Repeat
import Derived.Test.YtmcmkdiefpepnaaDoorProg
namespace Go.Proofs
open Go.Shelf
def Tryd.laysM173_ren : Go.Shelf.Ren := ⟨fun | 173 => 133 | 246 => 158 | 283 => 176 | 284 => 177 | 285 => 178 | 286 => 179 | 129 => 200 | 317 => 205 | 318 => 206 | 319 => 207 | 320 => 208 | 337 => 221 | 338 => 222 | n => n, fun | 2 => 2 | 3 => 3 | 9 => 9 | 4 => 4 | 171 => 182 | 0 => 0 | 53 => 162 | 37 => 60 | 5 => 5 | 173 => 185 | 212 => 215 | 51 => 187 | 20 => 20 | 213 => 216 | 46 => 165 | 232 => 233 | 233 => 234 | n => n, fun | 17 => 6 | 18 => 10 | 19 => 11 | n => n⟩
theorem Tryd.laysM173 : Go.Proofs.LaysM.n173 Tryd.prog Tryd.laysM173_ren := {
  mixed := by kernel_rfl
  f129 := Tryd.func200.trans (congrArg some (by kernel_rfl))
  f173 := Tryd.func133.trans (congrArg some (by kernel_rfl))
  f246 := Tryd.func158.trans (congrArg some (by kernel_rfl))
  f283 := Tryd.func176.trans (congrArg some (by kernel_rfl))
  f284 := Tryd.func177.trans (congrArg some (by kernel_rfl))
  f285 := Tryd.func178.trans (congrArg some (by kernel_rfl))
  f286 := Tryd.func179.trans (congrArg some (by kernel_rfl))
  f317 := Tryd.func205.trans (congrArg some (by kernel_rfl))
  f318 := Tryd.func206.trans (congrArg some (by kernel_rfl))
  f319 := Tryd.func207.trans (congrArg some (by kernel_rfl))
  f320 := Tryd.func208.trans (congrArg some (by kernel_rfl))
  f337 := Tryd.func221.trans (congrArg some (by kernel_rfl))
  f338 := Tryd.func222.trans (congrArg some (by kernel_rfl))
  t0 := Tryd.underlying0
  a0 := Tryd.isAgg0
  z0 := Tryd.sizeOf0
  v0 := Tryd.zeroValue0
  t2 := Tryd.underlying2
  a2 := Tryd.isAgg2
  z2 := Tryd.sizeOf2
  v2 := Tryd.zeroValue2
  t3 := Tryd.underlying3
  a3 := Tryd.isAgg3
  z3 := Tryd.sizeOf3
  v3 := Tryd.zeroValue3
  t4 := Tryd.underlying4
  a4 := Tryd.isAgg4
  z4 := Tryd.sizeOf4
  v4 := Tryd.zeroValue4
  t5 := Tryd.underlying5
  a5 := Tryd.isAgg5
  z5 := Tryd.sizeOf5
  v5 := Tryd.zeroValue5
  t9 := Tryd.underlying9
  a9 := Tryd.isAgg9
  z9 := Tryd.sizeOf9
  v9 := Tryd.zeroValue9
  t20 := Tryd.underlying20
  a20 := Tryd.isAgg20
  z20 := Tryd.sizeOf20
  v20 := Tryd.zeroValue20
  t37 := Tryd.underlying60
  a37 := Tryd.isAgg60
  z37 := Tryd.sizeOf60
  v37 := Tryd.zeroValue60
  t46 := Tryd.underlying165
  a46 := Tryd.isAgg165
  z46 := Tryd.sizeOf165
  v46 := Tryd.zeroValue165
  t51 := Tryd.underlying187
  a51 := Tryd.isAgg187
  z51 := Tryd.sizeOf187
  v51 := Tryd.zeroValue187
  t53 := Tryd.underlying162
  a53 := Tryd.isAgg162
  z53 := Tryd.sizeOf162
  v53 := Tryd.zeroValue162
  t171 := Tryd.underlying182
  a171 := Tryd.isAgg182
  z171 := Tryd.sizeOf182
  v171 := Tryd.zeroValue182
  t173 := Tryd.underlying185
  a173 := Tryd.isAgg185
  z173 := Tryd.sizeOf185
  v173 := Tryd.zeroValue185
  t212 := Tryd.underlying215
  a212 := Tryd.isAgg215
  z212 := Tryd.sizeOf215
  v212 := Tryd.zeroValue215
  t213 := Tryd.underlying216
  a213 := Tryd.isAgg216
  z213 := Tryd.sizeOf216
  t232 := Tryd.underlying233
  a232 := Tryd.isAgg233
  z232 := Tryd.sizeOf233
  v232 := Tryd.zeroValue233
  t233 := Tryd.underlying234
  a233 := Tryd.isAgg234
  z233 := Tryd.sizeOf234
  v233 := Tryd.zeroValue234
  g17 := by kernel_rfl
  g18 := by kernel_rfl
  g19 := by kernel_rfl
  i0 := by kernel_rfl
  i2 := by kernel_rfl
  i3 := by kernel_rfl
  i4 := by kernel_rfl
  i5 := by kernel_rfl
  i9 := by kernel_rfl
  i20 := by kernel_rfl
  i37 := by kernel_rfl
  i46 := by kernel_rfl
  i51 := by kernel_rfl
  i53 := by kernel_rfl
  i171 := by kernel_rfl
  i173 := by kernel_rfl
  i212 := by kernel_rfl
  i232 := by kernel_rfl
  i233 := by kernel_rfl
  m17 := by kernel_rfl
  m18 := by kernel_rfl
  m19 := by kernel_rfl }
open Go.RowKit Go.Sort Go.Lib in
/-- strconv.FormatInt: "FormatInt returns the string representation of i in the given base": AT BASE 10: i's decimal numeral, for every int64. (LAID: no walk: one application.) -/
theorem Tryd.strconv_FormatInt_10 (n : Int) (h0 : -9223372036854775808 ≤ n) (h1 : n ≤ 9223372036854775807) (w : World) (htab : Lib.TabIs Tryd.prog w "internal/strconv.uint64pow10" .u64 Lib.pow10Tab) :
    Calls Tryd.prog 133 #[.int .i64 n, .int .i64 10] w fun e w' => e = .returned (.string ⟨(Lib.itoa n).toArray⟩) ∧ ∃ k os, w' = grow (w.drewN k) os := Any.strconv_FormatInt_10 Tryd.laysM173 n h0 h1 w htab
def Tryd.lays173_ren : Go.Shelf.Ren := ⟨fun | 173 => 133 | 246 => 158 | 283 => 176 | 284 => 177 | 285 => 178 | 286 => 179 | 129 => 200 | 317 => 205 | 318 => 206 | 319 => 207 | 320 => 208 | 337 => 221 | 338 => 222 | n => n, fun | 2 => 2 | 3 => 3 | 9 => 9 | 4 => 4 | 171 => 182 | 0 => 0 | 53 => 162 | 37 => 60 | 5 => 5 | 173 => 185 | 212 => 215 | 51 => 187 | 20 => 20 | 213 => 216 | 46 => 165 | 232 => 233 | 233 => 234 | n => n, fun | 17 => 6 | 18 => 10 | 19 => 11 | n => n⟩
theorem Tryd.lays173 : Go.Proofs.Lays.n173 Tryd.prog Tryd.lays173_ren := {
  mixed := by kernel_rfl
  f129 := Tryd.func200.trans (congrArg some (by kernel_rfl))
  f173 := Tryd.func133.trans (congrArg some (by kernel_rfl))
  f246 := Tryd.func158.trans (congrArg some (by kernel_rfl))
  f283 := Tryd.func176.trans (congrArg some (by kernel_rfl))
  f284 := Tryd.func177.trans (congrArg some (by kernel_rfl))
  f285 := Tryd.func178.trans (congrArg some (by kernel_rfl))
  f286 := Tryd.func179.trans (congrArg some (by kernel_rfl))
  f317 := Tryd.func205.trans (congrArg some (by kernel_rfl))
  f318 := Tryd.func206.trans (congrArg some (by kernel_rfl))
  f319 := Tryd.func207.trans (congrArg some (by kernel_rfl))
  f320 := Tryd.func208.trans (congrArg some (by kernel_rfl))
  f337 := Tryd.func221.trans (congrArg some (by kernel_rfl))
  f338 := Tryd.func222.trans (congrArg some (by kernel_rfl))
  t0 := Tryd.underlying0
  a0 := Tryd.isAgg0
  z0 := Tryd.sizeOf0
  v0 := Tryd.zeroValue0
  t2 := Tryd.underlying2
  a2 := Tryd.isAgg2
  z2 := Tryd.sizeOf2
  v2 := Tryd.zeroValue2
  t3 := Tryd.underlying3
  a3 := Tryd.isAgg3
  z3 := Tryd.sizeOf3
  v3 := Tryd.zeroValue3
  t4 := Tryd.underlying4
  a4 := Tryd.isAgg4
  z4 := Tryd.sizeOf4
  v4 := Tryd.zeroValue4
  t5 := Tryd.underlying5
  a5 := Tryd.isAgg5
  z5 := Tryd.sizeOf5
  v5 := Tryd.zeroValue5
  t9 := Tryd.underlying9
  a9 := Tryd.isAgg9
  z9 := Tryd.sizeOf9
  v9 := Tryd.zeroValue9
  t20 := Tryd.underlying20
  a20 := Tryd.isAgg20
  z20 := Tryd.sizeOf20
  v20 := Tryd.zeroValue20
  t37 := Tryd.underlying60
  a37 := Tryd.isAgg60
  z37 := Tryd.sizeOf60
  v37 := Tryd.zeroValue60
  t46 := Tryd.underlying165
  a46 := Tryd.isAgg165
  z46 := Tryd.sizeOf165
  v46 := Tryd.zeroValue165
  t51 := Tryd.underlying187
  a51 := Tryd.isAgg187
  z51 := Tryd.sizeOf187
  v51 := Tryd.zeroValue187
  t53 := Tryd.underlying162
  a53 := Tryd.isAgg162
  z53 := Tryd.sizeOf162
  v53 := Tryd.zeroValue162
  t171 := Tryd.underlying182
  a171 := Tryd.isAgg182
  z171 := Tryd.sizeOf182
  v171 := Tryd.zeroValue182
  t173 := Tryd.underlying185
  a173 := Tryd.isAgg185
  z173 := Tryd.sizeOf185
  v173 := Tryd.zeroValue185
  t212 := Tryd.underlying215
  a212 := Tryd.isAgg215
  z212 := Tryd.sizeOf215
  v212 := Tryd.zeroValue215
  t213 := Tryd.underlying216
  a213 := Tryd.isAgg216
  z213 := Tryd.sizeOf216
  t232 := Tryd.underlying233
  a232 := Tryd.isAgg233
  z232 := Tryd.sizeOf233
  v232 := Tryd.zeroValue233
  t233 := Tryd.underlying234
  a233 := Tryd.isAgg234
  z233 := Tryd.sizeOf234
  v233 := Tryd.zeroValue234
  g17 := by kernel_rfl
  g18 := by kernel_rfl
  g19 := by kernel_rfl }
open Go.RowKit Go.Sort Go.Lib in
/-- THE ROAD WITHOUT THE TABLE: 0 <= i < 100. (LAID: no walk: one application.) -/
theorem Tryd.strconv_FormatInt_10_small (i : Nat) (hi : i < 100) (w : World) :
    Calls Tryd.prog 133 #[.int .i64 i, .int .i64 10] w fun e w' => e = .returned (.string ⟨(Lib.decDigits i).toArray⟩) ∧ w' = w := Any.strconv_FormatInt_10_small Tryd.lays173 i hi w
def Tryd.lays105_ren : Go.Shelf.Ren := ⟨fun | 105 => 134 | 212 => 159 | 99 => 160 | 165 => 140 | 166 => 141 | 170 => 161 | 169 => 142 | 263 => 180 | 264 => 181 | 206 => 182 | 240 => 163 | 241 => 164 | 276 => 183 | 277 => 184 | n => n, fun | 9 => 9 | 3 => 3 | 4 => 4 | 20 => 20 | 0 => 0 | 46 => 165 | 109 => 166 | 5 => 5 | 72 => 147 | 76 => 149 | 51 => 187 | 146 => 188 | 53 => 162 | 148 => 190 | 70 => 145 | 37 => 60 | 75 => 119 | 127 => 170 | 164 => 192 | 80 => 151 | n => n, fun | n => n⟩
theorem Tryd.lays105 : Go.Proofs.Lays.n105 Tryd.prog Tryd.lays105_ren := {
  mixed := by kernel_rfl
  f99 := Tryd.func160.trans (congrArg some (by kernel_rfl))
  f105 := Tryd.func134.trans (congrArg some (by kernel_rfl))
  f165 := Tryd.func140.trans (congrArg some (by kernel_rfl))
  f166 := Tryd.func141.trans (congrArg some (by kernel_rfl))
  f169 := Tryd.func142.trans (congrArg some (by kernel_rfl))
  f170 := Tryd.func161.trans (congrArg some (by kernel_rfl))
  f206 := Tryd.func182.trans (congrArg some (by kernel_rfl))
  f212 := Tryd.func159.trans (congrArg some (by kernel_rfl))
  f240 := Tryd.func163.trans (congrArg some (by kernel_rfl))
  f241 := Tryd.func164.trans (congrArg some (by kernel_rfl))
  f263 := Tryd.func180.trans (congrArg some (by kernel_rfl))
  f264 := Tryd.func181.trans (congrArg some (by kernel_rfl))
  f276 := Tryd.func183.trans (congrArg some (by kernel_rfl))
  f277 := Tryd.func184.trans (congrArg some (by kernel_rfl))
  t0 := Tryd.underlying0
  a0 := Tryd.isAgg0
  z0 := Tryd.sizeOf0
  v0 := Tryd.zeroValue0
  t3 := Tryd.underlying3
  a3 := Tryd.isAgg3
  z3 := Tryd.sizeOf3
  v3 := Tryd.zeroValue3
  t4 := Tryd.underlying4
  a4 := Tryd.isAgg4
  z4 := Tryd.sizeOf4
  v4 := Tryd.zeroValue4
  t5 := Tryd.underlying5
  a5 := Tryd.isAgg5
  z5 := Tryd.sizeOf5
  v5 := Tryd.zeroValue5
  t9 := Tryd.underlying9
  a9 := Tryd.isAgg9
  z9 := Tryd.sizeOf9
  v9 := Tryd.zeroValue9
  t20 := Tryd.underlying20
  a20 := Tryd.isAgg20
  z20 := Tryd.sizeOf20
  v20 := Tryd.zeroValue20
  t37 := Tryd.underlying60
  a37 := Tryd.isAgg60
  z37 := Tryd.sizeOf60
  v37 := Tryd.zeroValue60
  t46 := Tryd.underlying165
  a46 := Tryd.isAgg165
  z46 := Tryd.sizeOf165
  v46 := Tryd.zeroValue165
  t51 := Tryd.underlying187
  a51 := Tryd.isAgg187
  z51 := Tryd.sizeOf187
  v51 := Tryd.zeroValue187
  t53 := Tryd.underlying162
  a53 := Tryd.isAgg162
  z53 := Tryd.sizeOf162
  v53 := Tryd.zeroValue162
  t70 := Tryd.underlying145
  a70 := Tryd.isAgg145
  z70 := Tryd.sizeOf145
  v70 := Tryd.zeroValue145
  t72 := Tryd.underlying147
  a72 := Tryd.isAgg147
  z72 := Tryd.sizeOf147
  v72 := Tryd.zeroValue147
  t75 := Tryd.underlying119
  a75 := Tryd.isAgg119
  z75 := Tryd.sizeOf119
  v75 := Tryd.zeroValue119
  t76 := Tryd.underlying149
  a76 := Tryd.isAgg149
  z76 := Tryd.sizeOf149
  v76 := Tryd.zeroValue149
  t109 := Tryd.underlying166
  a109 := Tryd.isAgg166
  z109 := Tryd.sizeOf166
  v109 := Tryd.zeroValue166
  t127 := Tryd.underlying170
  a127 := Tryd.isAgg170
  z127 := Tryd.sizeOf170
  v127 := Tryd.zeroValue170
  t146 := Tryd.underlying188
  a146 := Tryd.isAgg188
  z146 := Tryd.sizeOf188
  v146 := Tryd.zeroValue188
  t148 := Tryd.underlying190
  a148 := Tryd.isAgg190
  z148 := Tryd.sizeOf190
  v148 := Tryd.zeroValue190
  t164 := Tryd.underlying192
  a164 := Tryd.isAgg192
  z164 := Tryd.sizeOf192
  v164 := Tryd.zeroValue192 }
theorem Tryd.Builder_Extra_105 : Builder.Extra Tryd.prog Tryd.lays105_ren := {
  sizeBuilder := by kernel_rfl
  liesBuilder := by kernel_rfl
  t5 := Tryd.underlying5
  a5 := Tryd.isAgg5
  z5 := Tryd.sizeOf5
  v5 := Tryd.zeroValue5
  infoByte := by kernel_rfl
  cellsByte := by kernel_rfl
  sizeByte := by kernel_rfl
  neB5 := by decide }
open Go.RowKit Go.Lib in
/-- THE MAIN CASE: at least two copies of a string that is not empty. (LAID: no walk: one application.) -/
theorem Tryd.strings_Repeat_main (s : ByteArray) (c : Nat) (w : World) (hc2 : 2 ≤ c) (hc : c ≤ 9223372036854775807) (hlen : s.size * c ≤ 140737488355328) (h0 : 0 < s.size) :
    Calls Tryd.prog 134 #[.string s, .int .i64 c] w fun e w' => e = .returned (.string ⟨(Lib.repeatL s.data.toList c).toArray⟩) ∧ Below w.heap.size w w' := Any.strings_Repeat_main Tryd.lays105 Tryd.Builder_Extra_105 s c w hc2 hc hlen h0
open Go.RowKit Go.Lib in
theorem Tryd.strings_Repeat_zero (s : ByteArray) (w : World) :
    Calls Tryd.prog 134 #[.string s, .int .i64 0] w fun e w' => e = .returned (.string ⟨#[]⟩) ∧ w' = w := Any.strings_Repeat_zero Tryd.lays105 s w
open Go.RowKit Go.Lib in
theorem Tryd.strings_Repeat_one (s : ByteArray) (w : World) :
    Calls Tryd.prog 134 #[.string s, .int .i64 1] w fun e w' => e = .returned (.string s) ∧ w' = w := Any.strings_Repeat_one Tryd.lays105 s w
open Go.RowKit Go.Lib in
/-- Copies of the empty string. (LAID: no walk: one application.) -/
theorem Tryd.strings_Repeat_empty (s : ByteArray) (c : Nat) (w : World) (hc2 : 2 ≤ c) (hc : c ≤ 9223372036854775807) (h0 : s.size = 0) :
    Calls Tryd.prog 134 #[.string s, .int .i64 c] w fun e w' => e = .returned (.string ⟨#[]⟩) ∧ w' = w := Any.strings_Repeat_empty Tryd.lays105 s c w hc2 hc h0
open Go.RowKit Go.Lib in
/-- count < 0: "It panics if count is negative". (LAID: no walk: one application.) -/
theorem Tryd.strings_Repeat_negative (s : ByteArray) (c : Int) (w : World) (hc : c < 0) :
    Calls Tryd.prog 134 #[.string s, .int .i64 c] w fun e w' => e = .panicked [{ v := repeatPanic Tryd.lays105_ren "strings: negative Repeat count", recovered := false }] ∧ w' = w := Any.strings_Repeat_negative Tryd.lays105 s c w hc
open Go.RowKit Go.Lib in
/-- len(s) * count is no int: ".. or if the result of (len(s) * count) overflows". (LAID: no walk: one application.) -/
theorem Tryd.strings_Repeat_overflow (s : ByteArray) (c : Nat) (w : World) (hc : c ≤ 9223372036854775807) (hs : s.size ≤ 9223372036854775807) (hbig : 9223372036854775807 < s.size * c) :
    Calls Tryd.prog 134 #[.string s, .int .i64 c] w fun e w' => e = .panicked [{ v := repeatPanic Tryd.lays105_ren "strings: Repeat output length overflow", recovered := false }] ∧ w' = w := Any.strings_Repeat_overflow Tryd.lays105 s c w hc hs hbig
open Go.RowKit Go.Lib in
/-- **strings.Repeat: count ≥ 0, the result within one allocation: count copies of s.** (LAID: no walk: one application.) -/
theorem Tryd.strings_Repeat (s : ByteArray) (c : Nat) (w : World) (hc : c ≤ 9223372036854775807) (hlen : s.size * c ≤ 140737488355328) :
    Calls Tryd.prog 134 #[.string s, .int .i64 c] w fun e w' => e = .returned (.string ⟨(Lib.repeatL s.data.toList c).toArray⟩) ∧ Below w.heap.size w w' := Any.strings_Repeat Tryd.lays105 Tryd.Builder_Extra_105 s c w hc hlen
end Go.Proofs
