/-
  DERIVED: THE SHELF's CONTRACTS AT THIS DUMP, IN PLAIN WORDS (tools/lay-plain.mjs out of 'YtmcmkdiefpepnaaDoorShelfSort.lean', which tools/lay-shelf.mjs wrote): THE SAME DECLARATIONS UNDER THE SAME NAMES: 'import', 'namespace', 'open', 'def', 'theorem' AND NOTHING ELSE: no command of the shelf's: FOR A HAND-IN. Each laying: the table of numbers ('.._ren') and one theorem, a field a fact of the dump's own or the kernel's comparison; each contract: ONE APPLICATION.
-/
import Derived.Ground.SlgmProg
import Derived.Shelf.SortM.Plain
import Derived.Test.YtmcmkdiefpepnaaDoorProg
namespace Go.Proofs
open Go.Shelf
def Tryd.laysSlM5_f150_ren : Go.Shelf.Ren := ⟨fun | 5 => 150 | 8 => 172 | 7 => 171 | 19 => 199 | 20 => 200 | 10 => 190 | 11 => 191 | 12 => 192 | 13 => 193 | 14 => 194 | 15 => 195 | 16 => 196 | 17 => 197 | 18 => 198 | 30 => 210 | 31 => 211 | 32 => 212 | 33 => 213 | 34 => 214 | 35 => 215 | 40 => 223 | n => n, fun | 23 => 124 | 25 => 2 | 3 => 3 | 32 => 165 | 22 => 124 | 0 => 0 | 44 => 187 | 46 => 162 | 4 => 4 | 36 => 202 | 35 => 201 | 41 => 207 | 5 => 5 | 9 => 9 | 53 => 220 | 57 => 223 | 63 => 225 | 64 => 226 | n => n, fun | n => n⟩
theorem Tryd.laysSlM5_f150 : Go.Proofs.SlLaysM.n5 Tryd.prog Tryd.laysSlM5_f150_ren := {
  mixed := by kernel_rfl
  f5 := ⟨Tryd.f150.name, by decide, Tryd.func150.trans (congrArg some (by kernel_rfl))⟩
  f7 := ⟨Tryd.f171.name, by decide, Tryd.func171.trans (congrArg some (by kernel_rfl))⟩
  f8 := Tryd.func172.trans (congrArg some (by kernel_rfl))
  f10 := ⟨Tryd.f190.name, by decide, Tryd.func190.trans (congrArg some (by kernel_rfl))⟩
  f11 := ⟨Tryd.f191.name, by decide, Tryd.func191.trans (congrArg some (by kernel_rfl))⟩
  f12 := ⟨Tryd.f192.name, by decide, Tryd.func192.trans (congrArg some (by kernel_rfl))⟩
  f13 := ⟨Tryd.f193.name, by decide, Tryd.func193.trans (congrArg some (by kernel_rfl))⟩
  f14 := ⟨Tryd.f194.name, by decide, Tryd.func194.trans (congrArg some (by kernel_rfl))⟩
  f15 := ⟨Tryd.f195.name, by decide, Tryd.func195.trans (congrArg some (by kernel_rfl))⟩
  f16 := ⟨Tryd.f196.name, by decide, Tryd.func196.trans (congrArg some (by kernel_rfl))⟩
  f17 := ⟨Tryd.f197.name, by decide, Tryd.func197.trans (congrArg some (by kernel_rfl))⟩
  f18 := ⟨Tryd.f198.name, by decide, Tryd.func198.trans (congrArg some (by kernel_rfl))⟩
  f19 := Tryd.func199.trans (congrArg some (by kernel_rfl))
  f20 := Tryd.func200.trans (congrArg some (by kernel_rfl))
  f30 := ⟨Tryd.f210.name, by decide, Tryd.func210.trans (congrArg some (by kernel_rfl))⟩
  f31 := Tryd.func211.trans (congrArg some (by kernel_rfl))
  f32 := Tryd.func212.trans (congrArg some (by kernel_rfl))
  f33 := ⟨Tryd.f213.name, by decide, Tryd.func213.trans (congrArg some (by kernel_rfl))⟩
  f34 := ⟨Tryd.f214.name, by decide, Tryd.func214.trans (congrArg some (by kernel_rfl))⟩
  f35 := ⟨Tryd.f215.name, by decide, Tryd.func215.trans (congrArg some (by kernel_rfl))⟩
  f40 := ⟨Tryd.f223.name, by decide, Tryd.func223.trans (congrArg some (by kernel_rfl))⟩
  t0 := Tryd.underlying0
  a0 := Tryd.isAgg0
  z0 := Tryd.sizeOf0
  v0 := Tryd.zeroValue0
  t3 := Tryd.underlying3
  a3 := Tryd.isAgg3
  z3 := Tryd.sizeOf3
  v3 := Tryd.zeroValue3
  t4 := Tryd.underlying4
  a4 := Tryd.isAgg4
  z4 := Tryd.sizeOf4
  v4 := Tryd.zeroValue4
  t5 := Tryd.underlying5
  a5 := Tryd.isAgg5
  z5 := Tryd.sizeOf5
  v5 := Tryd.zeroValue5
  t9 := Tryd.underlying9
  a9 := Tryd.isAgg9
  z9 := Tryd.sizeOf9
  v9 := Tryd.zeroValue9
  t22 := Tryd.underlying124
  a22 := Tryd.isAgg124
  z22 := Tryd.sizeOf124
  v22 := Tryd.zeroValue124
  t23 := Tryd.underlying124
  a23 := Tryd.isAgg124
  z23 := Tryd.sizeOf124
  v23 := Tryd.zeroValue124
  t25 := Tryd.underlying2
  a25 := Tryd.isAgg2
  z25 := Tryd.sizeOf2
  v25 := Tryd.zeroValue2
  t32 := Tryd.underlying165
  a32 := Tryd.isAgg165
  z32 := Tryd.sizeOf165
  v32 := Tryd.zeroValue165
  t35 := Tryd.underlying201
  a35 := Tryd.isAgg201
  z35 := Tryd.sizeOf201
  v35 := Tryd.zeroValue201
  t36 := Tryd.underlying202
  a36 := Tryd.isAgg202
  z36 := Tryd.sizeOf202
  v36 := Tryd.zeroValue202
  t41 := Tryd.underlying207
  a41 := Tryd.isAgg207
  z41 := Tryd.sizeOf207
  v41 := Tryd.zeroValue207
  t44 := Tryd.underlying187
  a44 := Tryd.isAgg187
  z44 := Tryd.sizeOf187
  v44 := Tryd.zeroValue187
  t46 := Tryd.underlying162
  a46 := Tryd.isAgg162
  z46 := Tryd.sizeOf162
  v46 := Tryd.zeroValue162
  t53 := Tryd.underlying220
  a53 := Tryd.isAgg220
  z53 := Tryd.sizeOf220
  v53 := Tryd.zeroValue220
  t57 := Tryd.underlying223
  a57 := Tryd.isAgg223
  z57 := Tryd.sizeOf223
  v57 := Tryd.zeroValue223
  t63 := Tryd.underlying225
  a63 := Tryd.isAgg225
  z63 := Tryd.sizeOf225
  v63 := Tryd.zeroValue225
  t64 := Tryd.underlying226
  a64 := Tryd.isAgg226
  z64 := Tryd.sizeOf226
  v64 := Tryd.zeroValue226 }
open Go.Sort Go.RowKit in
theorem Tryd.slices_Sort_int (blk off cap : Nat) (zs : List Int) (w : World) (hH : Holds (Value.int .i64) w blk off zs.toArray) (hblk : blk < w.heap.size) (hsz : zs.length < 4611686018427387904) :
    Calls Tryd.prog 150 #[.slice (some ⟨blk, off, none⟩) zs.length cap] w fun e w' =>
      e = .returned (.tuple #[]) ∧ ∃ n os, w' = grow (putRow (Value.int .i64) (Sort.ahead w n) blk off (zs.mergeSort fun x y => decide (x ≤ y)).toArray) os := AnyM.slices_Sort_int Tryd.laysSlM5_f150 blk off cap zs w hH hblk hsz
end Go.Proofs
