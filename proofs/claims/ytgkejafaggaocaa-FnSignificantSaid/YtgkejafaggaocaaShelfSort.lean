/-
  DERIVED: THE SHELF's CONTRACTS AT THIS DUMP, IN PLAIN WORDS (tools/lay-plain.mjs out of 'YtgkejafaggaocaaShelfSort.lean', which tools/lay-shelf.mjs wrote): THE SAME DECLARATIONS UNDER THE SAME NAMES: 'import', 'namespace', 'open', 'def', 'theorem' AND NOTHING ELSE: no command of the shelf's: FOR A HAND-IN. Each laying: the table of numbers ('.._ren') and one theorem, a field a fact of the dump's own or the kernel's comparison; each contract: ONE APPLICATION.
-/
import Derived.Ground.SlgmProg
import Derived.Shelf.SortM.Plain
import Derived.Shelf.SortM.SortNone
import Derived.Test.YtgkejafaggaocaaProg
namespace Go.Proofs
open Go.Shelf
def Try.laysSlM5_f51_ren : Go.Shelf.Ren := ⟨fun | 5 => 51 | 8 => 88 | 7 => 87 | 19 => 122 | 20 => 123 | 10 => 113 | 11 => 114 | 12 => 115 | 13 => 116 | 14 => 117 | 15 => 118 | 16 => 119 | 17 => 120 | 18 => 121 | 30 => 132 | 31 => 133 | 32 => 134 | 33 => 135 | 34 => 136 | 35 => 137 | 40 => 142 | n => n, fun | 23 => 25 | 25 => 2 | 3 => 3 | 32 => 122 | 22 => 25 | 0 => 0 | 44 => 156 | 46 => 100 | 4 => 4 | 36 => 148 | 35 => 147 | 41 => 153 | 5 => 5 | 9 => 9 | 53 => 164 | 57 => 167 | 63 => 169 | 64 => 170 | n => n, fun | n => n⟩
theorem Try.laysSlM5_f51 : Go.Proofs.SlLaysM.n5 Try.prog Try.laysSlM5_f51_ren := {
  mixed := by kernel_rfl
  f5 := ⟨Try.f51.name, by decide, Try.func51.trans (congrArg some (by kernel_rfl))⟩
  f7 := ⟨Try.f87.name, by decide, Try.func87.trans (congrArg some (by kernel_rfl))⟩
  f8 := Try.func88.trans (congrArg some (by kernel_rfl))
  f10 := ⟨Try.f113.name, by decide, Try.func113.trans (congrArg some (by kernel_rfl))⟩
  f11 := ⟨Try.f114.name, by decide, Try.func114.trans (congrArg some (by kernel_rfl))⟩
  f12 := ⟨Try.f115.name, by decide, Try.func115.trans (congrArg some (by kernel_rfl))⟩
  f13 := ⟨Try.f116.name, by decide, Try.func116.trans (congrArg some (by kernel_rfl))⟩
  f14 := ⟨Try.f117.name, by decide, Try.func117.trans (congrArg some (by kernel_rfl))⟩
  f15 := ⟨Try.f118.name, by decide, Try.func118.trans (congrArg some (by kernel_rfl))⟩
  f16 := ⟨Try.f119.name, by decide, Try.func119.trans (congrArg some (by kernel_rfl))⟩
  f17 := ⟨Try.f120.name, by decide, Try.func120.trans (congrArg some (by kernel_rfl))⟩
  f18 := ⟨Try.f121.name, by decide, Try.func121.trans (congrArg some (by kernel_rfl))⟩
  f19 := Try.func122.trans (congrArg some (by kernel_rfl))
  f20 := Try.func123.trans (congrArg some (by kernel_rfl))
  f30 := ⟨Try.f132.name, by decide, Try.func132.trans (congrArg some (by kernel_rfl))⟩
  f31 := Try.func133.trans (congrArg some (by kernel_rfl))
  f32 := Try.func134.trans (congrArg some (by kernel_rfl))
  f33 := ⟨Try.f135.name, by decide, Try.func135.trans (congrArg some (by kernel_rfl))⟩
  f34 := ⟨Try.f136.name, by decide, Try.func136.trans (congrArg some (by kernel_rfl))⟩
  f35 := ⟨Try.f137.name, by decide, Try.func137.trans (congrArg some (by kernel_rfl))⟩
  f40 := ⟨Try.f142.name, by decide, Try.func142.trans (congrArg some (by kernel_rfl))⟩
  t0 := Try.underlying0
  a0 := Try.isAgg0
  z0 := Try.sizeOf0
  v0 := Try.zeroValue0
  t3 := Try.underlying3
  a3 := Try.isAgg3
  z3 := Try.sizeOf3
  v3 := Try.zeroValue3
  t4 := Try.underlying4
  a4 := Try.isAgg4
  z4 := Try.sizeOf4
  v4 := Try.zeroValue4
  t5 := Try.underlying5
  a5 := Try.isAgg5
  z5 := Try.sizeOf5
  v5 := Try.zeroValue5
  t9 := Try.underlying9
  a9 := Try.isAgg9
  z9 := Try.sizeOf9
  v9 := Try.zeroValue9
  t22 := Try.underlying25
  a22 := Try.isAgg25
  z22 := Try.sizeOf25
  v22 := Try.zeroValue25
  t23 := Try.underlying25
  a23 := Try.isAgg25
  z23 := Try.sizeOf25
  v23 := Try.zeroValue25
  t25 := Try.underlying2
  a25 := Try.isAgg2
  z25 := Try.sizeOf2
  v25 := Try.zeroValue2
  t32 := Try.underlying122
  a32 := Try.isAgg122
  z32 := Try.sizeOf122
  v32 := Try.zeroValue122
  t35 := Try.underlying147
  a35 := Try.isAgg147
  z35 := Try.sizeOf147
  v35 := Try.zeroValue147
  t36 := Try.underlying148
  a36 := Try.isAgg148
  z36 := Try.sizeOf148
  v36 := Try.zeroValue148
  t41 := Try.underlying153
  a41 := Try.isAgg153
  z41 := Try.sizeOf153
  v41 := Try.zeroValue153
  t44 := Try.underlying156
  a44 := Try.isAgg156
  z44 := Try.sizeOf156
  v44 := Try.zeroValue156
  t46 := Try.underlying100
  a46 := Try.isAgg100
  z46 := Try.sizeOf100
  v46 := Try.zeroValue100
  t53 := Try.underlying164
  a53 := Try.isAgg164
  z53 := Try.sizeOf164
  v53 := Try.zeroValue164
  t57 := Try.underlying167
  a57 := Try.isAgg167
  z57 := Try.sizeOf167
  v57 := Try.zeroValue167
  t63 := Try.underlying169
  a63 := Try.isAgg169
  z63 := Try.sizeOf169
  v63 := Try.zeroValue169
  t64 := Try.underlying170
  a64 := Try.isAgg170
  z64 := Try.sizeOf170
  v64 := Try.zeroValue170 }
open Go.Sort Go.RowKit in
theorem Try.slices_Sort_int (blk off cap : Nat) (zs : List Int) (w : World) (hH : Holds (Value.int .i64) w blk off zs.toArray) (hblk : blk < w.heap.size) (hsz : zs.length < 4611686018427387904) :
    Calls Try.prog 51 #[.slice (some ⟨blk, off, none⟩) zs.length cap] w fun e w' =>
      e = .returned (.tuple #[]) ∧ ∃ n os, w' = grow (putRow (Value.int .i64) (Sort.ahead w n) blk off (zs.mergeSort fun x y => decide (x ≤ y)).toArray) os := AnyM.slices_Sort_int Try.laysSlM5_f51 blk off cap zs w hH hblk hsz
open Go.RowKit Go.Sort in
/-- .. and plain. (LAID AT THE INSTANCE 'slices.Sort[[]int64,int64]': no walk: one application.) -/
theorem Try.slices_Sort_int_none (p : Option Addr) (cap : Nat) (w : World) :
    Calls Try.prog 51 #[.slice p 0 cap] w fun e w' => e = .returned (.tuple #[]) ∧ w' = w := AnyM.slices_Sort_int_none Try.laysSlM5_f51 p cap w
end Go.Proofs
