/- The library's sort and keys of a map, laid at this program (printed by lay.py). -/
import Derived.Shelf.SlIterI.Nil
import Derived.Shelf.SortM.Plain
import Derived.Shelf.SortM.SortNone
import Derived.Ground.GgzProg
import Derived.Ground.SlgmProg
import Derived.Test.YtbnhfcdagoigkaaProg
set_option maxRecDepth 100000
namespace Go.Proofs.Ytbnhfcdagoigkaa.Lib
open Go Go.Proofs Go.Shelf Go.RowKit Go.Maps Go.Sort
def sortedI_ren : Go.Shelf.Ren := ⟨fun | 6 => 36 | 8 => 68 | 9 => 69 | 11 => 83 | 13 => 77 | 12 => 84 | 23 => 89 | 24 => 90 | 14 => 93 | 15 => 94 | 16 => 95 | 17 => 96 | 18 => 97 | 19 => 98 | 20 => 99 | 21 => 100 | 22 => 101 | 25 => 104 | 26 => 105 | 27 => 106 | 28 => 107 | 29 => 108 | 30 => 109 | 31 => 110 | n => n, fun | 26 => 3 | 28 => 91 | 24 => 46 | 0 => 0 | 3 => 3 | 37 => 25 | 48 => 67 | 50 => 62 | 4 => 4 | 40 => 169 | 39 => 168 | 45 => 144 | 5 => 5 | 9 => 9 | 51 => 176 | 55 => 180 | 57 => 182 | 58 => 183 | 33 => 134 | n => n, fun | n => n⟩
theorem sortedI : Go.Proofs.SlLaysZI.n6 Try.prog sortedI_ren where
  mixed := by kernel_rfl
  f6 := ⟨"slices.Sorted[int]", by decide, Try.func36.trans (congrArg some (by kernel_rfl))⟩
  f8 := ⟨"slices.Collect[int]", by decide, Try.func68.trans (congrArg some (by kernel_rfl))⟩
  f11 := ⟨"slices.AppendSeq[[]int,int]", by decide, Try.func83.trans (congrArg some (by kernel_rfl))⟩
  t0 := Try.underlying0
  a0 := Try.isAgg0
  z0 := Try.sizeOf0
  v0 := Try.zeroValue0
  t24 := Try.underlying46
  a24 := Try.isAgg46
  z24 := Try.sizeOf46
  v24 := Try.zeroValue46
  t26 := Try.underlying3
  a26 := Try.isAgg3
  z26 := Try.sizeOf3
  v26 := Try.zeroValue3
  t28 := Try.underlying91
  a28 := Try.isAgg91
  z28 := Try.sizeOf91
  v28 := Try.zeroValue91
  i26 := by kernel_rfl
def sortI_ren : Go.Shelf.Ren := ⟨fun | 5 => 69 | 8 => 77 | 7 => 84 | 19 => 89 | 20 => 90 | 10 => 93 | 11 => 94 | 12 => 95 | 13 => 96 | 14 => 97 | 15 => 98 | 16 => 99 | 17 => 100 | 18 => 101 | 30 => 104 | 31 => 105 | 32 => 106 | 33 => 107 | 34 => 108 | 35 => 109 | 40 => 110 | n => n, fun | 23 => 46 | 25 => 3 | 3 => 3 | 32 => 25 | 22 => 46 | 0 => 0 | 44 => 67 | 46 => 62 | 4 => 4 | 36 => 169 | 35 => 168 | 41 => 144 | 5 => 5 | 9 => 9 | 53 => 176 | 57 => 180 | 63 => 182 | 64 => 183 | n => n, fun | n => n⟩
theorem sortI : Go.Proofs.SlLaysM.n5 Try.prog sortI_ren where
  mixed := by kernel_rfl
  f5 := ⟨"slices.Sort[[]int,int]", by decide, Try.func69.trans (congrArg some (by kernel_rfl))⟩
  f7 := ⟨"slices.pdqsortOrdered[int]", by decide, Try.func84.trans (congrArg some (by kernel_rfl))⟩
  f8 := Try.func77.trans (congrArg some (by kernel_rfl))
  f10 := ⟨"slices.insertionSortOrdered[int]", by decide, Try.func93.trans (congrArg some (by kernel_rfl))⟩
  f11 := ⟨"slices.heapSortOrdered[int]", by decide, Try.func94.trans (congrArg some (by kernel_rfl))⟩
  f12 := ⟨"slices.breakPatternsOrdered[int]", by decide, Try.func95.trans (congrArg some (by kernel_rfl))⟩
  f13 := ⟨"slices.choosePivotOrdered[int]", by decide, Try.func96.trans (congrArg some (by kernel_rfl))⟩
  f14 := ⟨"slices.reverseRangeOrdered[int]", by decide, Try.func97.trans (congrArg some (by kernel_rfl))⟩
  f15 := ⟨"slices.partialInsertionSortOrdered[int]", by decide, Try.func98.trans (congrArg some (by kernel_rfl))⟩
  f16 := ⟨"cmp.Less[int]", by decide, Try.func99.trans (congrArg some (by kernel_rfl))⟩
  f17 := ⟨"slices.partitionEqualOrdered[int]", by decide, Try.func100.trans (congrArg some (by kernel_rfl))⟩
  f18 := ⟨"slices.partitionOrdered[int]", by decide, Try.func101.trans (congrArg some (by kernel_rfl))⟩
  f19 := Try.func89.trans (congrArg some (by kernel_rfl))
  f20 := Try.func90.trans (congrArg some (by kernel_rfl))
  f30 := ⟨"slices.siftDownOrdered[int]", by decide, Try.func104.trans (congrArg some (by kernel_rfl))⟩
  f31 := Try.func105.trans (congrArg some (by kernel_rfl))
  f32 := Try.func106.trans (congrArg some (by kernel_rfl))
  f33 := ⟨"slices.medianAdjacentOrdered[int]", by decide, Try.func107.trans (congrArg some (by kernel_rfl))⟩
  f34 := ⟨"slices.medianOrdered[int]", by decide, Try.func108.trans (congrArg some (by kernel_rfl))⟩
  f35 := ⟨"cmp.isNaN[int]", by decide, Try.func109.trans (congrArg some (by kernel_rfl))⟩
  f40 := ⟨"slices.order2Ordered[int]", by decide, Try.func110.trans (congrArg some (by kernel_rfl))⟩
  t0 := Try.underlying0
  a0 := Try.isAgg0
  z0 := Try.sizeOf0
  v0 := Try.zeroValue0
  t3 := Try.underlying3
  a3 := Try.isAgg3
  z3 := Try.sizeOf3
  v3 := Try.zeroValue3
  t4 := Try.underlying4
  a4 := Try.isAgg4
  z4 := Try.sizeOf4
  v4 := Try.zeroValue4
  t5 := Try.underlying5
  a5 := Try.isAgg5
  z5 := Try.sizeOf5
  v5 := Try.zeroValue5
  t9 := Try.underlying9
  a9 := Try.isAgg9
  z9 := Try.sizeOf9
  v9 := Try.zeroValue9
  t22 := Try.underlying46
  a22 := Try.isAgg46
  z22 := Try.sizeOf46
  v22 := Try.zeroValue46
  t23 := Try.underlying46
  a23 := Try.isAgg46
  z23 := Try.sizeOf46
  v23 := Try.zeroValue46
  t25 := Try.underlying3
  a25 := Try.isAgg3
  z25 := Try.sizeOf3
  v25 := Try.zeroValue3
  t32 := Try.underlying25
  a32 := Try.isAgg25
  z32 := Try.sizeOf25
  v32 := Try.zeroValue25
  t35 := Try.underlying168
  a35 := Try.isAgg168
  z35 := Try.sizeOf168
  v35 := Try.zeroValue168
  t36 := Try.underlying169
  a36 := Try.isAgg169
  z36 := Try.sizeOf169
  v36 := Try.zeroValue169
  t41 := Try.underlying144
  a41 := Try.isAgg144
  z41 := Try.sizeOf144
  v41 := Try.zeroValue144
  t44 := Try.underlying67
  a44 := Try.isAgg67
  z44 := Try.sizeOf67
  v44 := Try.zeroValue67
  t46 := Try.underlying62
  a46 := Try.isAgg62
  z46 := Try.sizeOf62
  v46 := Try.zeroValue62
  t53 := Try.underlying176
  a53 := Try.isAgg176
  z53 := Try.sizeOf176
  v53 := Try.zeroValue176
  t57 := Try.underlying180
  a57 := Try.isAgg180
  z57 := Try.sizeOf180
  v57 := Try.zeroValue180
  t63 := Try.underlying182
  a63 := Try.isAgg182
  z63 := Try.sizeOf182
  v63 := Try.zeroValue182
  t64 := Try.underlying183
  a64 := Try.isAgg183
  z64 := Try.sizeOf183
  v64 := Try.zeroValue183
def keys_int_ren : Go.Shelf.Ren := ⟨fun | 7 => 37 | 10 => 70 | n => n, fun | 23 => 37 | 26 => 3 | 3 => 3 | 28 => 91 | 0 => 0 | 27 => 90 | 33 => 134 | 4 => 4 | n => n, fun | n => n⟩
theorem keys_int : Go.Proofs.SlLaysZI.n7 Try.prog keys_int_ren where
  mixed := by kernel_rfl
  f7 := ⟨"maps.Keys[map[int]int,int,int]", by decide, Try.func37.trans (congrArg some (by kernel_rfl))⟩
  f10 := ⟨"maps.Keys[map[int]int,int,int]$1", by decide, Try.func70.trans (congrArg some (by kernel_rfl))⟩
  t0 := Try.underlying0
  a0 := Try.isAgg0
  z0 := Try.sizeOf0
  v0 := Try.zeroValue0
  t4 := Try.underlying4
  a4 := Try.isAgg4
  z4 := Try.sizeOf4
  v4 := Try.zeroValue4
  t23 := Try.underlying37
  a23 := Try.isAgg37
  z23 := Try.sizeOf37
  v23 := Try.zeroValue37
  t26 := Try.underlying3
  a26 := Try.isAgg3
  z26 := Try.sizeOf3
  v26 := Try.zeroValue3
  t27 := Try.underlying90
  a27 := Try.isAgg90
  z27 := Try.sizeOf90
  v27 := Try.zeroValue90
  t28 := Try.underlying91
  a28 := Try.isAgg91
  z28 := Try.sizeOf91
  v28 := Try.zeroValue91
  t33 := Try.underlying134
  a33 := Try.isAgg134
  z33 := Try.sizeOf134
  v33 := Try.zeroValue134
def keys_string_ren : Go.Shelf.Ren := ⟨fun | 7 => 71 | 10 => 85 | n => n, fun | 23 => 32 | 26 => 3 | 3 => 9 | 28 => 91 | 0 => 0 | 27 => 90 | 33 => 134 | 4 => 4 | n => n, fun | n => n⟩
theorem keys_string : Go.Proofs.SlLaysZI.n7 Try.prog keys_string_ren where
  mixed := by kernel_rfl
  f7 := ⟨"maps.Keys[map[int]string,int,string]", by decide, Try.func71.trans (congrArg some (by kernel_rfl))⟩
  f10 := ⟨"maps.Keys[map[int]string,int,string]$1", by decide, Try.func85.trans (congrArg some (by kernel_rfl))⟩
  t0 := Try.underlying0
  a0 := Try.isAgg0
  z0 := Try.sizeOf0
  v0 := Try.zeroValue0
  t4 := Try.underlying4
  a4 := Try.isAgg4
  z4 := Try.sizeOf4
  v4 := Try.zeroValue4
  t23 := Try.underlying32
  a23 := Try.isAgg32
  z23 := Try.sizeOf32
  v23 := Try.zeroValue32
  t26 := Try.underlying3
  a26 := Try.isAgg3
  z26 := Try.sizeOf3
  v26 := Try.zeroValue3
  t27 := Try.underlying90
  a27 := Try.isAgg90
  z27 := Try.sizeOf90
  v27 := Try.zeroValue90
  t28 := Try.underlying91
  a28 := Try.isAgg91
  z28 := Try.sizeOf91
  v28 := Try.zeroValue91
  t33 := Try.underlying134
  a33 := Try.isAgg134
  z33 := Try.sizeOf134
  v33 := Try.zeroValue134
-- maps.Keys[map[int]int,int,int]
-- maps.Keys[map[int]string,int,string]
end Go.Proofs.Ytbnhfcdagoigkaa.Lib
