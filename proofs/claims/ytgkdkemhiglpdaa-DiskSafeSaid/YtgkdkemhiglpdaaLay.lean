/- The library's sort and keys of a map, laid at this program (printed by lay.py). -/
import Derived.Shelf.SlIterI.Nil
import Derived.Shelf.SortM.Plain
import Derived.Shelf.SortM.SortNone
import Derived.Test.YtgkdkemhiglpdaaProg
set_option maxRecDepth 100000
namespace Go.Proofs.Ytgkdkemhiglpdaa.Lib
open Go Go.Proofs Go.Shelf Go.RowKit Go.Maps Go.Sort
def sortedI_ren : Go.Shelf.Ren := ⟨fun | 6 => 65 | 8 => 83 | 9 => 84 | 11 => 92 | 13 => 71 | 12 => 93 | 23 => 86 | 24 => 87 | 14 => 95 | 15 => 96 | 16 => 97 | 17 => 98 | 18 => 99 | 19 => 100 | 20 => 101 | 21 => 102 | 22 => 103 | 25 => 104 | 26 => 105 | 27 => 106 | 28 => 107 | 29 => 108 | 30 => 109 | 31 => 110 | n => n, fun | 26 => 3 | 28 => 135 | 24 => 77 | 0 => 0 | 3 => 3 | 37 => 103 | 48 => 97 | 50 => 94 | 4 => 4 | 40 => 171 | 39 => 170 | 45 => 159 | 5 => 5 | 9 => 9 | 51 => 176 | 55 => 180 | 57 => 182 | 58 => 183 | 33 => 161 | n => n, fun | n => n⟩
theorem sortedI : Go.Proofs.SlLaysZI.n6 Try.prog sortedI_ren where
  mixed := by kernel_rfl
  f6 := ⟨"slices.Sorted[int]", by decide, Try.func65.trans (congrArg some (by kernel_rfl))⟩
  f8 := ⟨"slices.Collect[int]", by decide, Try.func83.trans (congrArg some (by kernel_rfl))⟩
  f11 := ⟨"slices.AppendSeq[[]int,int]", by decide, Try.func92.trans (congrArg some (by kernel_rfl))⟩
  t0 := Try.underlying0
  a0 := Try.isAgg0
  z0 := Try.sizeOf0
  v0 := Try.zeroValue0
  t24 := Try.underlying77
  a24 := Try.isAgg77
  z24 := Try.sizeOf77
  v24 := Try.zeroValue77
  t26 := Try.underlying3
  a26 := Try.isAgg3
  z26 := Try.sizeOf3
  v26 := Try.zeroValue3
  t28 := Try.underlying135
  a28 := Try.isAgg135
  z28 := Try.sizeOf135
  v28 := Try.zeroValue135
  i26 := by kernel_rfl
def sortI_ren : Go.Shelf.Ren := ⟨fun | 5 => 84 | 8 => 71 | 7 => 93 | 19 => 86 | 20 => 87 | 10 => 95 | 11 => 96 | 12 => 97 | 13 => 98 | 14 => 99 | 15 => 100 | 16 => 101 | 17 => 102 | 18 => 103 | 30 => 104 | 31 => 105 | 32 => 106 | 33 => 107 | 34 => 108 | 35 => 109 | 40 => 110 | n => n, fun | 23 => 77 | 25 => 3 | 3 => 3 | 32 => 103 | 22 => 77 | 0 => 0 | 44 => 97 | 46 => 94 | 4 => 4 | 36 => 171 | 35 => 170 | 41 => 159 | 5 => 5 | 9 => 9 | 53 => 176 | 57 => 180 | 63 => 182 | 64 => 183 | n => n, fun | n => n⟩
theorem sortI : Go.Proofs.SlLaysM.n5 Try.prog sortI_ren where
  mixed := by kernel_rfl
  f5 := ⟨"slices.Sort[[]int,int]", by decide, Try.func84.trans (congrArg some (by kernel_rfl))⟩
  f7 := ⟨"slices.pdqsortOrdered[int]", by decide, Try.func93.trans (congrArg some (by kernel_rfl))⟩
  f8 := Try.func71.trans (congrArg some (by kernel_rfl))
  f10 := ⟨"slices.insertionSortOrdered[int]", by decide, Try.func95.trans (congrArg some (by kernel_rfl))⟩
  f11 := ⟨"slices.heapSortOrdered[int]", by decide, Try.func96.trans (congrArg some (by kernel_rfl))⟩
  f12 := ⟨"slices.breakPatternsOrdered[int]", by decide, Try.func97.trans (congrArg some (by kernel_rfl))⟩
  f13 := ⟨"slices.choosePivotOrdered[int]", by decide, Try.func98.trans (congrArg some (by kernel_rfl))⟩
  f14 := ⟨"slices.reverseRangeOrdered[int]", by decide, Try.func99.trans (congrArg some (by kernel_rfl))⟩
  f15 := ⟨"slices.partialInsertionSortOrdered[int]", by decide, Try.func100.trans (congrArg some (by kernel_rfl))⟩
  f16 := ⟨"cmp.Less[int]", by decide, Try.func101.trans (congrArg some (by kernel_rfl))⟩
  f17 := ⟨"slices.partitionEqualOrdered[int]", by decide, Try.func102.trans (congrArg some (by kernel_rfl))⟩
  f18 := ⟨"slices.partitionOrdered[int]", by decide, Try.func103.trans (congrArg some (by kernel_rfl))⟩
  f19 := Try.func86.trans (congrArg some (by kernel_rfl))
  f20 := Try.func87.trans (congrArg some (by kernel_rfl))
  f30 := ⟨"slices.siftDownOrdered[int]", by decide, Try.func104.trans (congrArg some (by kernel_rfl))⟩
  f31 := Try.func105.trans (congrArg some (by kernel_rfl))
  f32 := Try.func106.trans (congrArg some (by kernel_rfl))
  f33 := ⟨"slices.medianAdjacentOrdered[int]", by decide, Try.func107.trans (congrArg some (by kernel_rfl))⟩
  f34 := ⟨"slices.medianOrdered[int]", by decide, Try.func108.trans (congrArg some (by kernel_rfl))⟩
  f35 := ⟨"cmp.isNaN[int]", by decide, Try.func109.trans (congrArg some (by kernel_rfl))⟩
  f40 := ⟨"slices.order2Ordered[int]", by decide, Try.func110.trans (congrArg some (by kernel_rfl))⟩
  t0 := Try.underlying0
  a0 := Try.isAgg0
  z0 := Try.sizeOf0
  v0 := Try.zeroValue0
  t3 := Try.underlying3
  a3 := Try.isAgg3
  z3 := Try.sizeOf3
  v3 := Try.zeroValue3
  t4 := Try.underlying4
  a4 := Try.isAgg4
  z4 := Try.sizeOf4
  v4 := Try.zeroValue4
  t5 := Try.underlying5
  a5 := Try.isAgg5
  z5 := Try.sizeOf5
  v5 := Try.zeroValue5
  t9 := Try.underlying9
  a9 := Try.isAgg9
  z9 := Try.sizeOf9
  v9 := Try.zeroValue9
  t22 := Try.underlying77
  a22 := Try.isAgg77
  z22 := Try.sizeOf77
  v22 := Try.zeroValue77
  t23 := Try.underlying77
  a23 := Try.isAgg77
  z23 := Try.sizeOf77
  v23 := Try.zeroValue77
  t25 := Try.underlying3
  a25 := Try.isAgg3
  z25 := Try.sizeOf3
  v25 := Try.zeroValue3
  t32 := Try.underlying103
  a32 := Try.isAgg103
  z32 := Try.sizeOf103
  v32 := Try.zeroValue103
  t35 := Try.underlying170
  a35 := Try.isAgg170
  z35 := Try.sizeOf170
  v35 := Try.zeroValue170
  t36 := Try.underlying171
  a36 := Try.isAgg171
  z36 := Try.sizeOf171
  v36 := Try.zeroValue171
  t41 := Try.underlying159
  a41 := Try.isAgg159
  z41 := Try.sizeOf159
  v41 := Try.zeroValue159
  t44 := Try.underlying97
  a44 := Try.isAgg97
  z44 := Try.sizeOf97
  v44 := Try.zeroValue97
  t46 := Try.underlying94
  a46 := Try.isAgg94
  z46 := Try.sizeOf94
  v46 := Try.zeroValue94
  t53 := Try.underlying176
  a53 := Try.isAgg176
  z53 := Try.sizeOf176
  v53 := Try.zeroValue176
  t57 := Try.underlying180
  a57 := Try.isAgg180
  z57 := Try.sizeOf180
  v57 := Try.zeroValue180
  t63 := Try.underlying182
  a63 := Try.isAgg182
  z63 := Try.sizeOf182
  v63 := Try.zeroValue182
  t64 := Try.underlying183
  a64 := Try.isAgg183
  z64 := Try.sizeOf183
  v64 := Try.zeroValue183
def keys_string_ren : Go.Shelf.Ren := ⟨fun | 7 => 66 | 10 => 85 | n => n, fun | 23 => 53 | 26 => 3 | 3 => 9 | 28 => 135 | 0 => 0 | 27 => 134 | 33 => 161 | 4 => 4 | n => n, fun | n => n⟩
theorem keys_string : Go.Proofs.SlLaysZI.n7 Try.prog keys_string_ren where
  mixed := by kernel_rfl
  f7 := ⟨"maps.Keys[map[int]string,int,string]", by decide, Try.func66.trans (congrArg some (by kernel_rfl))⟩
  f10 := ⟨"maps.Keys[map[int]string,int,string]$1", by decide, Try.func85.trans (congrArg some (by kernel_rfl))⟩
  t0 := Try.underlying0
  a0 := Try.isAgg0
  z0 := Try.sizeOf0
  v0 := Try.zeroValue0
  t4 := Try.underlying4
  a4 := Try.isAgg4
  z4 := Try.sizeOf4
  v4 := Try.zeroValue4
  t23 := Try.underlying53
  a23 := Try.isAgg53
  z23 := Try.sizeOf53
  v23 := Try.zeroValue53
  t26 := Try.underlying3
  a26 := Try.isAgg3
  z26 := Try.sizeOf3
  v26 := Try.zeroValue3
  t27 := Try.underlying134
  a27 := Try.isAgg134
  z27 := Try.sizeOf134
  v27 := Try.zeroValue134
  t28 := Try.underlying135
  a28 := Try.isAgg135
  z28 := Try.sizeOf135
  v28 := Try.zeroValue135
  t33 := Try.underlying161
  a33 := Try.isAgg161
  z33 := Try.sizeOf161
  v33 := Try.zeroValue161
-- maps.Keys[map[int]string,int,string]
end Go.Proofs.Ytgkdkemhiglpdaa.Lib
