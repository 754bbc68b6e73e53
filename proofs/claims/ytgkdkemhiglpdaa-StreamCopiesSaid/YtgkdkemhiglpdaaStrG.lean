/- stream: a small arena; Copy. -/
import Derived.Test.YtgkdkemhiglpdaaStrF
set_option maxRecDepth 100000
set_option linter.unusedSimpArgs false
set_option linter.unusedVariables false
set_option linter.unnecessarySimpa false
set_option linter.unusedSectionVars false
namespace Go.Proofs.Ytgkdkemhiglpdaa.Str
open Go Go.Hw Go.Form Go.Proofs.Ytgkdkemhiglpdaa.W Go.Proofs.Ytgkdkemhiglpdaa.Dsk Go.Proofs.Ytgkdkemhiglpdaa.Are

theorem Take_full_s {a : Nat} {cap peak : Int} {bufs : List (Nat × Nat × Option Addr)} {L : List As} {H : Hp} (hs : Sep L H) (i : Nat) (hi : L[i]? = some (Ar a cap peak bufs)) (n : Nat) (hn : 1 ≤ n) (hc : cap - sumB bufs < n) :
    HCalls Try.prog 56 #[.pointer (some ⟨a, 0, none⟩), .int .i64 n] H (RetE (.tuple #[.pointer none, .int .i64 6]) H) := by
  obtain ⟨mp, cl, tk, h⟩ := Sep.ar hs i hi
  have hn := h.nn
  exact Take_full H a mp cap _ peak n ⟨by omega, by omega, by omega⟩ ⟨by omega, by omega⟩ h.ai.ha

/-- The arena has no room. -/
theorem Write_full {p dp ap : Nat} {d : D} {x : X} {cap peak : Int} {bufs : List (Nat × Nat × Option Addr)} {A : Option Addr} {m : Nat} (hok : Ok d) (hx : On d x) (fr n : Nat) (hn1 : 1 ≤ n) (hf : fr + n ≤ x.w) (hcap : cap - sumB bufs < (D.per d : Int)) :
    Tr Try.prog 18 #[.pointer (some ⟨p, 0, none⟩), .int .i64 fr, .slice A n m] [pts p (pipO dp ap x), Dk dp d, Ar ap cap peak bufs] fun v M =>
      v = .int .i64 6 ∧ M = [pts p (pipO dp ap x), Dk dp d, Ar ap cap peak bufs] := fun H hs => by
  have hp := Ok.per_le hok
  apply W_stream_Pipe_Write.ok
  unfold W_stream_Pipe_Write
  refine (pieces_tr (dp := dp) (ap := ap) hok hx fr n hf).use hs [0, 1] rfl rfl ?_
  rintro _ _ H ⟨A4, m4, rfl, rfl⟩ hs
  simp only [DI_int', DB_bool, DS_string, DP_pointer, DSl_slice, DM_map, DA_agg, DTup_tuple, DCons_cons, DNil_nil, NN_some, BIf_true, BIf_false, BIf_same, List.toList_toArray, Bool.not_true, Bool.not_false]
  refine BIf_bnen rfl (BIf_beqn (by omega) ?_)
  simp only [NN_some, Addr.add_lit', Addr.add_zero, Nat.zero_add, Nat.add_zero]
  have fin : ∃ M, ((Value.int .i64 6 : Value) = .int .i64 6 ∧ M = [pts p (pipO dp ap x), Dk dp d, Ar ap cap peak bufs]) ∧ Sep M H := ⟨_, ⟨rfl, rfl⟩, hs.re [0, 1, 3] rfl⟩
  refine ⟨?_, ?_⟩
  · refine hs.ld 0 rfl rfl ?_
    simp only [DI_int', DB_bool, DS_string, DP_pointer, DSl_slice, DM_map, DA_agg, DTup_tuple, DCons_cons, DNil_nil, NN_some, BIf_true, BIf_false, BIf_same, List.toList_toArray, Bool.not_true, Bool.not_false]
    refine HCalls.use (per_s hs 0 1 rfl rfl hok) ?_
    try simp only [DI_int', DB_bool, DS_string, DP_pointer, DSl_slice, DM_map, DA_agg, DTup_tuple, DCons_cons, DNil_nil, NN_some, BIf_true, BIf_false, BIf_same, List.toList_toArray, Bool.not_true, Bool.not_false]
    refine HCalls.use (Take_full_s hs 3 rfl (D.per d) (by omega) hcap) ?_
    try simp only [DI_int', DB_bool, DS_string, DP_pointer, DSl_slice, DM_map, DA_agg, DTup_tuple, DCons_cons, DNil_nil, NN_some, BIf_true, BIf_false, BIf_same, List.toList_toArray, Bool.not_true, Bool.not_false]
    unfold W_stream_Pipe_Write.j5
    exact BIf_bnep (by omega) fin
  · refine HCalls.use (per_s hs 0 1 rfl rfl hok) ?_
    try simp only [DI_int', DB_bool, DS_string, DP_pointer, DSl_slice, DM_map, DA_agg, DTup_tuple, DCons_cons, DNil_nil, NN_some, BIf_true, BIf_false, BIf_same, List.toList_toArray, Bool.not_true, Bool.not_false]
    refine hs.ld 0 rfl rfl ?_
    simp only [DI_int', DB_bool, DS_string, DP_pointer, DSl_slice, DM_map, DA_agg, DTup_tuple, DCons_cons, DNil_nil, NN_some, BIf_true, BIf_false, BIf_same, List.toList_toArray, Bool.not_true, Bool.not_false]
    refine HCalls.use (Take_full_s hs 3 rfl (D.per d) (by omega) hcap) ?_
    try simp only [DI_int', DB_bool, DS_string, DP_pointer, DSl_slice, DM_map, DA_agg, DTup_tuple, DCons_cons, DNil_nil, NN_some, BIf_true, BIf_false, BIf_same, List.toList_toArray, Bool.not_true, Bool.not_false]
    unfold W_stream_Pipe_Write.j5
    exact BIf_bnep (by omega) fin

/-- A variable's cell. -/
def var1 (b : Nat) (v : Value) (t : TypeId) : As := pts b (.obj (.cells #[v] t))

section
variable {p q dp ap bp bq bt b rb mb : Nat} {d : D} {x y : X} {cap peak : Int} {bufs : List (Nat × Nat × Option Addr)} {ws : List UInt64}
theorem Copy1_tr (hok : Ok d) (hc : Calm d) (ho : d.rd ≤ 4611685000000000000 ∧ d.wr ≤ 4611685000000000000) (hy : On d y) (s n at' : Nat) (hs1 : s < d.sec) (hn : 1 ≤ n) (hn2 : n ≤ D.per d) (hat : at' + n ≤ y.w)
    (hbm : (b, D.per d, some ⟨rb, 0, none⟩) ∈ bufs) (hws : ws.length = D.per d) (hcap : (D.per d : Int) ≤ cap - sumB bufs) :
    Tr Try.prog 63 #[.int .i64 s, .int .i64 n, .pointer (some ⟨b, 0, none⟩), .pointer (some ⟨bp, 0, none⟩), .pointer (some ⟨bq, 0, none⟩), .pointer (some ⟨bt, 0, none⟩)]
      [pts p (pipO dp ap x), pts q (pipO dp ap y), Dk dp d, Ar ap cap peak bufs, pts rb (.row (wordVals ws) 94 mb), pts bp (.obj (.cells #[.pointer (some ⟨p, 0, none⟩)] 43)), pts bq (.obj (.cells #[.pointer (some ⟨q, 0, none⟩)] 43)), pts bt (.obj (.cells #[.int .i64 at'] 3))] fun v M =>
      v = .int .i64 0 ∧ M = [pts p (pipO dp ap x), pts q (pipO dp ap y), Dk dp (wrs (D.more d) y n at' ((wordsB (d.now s)).take n)), Ar ap cap (mx peak (sumB bufs + D.per d)) bufs, pts rb (.row (wordVals (wordsB (d.now s))) 94 mb), pts bp (.obj (.cells #[.pointer (some ⟨p, 0, none⟩)] 43)), pts bq (.obj (.cells #[.pointer (some ⟨q, 0, none⟩)] 43)), pts bt (.obj (.cells #[.int .i64 ((at' + n : Nat) : Int)] 3))] := fun H hs => by
  have hp := Ok.per_le hok
  have hsec := hok.sec
  have hroom : y.s * D.per d ≤ 1048576 * 512 := Nat.mul_le_mul (by have := hy.fit; omega) (by omega)
  have h4 := hy.room
  have hwl : (wordsB (d.now (s : Int))).length = D.per d := by rw [wordsB_len, hok.now]; rfl
  apply W_stream_Copy_1.ok
  unfold W_stream_Copy_1
  simp only [NN_some, Addr.add_lit', Addr.add_zero, Nat.zero_add, Nat.add_zero]
  refine hs.ld 5 rfl rfl ?_
  simp only [DI_int', DB_bool, DS_string, DP_pointer, DSl_slice, DM_map, DA_agg, DTup_tuple, DCons_cons, DNil_nil, NN_some, BIf_true, BIf_false, BIf_same, List.toList_toArray, Bool.not_true, Bool.not_false]
  try simp only [NN_some, Addr.add_lit', Addr.add_zero, Nat.zero_add, Nat.add_zero]
  refine (load_tr (p := p) (ap := ap) (x := x) (cap := cap) (peak := peak) (b := b) (rb := rb) (m := mb) hok hc (by omega) (s : Int) (Int.natCast_nonneg _) (Int.ofNat_lt.2 hs1) hbm (xs := wordVals ws) (by rw [wordVals_length]; exact hws)).use hs [0, 2, 3, 4] rfl rfl ?_
  rintro _ _ H ⟨rfl, rfl⟩ hs
  simp only [DI_int', DB_bool, DS_string, DP_pointer, DSl_slice, DM_map, DA_agg, DTup_tuple, DCons_cons, DNil_nil, NN_some, BIf_true, BIf_false, BIf_same, List.toList_toArray, Bool.not_true, Bool.not_false]
  refine BIf_beqp rfl ?_
  refine hs.ld 6 rfl rfl ?_
  simp only [DI_int', DB_bool, DS_string, DP_pointer, DSl_slice, DM_map, DA_agg, DTup_tuple, DCons_cons, DNil_nil, NN_some, BIf_true, BIf_false, BIf_same, List.toList_toArray, Bool.not_true, Bool.not_false]
  refine hs.ld 7 rfl rfl ?_
  simp only [DI_int', DB_bool, DS_string, DP_pointer, DSl_slice, DM_map, DA_agg, DTup_tuple, DCons_cons, DNil_nil, NN_some, BIf_true, BIf_false, BIf_same, List.toList_toArray, Bool.not_true, Bool.not_false]
  refine QCall.use (Words_s hs 2 rfl hbm) ?_
  simp only [DI_int', DB_bool, DS_string, DP_pointer, DSl_slice, DM_map, DA_agg, DTup_tuple, DCons_cons, DNil_nil, NN_some, BIf_true, BIf_false, BIf_same, List.toList_toArray, Bool.not_true, Bool.not_false]
  refine slB_to rfl (by omega) ?_
  rw [slA_zero, Nat.sub_zero, Nat.sub_zero]
  have htl : ((wordsB (d.now (s : Int))).take n).length = n := by rw [List.length_take]; omega
  refine (Write_tr (p := q) (dp := dp) (ap := ap) (d := D.more d) (x := y) (cap := cap) (peak := peak) (bufs := bufs) (R := pts rb (.row (wordVals (wordsB (d.now (s : Int)))) 94 mb)) (A := some ⟨rb, 0, none⟩) (n := n) (m := D.per d) (src := (wordsB (d.now (s : Int))).take n) (Ok.more hok) (Calm.more hc) ⟨hy.w1, hy.s1, hy.fit, hy.room⟩ ⟨by show d.rd + 1 ≤ _; omega, by show d.wr ≤ _; omega⟩ at' htl.symm hn hat hn2 hcap (fun H h => ?_)).use hs [4, 1, 2, 3] rfl rfl ?_
  · have := (Cells.row h 0 n)
    rw [List.drop_zero] at this
    rw [show wordVals ((wordsB (d.now (s : Int))).take n) = (wordVals (wordsB (d.now (s : Int)))).take n by unfold wordVals; rw [List.map_take]]
    exact this
  rintro _ _ H ⟨rfl, rfl⟩ hs
  simp only [DI_int', DB_bool, DS_string, DP_pointer, DSl_slice, DM_map, DA_agg, DTup_tuple, DCons_cons, DNil_nil, NN_some, BIf_true, BIf_false, BIf_same, List.toList_toArray, Bool.not_true, Bool.not_false]
  refine hs.ld 7 rfl rfl ?_
  simp only [DI_int', DB_bool, DS_string, DP_pointer, DSl_slice, DM_map, DA_agg, DTup_tuple, DCons_cons, DNil_nil, NN_some, BIf_true, BIf_false, BIf_same, List.toList_toArray, Bool.not_true, Bool.not_false]
  rw [i64w (x := (at' : Int) + (n : Int)) (by omega) (by omega), show (at' : Int) + (n : Int) = ((at' + n : Nat) : Int) by omega]
  try simp only [NN_some, Addr.add_lit', Addr.add_zero, Nat.zero_add, Nat.add_zero]
  refine hs.st 7 rfl (Nat.lt_of_sub_eq_succ rfl) rfl fun H hs => ?_
  exact ⟨_, ⟨trivial, rfl⟩, hs.re [4, 0, 1, 2, 3, 5, 6, 7] rfl⟩

theorem Copy1_full (hok : Ok d) (hc : Calm d) (ho : d.rd ≤ 4611685000000000000 ∧ d.wr ≤ 4611685000000000000) (hy : On d y) (s n at' : Nat) (hs1 : s < d.sec) (hn : 1 ≤ n) (hn2 : n ≤ D.per d) (hat : at' + n ≤ y.w)
    (hbm : (b, D.per d, some ⟨rb, 0, none⟩) ∈ bufs) (hws : ws.length = D.per d) (hcap : cap - sumB bufs < (D.per d : Int)) :
    Tr Try.prog 63 #[.int .i64 s, .int .i64 n, .pointer (some ⟨b, 0, none⟩), .pointer (some ⟨bp, 0, none⟩), .pointer (some ⟨bq, 0, none⟩), .pointer (some ⟨bt, 0, none⟩)]
      [pts p (pipO dp ap x), pts q (pipO dp ap y), Dk dp d, Ar ap cap peak bufs, pts rb (.row (wordVals ws) 94 mb), pts bp (.obj (.cells #[.pointer (some ⟨p, 0, none⟩)] 43)), pts bq (.obj (.cells #[.pointer (some ⟨q, 0, none⟩)] 43)), pts bt (.obj (.cells #[.int .i64 at'] 3))] fun v M =>
      v = .int .i64 6 ∧ M = [pts p (pipO dp ap x), pts q (pipO dp ap y), Dk dp (D.more d), Ar ap cap peak bufs, pts rb (.row (wordVals (wordsB (d.now s))) 94 mb), pts bp (.obj (.cells #[.pointer (some ⟨p, 0, none⟩)] 43)), pts bq (.obj (.cells #[.pointer (some ⟨q, 0, none⟩)] 43)), pts bt (.obj (.cells #[.int .i64 ((at' + n : Nat) : Int)] 3))] := fun H hs => by
  have hp := Ok.per_le hok
  have hsec := hok.sec
  have hroom : y.s * D.per d ≤ 1048576 * 512 := Nat.mul_le_mul (by have := hy.fit; omega) (by omega)
  have h4 := hy.room
  have hwl : (wordsB (d.now (s : Int))).length = D.per d := by rw [wordsB_len, hok.now]; rfl
  apply W_stream_Copy_1.ok
  unfold W_stream_Copy_1
  simp only [NN_some, Addr.add_lit', Addr.add_zero, Nat.zero_add, Nat.add_zero]
  refine hs.ld 5 rfl rfl ?_
  simp only [DI_int', DB_bool, DS_string, DP_pointer, DSl_slice, DM_map, DA_agg, DTup_tuple, DCons_cons, DNil_nil, NN_some, BIf_true, BIf_false, BIf_same, List.toList_toArray, Bool.not_true, Bool.not_false]
  try simp only [NN_some, Addr.add_lit', Addr.add_zero, Nat.zero_add, Nat.add_zero]
  refine (load_tr (p := p) (ap := ap) (x := x) (cap := cap) (peak := peak) (b := b) (rb := rb) (m := mb) hok hc (by omega) (s : Int) (Int.natCast_nonneg _) (Int.ofNat_lt.2 hs1) hbm (xs := wordVals ws) (by rw [wordVals_length]; exact hws)).use hs [0, 2, 3, 4] rfl rfl ?_
  rintro _ _ H ⟨rfl, rfl⟩ hs
  simp only [DI_int', DB_bool, DS_string, DP_pointer, DSl_slice, DM_map, DA_agg, DTup_tuple, DCons_cons, DNil_nil, NN_some, BIf_true, BIf_false, BIf_same, List.toList_toArray, Bool.not_true, Bool.not_false]
  refine BIf_beqp rfl ?_
  refine hs.ld 6 rfl rfl ?_
  simp only [DI_int', DB_bool, DS_string, DP_pointer, DSl_slice, DM_map, DA_agg, DTup_tuple, DCons_cons, DNil_nil, NN_some, BIf_true, BIf_false, BIf_same, List.toList_toArray, Bool.not_true, Bool.not_false]
  refine hs.ld 7 rfl rfl ?_
  simp only [DI_int', DB_bool, DS_string, DP_pointer, DSl_slice, DM_map, DA_agg, DTup_tuple, DCons_cons, DNil_nil, NN_some, BIf_true, BIf_false, BIf_same, List.toList_toArray, Bool.not_true, Bool.not_false]
  refine QCall.use (Words_s hs 2 rfl hbm) ?_
  simp only [DI_int', DB_bool, DS_string, DP_pointer, DSl_slice, DM_map, DA_agg, DTup_tuple, DCons_cons, DNil_nil, NN_some, BIf_true, BIf_false, BIf_same, List.toList_toArray, Bool.not_true, Bool.not_false]
  refine slB_to rfl (by omega) ?_
  rw [slA_zero, Nat.sub_zero, Nat.sub_zero]
  refine (Write_full (p := q) (dp := dp) (ap := ap) (d := D.more d) (x := y) (cap := cap) (peak := peak) (bufs := bufs) (A := some ⟨rb, 0, none⟩) (m := D.per d) (Ok.more hok) ⟨hy.w1, hy.s1, hy.fit, hy.room⟩ at' n hn hat hcap).use hs [4, 1, 2] rfl rfl ?_
  rintro _ _ H ⟨rfl, rfl⟩ hs
  simp only [DI_int', DB_bool, DS_string, DP_pointer, DSl_slice, DM_map, DA_agg, DTup_tuple, DCons_cons, DNil_nil, NN_some, BIf_true, BIf_false, BIf_same, List.toList_toArray, Bool.not_true, Bool.not_false]
  refine hs.ld 7 rfl rfl ?_
  simp only [DI_int', DB_bool, DS_string, DP_pointer, DSl_slice, DM_map, DA_agg, DTup_tuple, DCons_cons, DNil_nil, NN_some, BIf_true, BIf_false, BIf_same, List.toList_toArray, Bool.not_true, Bool.not_false]
  rw [i64w (x := (at' : Int) + (n : Int)) (by omega) (by omega), show (at' : Int) + (n : Int) = ((at' + n : Nat) : Int) by omega]
  try simp only [NN_some, Addr.add_lit', Addr.add_zero, Nat.zero_add, Nat.add_zero]
  refine hs.st 7 rfl (Nat.lt_of_sub_eq_succ rfl) rfl fun H hs => ?_
  exact ⟨_, ⟨trivial, rfl⟩, hs.re [3, 0, 1, 2, 4, 5, 6, 7] rfl⟩
end

end Go.Proofs.Ytgkdkemhiglpdaa.Str
