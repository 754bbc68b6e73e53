/- stream: store, New, pieces. -/
import Derived.Test.YtgkdkemhiglpdaaStrA
set_option maxRecDepth 100000
set_option linter.unusedSimpArgs false
set_option linter.unusedVariables false
set_option linter.unnecessarySimpa false
set_option linter.unusedSectionVars false
namespace Go.Proofs.Ytgkdkemhiglpdaa.Str
open Go Go.Hw Go.Form Go.Proofs.Ytgkdkemhiglpdaa.W Go.Proofs.Ytgkdkemhiglpdaa.Dsk Go.Proofs.Ytgkdkemhiglpdaa.Are

/-- A sector is written. -/
def D.put (d : D) (i : Int) (ws : List UInt64) : D := { d with wr := d.wr + 1, tch := updT d.tch i, cache := updB d.cache i (form ws) }

theorem writeC_tr {p : Nat} {d : D} (hok : Ok d) (hc : Calm d) (ho : d.wr ≤ 4611686018427387904) (i : Int) (h0 : 0 ≤ i) (h1 : i < d.sec) (ws : List UInt64) (hw : ws.length = D.per d) (b m : Nat) :
    Tr Try.prog 64 #[.pointer (some ⟨p, 0, none⟩), .int .i64 i, .slice (some ⟨b, 0, none⟩) (8 * ws.length) (8 * ws.length)] [Dk p d, pts b (.row (byteVals (form ws)) 5 m)] fun v M =>
      v = .int .i64 0 ∧ M = [Dk p (D.put d i ws), pts b (.row (byteVals (form ws)) 5 m)] := fun H hs => by
  have hp := Ok.per_le hok
  refine (Write_tr hok ho i (some ⟨b, 0, none⟩) (8 * ws.length) (8 * ws.length) (form ws) (form_length ws).symm (pts b (.row (byteVals (form ws)) 5 m)) (fun H h => ?_) H hs).mono ?_
  · have := Cells.row h 0 (8 * ws.length)
    rw [List.drop_zero, List.take_of_length_le (by rw [byteVals_length, form_length]; omega)] at this
    exact this
  · rintro v H' ⟨M, ⟨rfl, rfl⟩, hM⟩
    have e1 : d.writeE i (8 * ws.length) = 0 := by
      unfold D.writeE
      rw [if_neg (by rw [hc.chk h0 h1]; simp), if_neg (by omega), hc.burns]; rfl
    have e2 : d.writeD i (form ws) = D.put d i ws := by
      unfold D.writeD
      rw [if_neg (by rw [hc.chk h0 h1]; simp), if_neg (by rw [form_length]; omega), hc.burns]
      unfold D.wrote D.put
      rw [hc.burnt]; rfl
    rw [e1]
    rw [e2] at hM
    exact ⟨_, ⟨rfl, rfl⟩, hM⟩

theorem store_tr {p dp ap : Nat} {d : D} {x : X} {cap peak : Int} {bufs : List (Nat × Nat × Option Addr)} {b rb m : Nat} {ws : List UInt64} (hok : Ok d) (hc : Calm d) (ho : d.wr ≤ 4611686018427387904) (i : Int) (h0 : 0 ≤ i) (h1 : i < d.sec)
    (hbm : (b, D.per d, some ⟨rb, 0, none⟩) ∈ bufs) (hw : ws.length = D.per d) :
    Tr Try.prog 61 #[.pointer (some ⟨p, 0, none⟩), .int .i64 i, .pointer (some ⟨b, 0, none⟩)] [pts p (pipO dp ap x), Dk dp d, Ar ap cap peak bufs, pts rb (.row (wordVals ws) 94 m)] fun v M =>
      v = .int .i64 0 ∧ M = [pts p (pipO dp ap x), Dk dp (D.put d i ws), Ar ap cap peak bufs, pts rb (.row (wordVals ws) 94 m)] := fun H hs => by
  have hp := Ok.per_le hok
  have hcell : ∀ {L : List As} {H : Hp} (j : Nat), Sep L H → L[j]? = some (pts rb (.row (wordVals ws) 94 m)) → Cells H (some ⟨rb, 0, none⟩) (wordVals ws) := fun j hs hj => by
    have := Cells.row (hs.get j hj) 0 ws.length
    rw [List.drop_zero, List.take_of_length_le (by rw [wordVals_length]; exact Nat.le_refl _)] at this
    exact this
  apply W_stream_means_store.ok
  unfold W_stream_means_store
  simp only [NN_some, Addr.add_lit', Addr.add_zero, Nat.zero_add, Nat.add_zero]
  have put : ∀ (H : Hp) (K : Value → Hp → Prop), Sep [pts p (pipO dp ap x), Dk dp d, Ar ap cap peak bufs, pts rb (.row (wordVals ws) 94 m)] H →
      (∀ b' H', Sep [pts p (pipO dp ap x), Dk dp d, Ar ap cap peak bufs, pts rb (.row (wordVals ws) 94 m), pts b' (.row (byteVals (form ws)) 5 (8 * ws.length))] H' → K (.slice (some ⟨b', 0, none⟩) (8 * ws.length) (8 * ws.length)) H') →
      HCalls Try.prog 42 #[.slice (some ⟨rb, 0, none⟩) (D.per d) (D.per d)] H K := fun H K hs k => by
    rw [← hw]
    refine (FormP.Put_ok (some ⟨rb, 0, none⟩) ws.length ws.length ws rfl (by omega) H (hcell 3 hs rfl)).mono ?_
    rintro v H' ⟨b', hb', rfl, rfl⟩
    exact k b' _ (hs.new hb' _)
  have wr : ∀ (b' : Nat) (H : Hp), Sep [pts p (pipO dp ap x), Dk dp d, Ar ap cap peak bufs, pts rb (.row (wordVals ws) 94 m), pts b' (.row (byteVals (form ws)) 5 (8 * ws.length))] H →
      HCalls Try.prog 64 #[.pointer (some ⟨dp, 0, none⟩), .int .i64 i, .slice (some ⟨b', 0, none⟩) (8 * ws.length) (8 * ws.length)] H fun v4 H3 => DI .i64 v4 fun x2 => ∃ M, ((.int .i64 x2 : Value) = .int .i64 0 ∧ M = [pts p (pipO dp ap x), Dk dp (D.put d i ws), Ar ap cap peak bufs, pts rb (.row (wordVals ws) 94 m)]) ∧ Sep M H3 := fun b' H hs => by
    refine (writeC_tr hok hc ho i h0 h1 ws hw b' (8 * ws.length)).use hs [1, 4] rfl rfl ?_
    rintro _ _ H ⟨rfl, rfl⟩ hs
    exact ⟨_, ⟨rfl, rfl⟩, hs.re [2, 0, 3, 4] rfl⟩
  refine ⟨?_, ?_⟩
  · refine hs.ld 0 rfl rfl ?_
    simp only [DI_int', DB_bool, DS_string, DP_pointer, DSl_slice, DM_map, DA_agg, DTup_tuple, DCons_cons, DNil_nil, NN_some, BIf_true, BIf_false, BIf_same, List.toList_toArray, Bool.not_true, Bool.not_false]
    refine HCalls.use (Words_s hs 2 rfl hbm) ?_
    try simp only [DI_int', DB_bool, DS_string, DP_pointer, DSl_slice, DM_map, DA_agg, DTup_tuple, DCons_cons, DNil_nil, NN_some, BIf_true, BIf_false, BIf_same, List.toList_toArray, Bool.not_true, Bool.not_false]
    refine put H _ hs fun b' H hs => ?_
    simp only [DI_int', DB_bool, DS_string, DP_pointer, DSl_slice, DM_map, DA_agg, DTup_tuple, DCons_cons, DNil_nil, NN_some, BIf_true, BIf_false, BIf_same, List.toList_toArray, Bool.not_true, Bool.not_false]
    exact wr b' H hs
  · refine HCalls.use (Words_s hs 2 rfl hbm) ?_
    try simp only [DI_int', DB_bool, DS_string, DP_pointer, DSl_slice, DM_map, DA_agg, DTup_tuple, DCons_cons, DNil_nil, NN_some, BIf_true, BIf_false, BIf_same, List.toList_toArray, Bool.not_true, Bool.not_false]
    refine ⟨?_, ?_⟩
    · refine hs.ld 0 rfl rfl ?_
      simp only [DI_int', DB_bool, DS_string, DP_pointer, DSl_slice, DM_map, DA_agg, DTup_tuple, DCons_cons, DNil_nil, NN_some, BIf_true, BIf_false, BIf_same, List.toList_toArray, Bool.not_true, Bool.not_false]
      refine put H _ hs fun b' H hs => ?_
      simp only [DI_int', DB_bool, DS_string, DP_pointer, DSl_slice, DM_map, DA_agg, DTup_tuple, DCons_cons, DNil_nil, NN_some, BIf_true, BIf_false, BIf_same, List.toList_toArray, Bool.not_true, Bool.not_false]
      exact wr b' H hs
    · refine put H _ hs fun b' H hs => ?_
      simp only [DI_int', DB_bool, DS_string, DP_pointer, DSl_slice, DM_map, DA_agg, DTup_tuple, DCons_cons, DNil_nil, NN_some, BIf_true, BIf_false, BIf_same, List.toList_toArray, Bool.not_true, Bool.not_false]
      refine hs.ld 0 rfl rfl ?_
      simp only [DI_int', DB_bool, DS_string, DP_pointer, DSl_slice, DM_map, DA_agg, DTup_tuple, DCons_cons, DNil_nil, NN_some, BIf_true, BIf_false, BIf_same, List.toList_toArray, Bool.not_true, Bool.not_false]
      exact wr b' H hs

/-- Is there a pipe of an extent? -/
def right (d : D) (f s w : Int) : Prop := 1 ≤ w ∧ 0 ≤ f ∧ 1 ≤ s ∧ f < d.sec ∧ s ≤ d.sec - f ∧ w ≤ s * D.per d

theorem New_tr {dp ap : Nat} {d : D} (hok : Ok d) (x : X) (hx : On d x) : Tr Try.prog 23 #[.pointer (some ⟨dp, 0, none⟩), .pointer (some ⟨ap, 0, none⟩), .agg #[.int .i64 x.f, .int .i64 x.s, .int .i64 x.w]] [Dk dp d] fun v M =>
    ∃ p, v = .tuple #[.pointer (some ⟨p, 0, none⟩), .int .i64 0] ∧ M = [Dk dp d, pts p (pipO dp ap x)] := fun H hs => by
  have hp := Ok.per_le hok
  have hsec := hok.sec
  obtain ⟨h1, h2, h3, h4⟩ := hx
  have hroom : x.s * D.per d ≤ 1048576 * 512 := Nat.mul_le_mul (by omega) (by omega)
  apply W_stream_New.ok
  unfold W_stream_New
  simp only [NN_some, Addr.add_lit', Addr.add_zero, Nat.zero_add, Nat.add_zero]
  refine hs.nw fun b1 H hs => BIf_neg rfl (BIf_neg rfl ?_)
  refine hs.ldw 1 rfl rfl ?_
  simp only [DI_int', DB_bool, DS_string, DP_pointer, DSl_slice, DM_map, DA_agg, DTup_tuple, DCons_cons, DNil_nil, NN_some, BIf_true, BIf_false, BIf_same, List.toList_toArray, Bool.not_true, Bool.not_false]
  refine hs.nw fun b2 H hs => ?_
  refine hs.ld 1 rfl rfl ?_
  simp only [DI_int', DB_bool, DS_string, DP_pointer, DSl_slice, DM_map, DA_agg, DTup_tuple, DCons_cons, DNil_nil, NN_some, BIf_true, BIf_false, BIf_same, List.toList_toArray, Bool.not_true, Bool.not_false]
  refine BIf_dneg (by omega) ?_
  refine hs.ld 1 rfl rfl ?_
  simp only [DI_int', DB_bool, DS_string, DP_pointer, DSl_slice, DM_map, DA_agg, DTup_tuple, DCons_cons, DNil_nil, NN_some, BIf_true, BIf_false, BIf_same, List.toList_toArray, Bool.not_true, Bool.not_false]
  refine BIf_dneg (by omega) ?_
  refine hs.ld 1 rfl rfl ?_
  simp only [DI_int', DB_bool, DS_string, DP_pointer, DSl_slice, DM_map, DA_agg, DTup_tuple, DCons_cons, DNil_nil, NN_some, BIf_true, BIf_false, BIf_same, List.toList_toArray, Bool.not_true, Bool.not_false]
  refine BIf_dneg (by omega) ?_
  refine hs.ld 1 rfl rfl ?_
  simp only [DI_int', DB_bool, DS_string, DP_pointer, DSl_slice, DM_map, DA_agg, DTup_tuple, DCons_cons, DNil_nil, NN_some, BIf_true, BIf_false, BIf_same, List.toList_toArray, Bool.not_true, Bool.not_false]
  refine QCall.use (Sectors_s hs 0 rfl) ?_
  try simp only [DI_int', DB_bool, DS_string, DP_pointer, DSl_slice, DM_map, DA_agg, DTup_tuple, DCons_cons, DNil_nil, NN_some, BIf_true, BIf_false, BIf_same, List.toList_toArray, Bool.not_true, Bool.not_false]
  refine BIf_dneg (by omega) ?_
  refine hs.ld 1 rfl rfl ?_
  simp only [DI_int', DB_bool, DS_string, DP_pointer, DSl_slice, DM_map, DA_agg, DTup_tuple, DCons_cons, DNil_nil, NN_some, BIf_true, BIf_false, BIf_same, List.toList_toArray, Bool.not_true, Bool.not_false]
  refine QCall.use (Sectors_s hs 0 rfl) ?_
  try simp only [DI_int', DB_bool, DS_string, DP_pointer, DSl_slice, DM_map, DA_agg, DTup_tuple, DCons_cons, DNil_nil, NN_some, BIf_true, BIf_false, BIf_same, List.toList_toArray, Bool.not_true, Bool.not_false]
  refine hs.ld 1 rfl rfl ?_
  simp only [DI_int', DB_bool, DS_string, DP_pointer, DSl_slice, DM_map, DA_agg, DTup_tuple, DCons_cons, DNil_nil, NN_some, BIf_true, BIf_false, BIf_same, List.toList_toArray, Bool.not_true, Bool.not_false]
  rw [i64w (x := (d.sec : Int) - x.f) (by omega) (by omega)]
  refine BIf_dneg (by omega) ?_
  refine hs.ld 1 rfl rfl ?_
  simp only [DI_int', DB_bool, DS_string, DP_pointer, DSl_slice, DM_map, DA_agg, DTup_tuple, DCons_cons, DNil_nil, NN_some, BIf_true, BIf_false, BIf_same, List.toList_toArray, Bool.not_true, Bool.not_false]
  refine hs.ld 1 rfl rfl ?_
  simp only [DI_int', DB_bool, DS_string, DP_pointer, DSl_slice, DM_map, DA_agg, DTup_tuple, DCons_cons, DNil_nil, NN_some, BIf_true, BIf_false, BIf_same, List.toList_toArray, Bool.not_true, Bool.not_false]
  refine QCall.use (per_s (p := b2) (dp := dp) (ap := ap) (x := x) hs 2 0 rfl rfl hok) ?_
  simp only [DI_int', DB_bool, DS_string, DP_pointer, DSl_slice, DM_map, DA_agg, DTup_tuple, DCons_cons, DNil_nil, NN_some, BIf_true, BIf_false, BIf_same, List.toList_toArray, Bool.not_true, Bool.not_false]
  rw [← Int.natCast_mul, i64n (by omega)]
  refine BIf_dneg (by omega) ?_
  exact ⟨_, ⟨b2, rfl, rfl⟩, hs.re [0, 2] rfl⟩

theorem New_no {dp ap : Nat} {d : D} (hok : Ok d) (f s w : Int) (hf : -9223372036854775808 ≤ f ∧ f ≤ 9223372036854775807) (hs' : -9223372036854775808 ≤ s ∧ s ≤ 9223372036854775807) (hx : ¬ right d f s w) {L : List As} {H : Hp} (h : Sep L H) (i : Nat) (hi : L[i]? = some (Dk dp d)) :
    HCalls Try.prog 23 #[.pointer (some ⟨dp, 0, none⟩), .pointer (some ⟨ap, 0, none⟩), .agg #[.int .i64 f, .int .i64 s, .int .i64 w]] H (RetE (.tuple #[.pointer none, .int .i64 2]) H) := by
  have hp := Ok.per_le hok
  have hsec := hok.sec
  have hfit : Sep [own H, fun _ => True] H := ⟨H, fun _ => none, Hp.le_refl _, fun b o h => (by cases h), fun b => .inr rfl, Hp.le_refl _, ⟨fun _ => none, fun _ => none, fun b o h => (by cases h), fun b o h => (by cases h), fun b => .inl rfl, trivial, trivial⟩⟩
  apply HCalls.ret
  apply W_stream_New.ok
  unfold W_stream_New
  simp only [NN_some, Addr.add_lit', Addr.add_zero, Nat.zero_add, Nat.add_zero]
  have hs := Sep.start H
  obtain ⟨r1, r2, r3, hd⟩ := Dk.see h i hi
  have sec : ∀ H', H.le H' → HCalls Try.prog 29 #[.pointer (some ⟨dp, 0, none⟩)] H' (RetE (.int .i64 (d.sec : Int)) H') := fun H' hle => Sectors_s (h.up hle) i hi
  refine hs.nw fun b1 H' hs => BIf_neg rfl (BIf_neg rfl ?_)
  refine hs.ldw 1 rfl rfl ?_
  simp only [DI_int', DB_bool, DS_string, DP_pointer, DSl_slice, DM_map, DA_agg, DTup_tuple, DCons_cons, DNil_nil, NN_some, BIf_true, BIf_false, BIf_same, List.toList_toArray, Bool.not_true, Bool.not_false]
  refine hs.nw fun b2 H' hs => ?_
  have fin := hs.fin 0 rfl (.tuple #[.pointer none, .int .i64 2])
  have hle := hs.ow 0 rfl
  refine hs.ld 1 rfl rfl ?_
  simp only [DI_int', DB_bool, DS_string, DP_pointer, DSl_slice, DM_map, DA_agg, DTup_tuple, DCons_cons, DNil_nil, NN_some, BIf_true, BIf_false, BIf_same, List.toList_toArray, Bool.not_true, Bool.not_false]
  by_cases c1 : w < 1
  · exact BIf_dpos c1 fin
  refine BIf_dneg c1 (hs.ld 1 rfl rfl ?_)
  simp only [DI_int', DB_bool, DS_string, DP_pointer, DSl_slice, DM_map, DA_agg, DTup_tuple, DCons_cons, DNil_nil, NN_some, BIf_true, BIf_false, BIf_same, List.toList_toArray, Bool.not_true, Bool.not_false]
  by_cases c2 : f < 0
  · exact BIf_dpos c2 fin
  refine BIf_dneg c2 (hs.ld 1 rfl rfl ?_)
  simp only [DI_int', DB_bool, DS_string, DP_pointer, DSl_slice, DM_map, DA_agg, DTup_tuple, DCons_cons, DNil_nil, NN_some, BIf_true, BIf_false, BIf_same, List.toList_toArray, Bool.not_true, Bool.not_false]
  by_cases c3 : s < 1
  · exact BIf_dpos c3 fin
  refine BIf_dneg c3 (hs.ld 1 rfl rfl ?_)
  simp only [DI_int', DB_bool, DS_string, DP_pointer, DSl_slice, DM_map, DA_agg, DTup_tuple, DCons_cons, DNil_nil, NN_some, BIf_true, BIf_false, BIf_same, List.toList_toArray, Bool.not_true, Bool.not_false]
  refine QCall.use (sec _ hle) ?_
  simp only [DI_int', DB_bool, DS_string, DP_pointer, DSl_slice, DM_map, DA_agg, DTup_tuple, DCons_cons, DNil_nil, NN_some, BIf_true, BIf_false, BIf_same, List.toList_toArray, Bool.not_true, Bool.not_false]
  by_cases c4 : f ≥ d.sec
  · exact BIf_dpos c4 fin
  refine BIf_dneg c4 (hs.ld 1 rfl rfl ?_)
  simp only [DI_int', DB_bool, DS_string, DP_pointer, DSl_slice, DM_map, DA_agg, DTup_tuple, DCons_cons, DNil_nil, NN_some, BIf_true, BIf_false, BIf_same, List.toList_toArray, Bool.not_true, Bool.not_false]
  refine QCall.use (sec _ hle) ?_
  simp only [DI_int', DB_bool, DS_string, DP_pointer, DSl_slice, DM_map, DA_agg, DTup_tuple, DCons_cons, DNil_nil, NN_some, BIf_true, BIf_false, BIf_same, List.toList_toArray, Bool.not_true, Bool.not_false]
  refine hs.ld 1 rfl rfl ?_
  simp only [DI_int', DB_bool, DS_string, DP_pointer, DSl_slice, DM_map, DA_agg, DTup_tuple, DCons_cons, DNil_nil, NN_some, BIf_true, BIf_false, BIf_same, List.toList_toArray, Bool.not_true, Bool.not_false]
  rw [i64w (x := (d.sec : Int) - f) (by omega) (by omega)]
  by_cases c5 : s > d.sec - f
  · exact BIf_dpos c5 fin
  refine BIf_dneg c5 (hs.ld 1 rfl rfl ?_)
  simp only [DI_int', DB_bool, DS_string, DP_pointer, DSl_slice, DM_map, DA_agg, DTup_tuple, DCons_cons, DNil_nil, NN_some, BIf_true, BIf_false, BIf_same, List.toList_toArray, Bool.not_true, Bool.not_false]
  refine hs.ld 1 rfl rfl ?_
  simp only [DI_int', DB_bool, DS_string, DP_pointer, DSl_slice, DM_map, DA_agg, DTup_tuple, DCons_cons, DNil_nil, NN_some, BIf_true, BIf_false, BIf_same, List.toList_toArray, Bool.not_true, Bool.not_false]
  obtain ⟨sn, rfl⟩ := Int.eq_ofNat_of_zero_le (show 0 ≤ s by omega)
  have hroom : sn * D.per d ≤ 1048576 * 512 := Nat.mul_le_mul (by omega) (by omega)
  have per : HCalls Try.prog 57 #[.pointer (some ⟨b2, 0, none⟩)] H' (RetE (.int .i64 (D.per d : Int)) H') := by
    apply W_stream_means_per.ok
    unfold W_stream_means_per
    simp only [NN_some, Addr.add_lit', Addr.add_zero, Nat.zero_add, Nat.add_zero]
    refine hs.ld 2 rfl rfl ?_
    simp only [DI_int', DB_bool, DS_string, DP_pointer, DSl_slice, DM_map, DA_agg, DTup_tuple, DCons_cons, DNil_nil, NN_some, BIf_true, BIf_false, BIf_same, List.toList_toArray, Bool.not_true, Bool.not_false]
    try simp only [NN_some, Addr.add_lit', Addr.add_zero, Nat.zero_add, Nat.add_zero]
    refine HCalls.use (Size_s (h.up hle) i hi) ?_
    try simp only [DI_int', DB_bool, DS_string, DP_pointer, DSl_slice, DM_map, DA_agg, DTup_tuple, DCons_cons, DNil_nil, NN_some, BIf_true, BIf_false, BIf_same, List.toList_toArray, Bool.not_true, Bool.not_false]
    have hsz := hok.size
    refine ⟨by decide, by simp, RetE.of ?_⟩
    rw [show Int.tdiv (d.size : Int) 8 = ((d.size / 8 : Nat) : Int) from rfl, i64n (by omega)]
    rfl
  refine QCall.use per ?_
  simp only [DI_int', DB_bool, DS_string, DP_pointer, DSl_slice, DM_map, DA_agg, DTup_tuple, DCons_cons, DNil_nil, NN_some, BIf_true, BIf_false, BIf_same, List.toList_toArray, Bool.not_true, Bool.not_false]
  rw [← Int.natCast_mul, i64n (by omega)]
  by_cases c6 : w > ((sn * D.per d : Nat) : Int)
  · exact BIf_dpos c6 fin
  · exact absurd ⟨by omega, by omega, by omega, by omega, by omega, by rw [Int.natCast_mul] at c6; omega⟩ hx

end Go.Proofs.Ytgkdkemhiglpdaa.Str
