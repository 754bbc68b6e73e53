/- stream: Copy; words that are the same. -/
import Derived.Test.YtgkdkemhiglpdaaStrH
import Derived.Test.YtgkdkemhiglpdaaWabacistref04
set_option maxRecDepth 100000
set_option linter.unusedSimpArgs false
set_option linter.unusedVariables false
set_option linter.unnecessarySimpa false
set_option linter.unusedSectionVars false
namespace Go.Proofs.Ytgkdkemhiglpdaa.Str
open Go Go.Hw Go.Form Go.Proofs.Ytgkdkemhiglpdaa.W Go.Proofs.Ytgkdkemhiglpdaa.Dsk Go.Proofs.Ytgkdkemhiglpdaa.Are

theorem Same_loop (H : Hp) (A B : Option Addr) (n m m' : Nat) (ws : List UInt64) (hn : n = ws.length) (hl : n ≤ 1000000000) (ha : Cells H A (wordVals ws)) (hb : Cells H B (wordVals ws)) :
    ∀ (t i : Nat), i + t = n → W_abacistref04_Same.l4 (RetE (.bool true) H) (t + 1) A n m B n m' (i : Int) H
  | 0, i, h => by
    unfold W_abacistref04_Same.l4
    exact BIf_dneg (by omega) (RetE.mk _ _)
  | t + 1, i, h => by
    unfold W_abacistref04_Same.l4
    refine BIf_dpos (by omega) ?_
    have hg : (wordVals ws)[i]? = some (.int .u64 ((ws[i]'(by omega)).toNat : Int)) := by
      rw [wordVals_get, List.getElem?_eq_getElem (by omega)]; rfl
    refine ha.read hg rfl (by rw [wordVals_length]; omega) ?_
    simp only [DI_int', DB_bool, DS_string, DP_pointer, DSl_slice, DM_map, DA_agg, DTup_tuple, DCons_cons, DNil_nil, NN_some, BIf_true, BIf_false, BIf_same, List.toList_toArray, Bool.not_true, Bool.not_false]
    refine hb.read hg rfl (by rw [wordVals_length]; omega) ?_
    simp only [DI_int', DB_bool, DS_string, DP_pointer, DSl_slice, DM_map, DA_agg, DTup_tuple, DCons_cons, DNil_nil, NN_some, BIf_true, BIf_false, BIf_same, List.toList_toArray, Bool.not_true, Bool.not_false]
    refine BIf_bnen rfl ?_
    rw [i64w (x := (i : Int) + 1) (by omega) (by omega)]
    exact Same_loop H A B n m m' ws hn hl ha hb t (i + 1) (by omega)
theorem Same_ok (A B : Option Addr) (n m m' : Nat) (ws : List UInt64) (hn : n = ws.length) (hl : n ≤ 1000000000) (H : Hp) (ha : Cells H A (wordVals ws)) (hb : Cells H B (wordVals ws)) :
    HCalls Try.prog 26 #[.slice A n m, .slice B n m'] H (RetE (.bool true) H) := by
  apply W_abacistref04_Same.ok
  unfold W_abacistref04_Same
  refine BIf_bnen rfl ⟨n + 1, ?_⟩
  exact Same_loop H A B n m m' ws hn hl ha hb n 0 (by omega)

theorem New_nil (a : Option Addr) (f s w : Int) (H : Hp) : HCalls Try.prog 23 #[.pointer none, .pointer a, .agg #[.int .i64 f, .int .i64 s, .int .i64 w]] H (RetE (.tuple #[.pointer none, .int .i64 1]) H) := by
  apply HCalls.ret
  apply W_stream_New.ok
  unfold W_stream_New
  refine (Sep.start H).nw fun b1 H' hs => ?_
  exact BIf_pos rfl (hs.fin 0 rfl _)

section
variable {p q dp ap : Nat} {d : D} {x y : X} {cap peak : Int} {bufs : List (Nat × Nat × Option Addr)}
theorem each_startC {bp bq bt : Nat} (K : Value → Hp → Prop) (hok : Ok d) (hcap : (D.per d : Int) ≤ cap - sumB bufs) {H : Hp}
    (hs : Sep [pts p (pipO dp ap x), pts q (pipO dp ap y), Dk dp d, Ar ap cap peak bufs, pts bp (.obj (.cells #[.pointer (some ⟨p, 0, none⟩)] 43)), pts bq (.obj (.cells #[.pointer (some ⟨q, 0, none⟩)] 43)), pts bt (.obj (.cells #[.int .i64 ((0 : Nat) : Int)] 3))] H)
    (k : ∀ b rb vb H, (∀ z ∈ bufs, z.1 ≠ b) → Sep (copyL p q dp ap bp bq bt b rb (D.per d) vb d x y cap (mx peak (sumB bufs + D.per d)) bufs (D.per d) (List.replicate (D.per d) 0) 0) H →
      ∃ t, W_stream_Pipe_each.l6 K t (some ⟨p, 0, none⟩) 63 #[] (copyC bp bq bt) (some ⟨b, 0, none⟩) 0 (x.w : Int) (x.f : Int) (some ⟨ap, 0, none⟩) (some ⟨vb, 0, none⟩) 1 1 H) :
    HCalls Try.prog 62 #[.pointer (some ⟨p, 0, none⟩), .func (.func 63) #[] (copyC bp bq bt)] H K := by
  have hp := Ok.per_le hok
  apply W_stream_Pipe_each.ok
  unfold W_stream_Pipe_each
  simp only [NN_some, Addr.add_lit', Addr.add_zero, Nat.zero_add, Nat.add_zero]
  have rest : ∀ (b rb : Nat) (H : Hp), (∀ y ∈ bufs, y.1 ≠ b) → Sep [Ar ap cap (if sumB bufs + D.per d > peak then sumB bufs + D.per d else peak) (bufs ++ [(b, D.per d, some ⟨rb, 0, none⟩)]), pts rb (.row (zerosU64 (D.per d)) 94 (D.per d)), pts p (pipO dp ap x), pts q (pipO dp ap y), Dk dp d, pts bp (.obj (.cells #[.pointer (some ⟨p, 0, none⟩)] 43)), pts bq (.obj (.cells #[.pointer (some ⟨q, 0, none⟩)] 43)), pts bt (.obj (.cells #[.int .i64 ((0 : Nat) : Int)] 3))] H →
      W_stream_Pipe_each.j2 K (some ⟨p, 0, none⟩) 63 #[] (copyC bp bq bt) (some ⟨b, 0, none⟩) 0 H := fun b rb H hbm hs => by
    unfold W_stream_Pipe_each.j2
    refine BIf_bnen rfl ?_
    simp only [NN_some, Addr.add_lit', Addr.add_zero, Nat.zero_add, Nat.add_zero]
    refine hs.ld 2 rfl rfl ?_
    simp only [DI_int', DB_bool, DS_string, DP_pointer, DSl_slice, DM_map, DA_agg, DTup_tuple, DCons_cons, DNil_nil, NN_some, BIf_true, BIf_false, BIf_same, List.toList_toArray, Bool.not_true, Bool.not_false]
    refine hs.nw fun vb H hs => ?_
    refine QCall.use (words_s hs 2 rfl) ?_
    simp only [DI_int', DB_bool, DS_string, DP_pointer, DSl_slice, DM_map, DA_agg, DTup_tuple, DCons_cons, DNil_nil, NN_some, BIf_true, BIf_false, BIf_same, List.toList_toArray, Bool.not_true, Bool.not_false]
    refine hs.ld 2 rfl rfl ?_
    simp only [DI_int', DB_bool, DS_string, DP_pointer, DSl_slice, DM_map, DA_agg, DTup_tuple, DCons_cons, DNil_nil, NN_some, BIf_true, BIf_false, BIf_same, List.toList_toArray, Bool.not_true, Bool.not_false]
    have hz : zerosU64 (D.per d) = wordVals (List.replicate (D.per d) 0) := by
      unfold zerosU64
      rw [zeroRow_one]
      unfold wordVals
      rw [List.map_replicate]; rfl
    rw [hz] at hs
    exact k b rb vb H hbm (hs.re [2, 3, 4, 0, 1, 5, 6, 7, 8] rfl)
  have fresh : ∀ {L : List As} {H : Hp} (b rb : Nat) (pk : Int), Sep L H → L[0]? = some (Ar ap cap pk (bufs ++ [(b, D.per d, some ⟨rb, 0, none⟩)])) → ∀ y ∈ bufs, y.1 ≠ b := fun b rb pk hs h0 y hy e => by
    obtain ⟨mp, cl, tk, hA⟩ := Sep.ar hs 0 h0
    have := hA.bn
    rw [List.map_append, List.nodup_append] at this
    exact this.2.2 y.1 (List.mem_map_of_mem hy) b (by simp) e
  refine ⟨?_, ?_⟩
  · refine hs.ld 0 rfl rfl ?_
    simp only [DI_int', DB_bool, DS_string, DP_pointer, DSl_slice, DM_map, DA_agg, DTup_tuple, DCons_cons, DNil_nil, NN_some, BIf_true, BIf_false, BIf_same, List.toList_toArray, Bool.not_true, Bool.not_false]
    refine HCalls.use (per_s hs 0 2 rfl rfl hok) ?_
    try simp only [DI_int', DB_bool, DS_string, DP_pointer, DSl_slice, DM_map, DA_agg, DTup_tuple, DCons_cons, DNil_nil, NN_some, BIf_true, BIf_false, BIf_same, List.toList_toArray, Bool.not_true, Bool.not_false]
    refine (Take_tr (a := ap) (cap := cap) (peak := peak) (bufs := bufs) (n := D.per d) (by omega) hcap).use hs [3] rfl rfl ?_
    rintro _ _ H ⟨b, rb, rfl, rfl⟩ hs
    simp only [DI_int', DB_bool, DS_string, DP_pointer, DSl_slice, DM_map, DA_agg, DTup_tuple, DCons_cons, DNil_nil, NN_some, BIf_true, BIf_false, BIf_same, List.toList_toArray, Bool.not_true, Bool.not_false]
    exact rest b rb H (fresh b rb _ hs rfl) hs
  · refine HCalls.use (per_s hs 0 2 rfl rfl hok) ?_
    try simp only [DI_int', DB_bool, DS_string, DP_pointer, DSl_slice, DM_map, DA_agg, DTup_tuple, DCons_cons, DNil_nil, NN_some, BIf_true, BIf_false, BIf_same, List.toList_toArray, Bool.not_true, Bool.not_false]
    refine hs.ld 0 rfl rfl ?_
    simp only [DI_int', DB_bool, DS_string, DP_pointer, DSl_slice, DM_map, DA_agg, DTup_tuple, DCons_cons, DNil_nil, NN_some, BIf_true, BIf_false, BIf_same, List.toList_toArray, Bool.not_true, Bool.not_false]
    refine (Take_tr (a := ap) (cap := cap) (peak := peak) (bufs := bufs) (n := D.per d) (by omega) hcap).use hs [3] rfl rfl ?_
    rintro _ _ H ⟨b, rb, rfl, rfl⟩ hs
    simp only [DI_int', DB_bool, DS_string, DP_pointer, DSl_slice, DM_map, DA_agg, DTup_tuple, DCons_cons, DNil_nil, NN_some, BIf_true, BIf_false, BIf_same, List.toList_toArray, Bool.not_true, Bool.not_false]
    exact rest b rb H (fresh b rb _ hs rfl) hs

theorem mx_idem (a b : Int) : mx (mx a b) b = mx a b := by
  unfold mx
  by_cases h : b > a
  · rw [if_pos h, if_neg (by omega)]
  · rw [if_neg h, if_neg h]

/-- Words are copied. -/
theorem Copy_tr (hok : Ok d) (hc : Calm d) (hx : On d x) (hy : On d y) (hw : y.w = x.w) (hdis : x.f + x.s ≤ y.f ∨ y.f + y.s ≤ x.f) (hr0 : d.rd ≤ 4000000000000000000 ∧ d.wr ≤ 4000000000000000000) (hcap : (D.per d : Int) + D.per d ≤ cap - sumB bufs) :
    Tr Try.prog 24 #[.pointer (some ⟨p, 0, none⟩), .pointer (some ⟨q, 0, none⟩)] [pts p (pipO dp ap x), pts q (pipO dp ap y), Dk dp d, Ar ap cap peak bufs] fun v M =>
      ∃ i d', i ≤ x.s ∧ CopyI d d' x y i x.w ∧ v = .int .i64 0 ∧ M = [pts p (pipO dp ap x), pts q (pipO dp ap y), Dk dp d', Ar ap cap (mx (mx peak (sumB bufs + D.per d)) (sumB bufs + D.per d + D.per d)) bufs] := fun H hs => by
  have hp := Ok.per_le hok
  apply W_stream_Copy.ok
  unfold W_stream_Copy
  refine hs.nw fun bp H hs => ?_
  refine hs.nw fun bq H hs => ?_
  refine hs.ld 4 rfl rfl ?_
  simp only [DI_int', DB_bool, DS_string, DP_pointer, DSl_slice, DM_map, DA_agg, DTup_tuple, DCons_cons, DNil_nil, NN_some, BIf_true, BIf_false, BIf_same, List.toList_toArray, Bool.not_true, Bool.not_false]
  refine QCall.use (words_s hs 0 rfl) ?_
  simp only [DI_int', DB_bool, DS_string, DP_pointer, DSl_slice, DM_map, DA_agg, DTup_tuple, DCons_cons, DNil_nil, NN_some, BIf_true, BIf_false, BIf_same, List.toList_toArray, Bool.not_true, Bool.not_false]
  refine hs.ld 5 rfl rfl ?_
  simp only [DI_int', DB_bool, DS_string, DP_pointer, DSl_slice, DM_map, DA_agg, DTup_tuple, DCons_cons, DNil_nil, NN_some, BIf_true, BIf_false, BIf_same, List.toList_toArray, Bool.not_true, Bool.not_false]
  refine QCall.use (words_s hs 1 rfl) ?_
  simp only [DI_int', DB_bool, DS_string, DP_pointer, DSl_slice, DM_map, DA_agg, DTup_tuple, DCons_cons, DNil_nil, NN_some, BIf_true, BIf_false, BIf_same, List.toList_toArray, Bool.not_true, Bool.not_false]
  refine BIf_bnen (by rw [hw]) ?_
  refine hs.nw fun bt H hs => ?_
  try simp only [NN_some, Addr.add_lit', Addr.add_zero, Nat.zero_add, Nat.add_zero]
  refine hs.st 6 rfl (Nat.lt_of_sub_eq_succ rfl) rfl fun H hs => ?_
  refine hs.ld 4 rfl rfl ?_
  simp only [DI_int', DB_bool, DS_string, DP_pointer, DSl_slice, DM_map, DA_agg, DTup_tuple, DCons_cons, DNil_nil, NN_some, BIf_true, BIf_false, BIf_same, List.toList_toArray, Bool.not_true, Bool.not_false]
  refine each_startC (peak := peak) (bufs := bufs) (cap := cap) _ hok (by omega) hs fun b rb vb H hbm hs => ?_
  have hsum : sumB (bufs ++ [(b, D.per d, some ⟨rb, 0, none⟩)]) = sumB bufs + D.per d := by
    rw [sumB_append, sumB_cons, sumB_nil]; simp
  have e0 : (if 0 * D.per d < x.w then 0 * D.per d else x.w) = 0 := by rw [Nat.zero_mul, if_pos (show 0 < x.w from hx.w1)]
  have e9 : (x.w : Int) - ((0 * D.per d : Nat) : Int) = x.w := by rw [Nat.zero_mul]; omega
  refine ⟨x.w + 1, ?_⟩
  have t := each_copy (p := p) (q := q) (dp := dp) (ap := ap) (bp := bp) (bq := bq) (bt := bt) (b := b) (rb := rb) (mb := D.per d) (vb := vb) (d := d) (x := x) (y := y) (cap := cap) (P1 := mx (mx peak (sumB bufs + D.per d)) (sumB bufs + D.per d + D.per d)) (bufs := bufs)
    (fun v6 H5 => DI .i64 v6 fun x3 => ∃ M, (∃ i d', i ≤ x.s ∧ CopyI d d' x y i x.w ∧ (.int .i64 x3 : Value) = .int .i64 0 ∧ M = [pts p (pipO dp ap x), pts q (pipO dp ap y), Dk dp d', Ar ap cap (mx (mx peak (sumB bufs + D.per d)) (sumB bufs + D.per d + D.per d)) bufs]) ∧ Sep M H5)
    hok hbm hx hy hw hdis hr0 (by rw [hsum]; omega) (by rw [hsum]; exact mx_idem _ _) (fun i d' H hie hI hs => ⟨_, ⟨i, d', hie, hI, rfl, rfl⟩, hs⟩) x.w 0 d (mx peak (sumB bufs + D.per d)) (List.replicate (D.per d) 0) H
  rw [e0, e9] at t
  refine t ⟨hok, hc, rfl, rfl, Nat.le_add_right _ _, Nat.le_add_right _ _, fun _ _ => rfl, fun j hj => by omega⟩ ?_ (by rw [hsum]) (.inl rfl) (Nat.zero_le _) (by simp) hs
  rw [Nat.zero_add]
  exact Nat.le_mul_of_pos_right _ (by omega)

theorem Copy_full (hok : Ok d) (hc : Calm d) (hx : On d x) (hy : On d y) (hw : y.w = x.w) (hr0 : d.rd ≤ 4000000000000000000 ∧ d.wr ≤ 4000000000000000000) (hcap : (D.per d : Int) ≤ cap - sumB bufs) (hcap2 : cap - sumB bufs < (D.per d : Int) + D.per d) :
    Tr Try.prog 24 #[.pointer (some ⟨p, 0, none⟩), .pointer (some ⟨q, 0, none⟩)] [pts p (pipO dp ap x), pts q (pipO dp ap y), Dk dp d, Ar ap cap peak bufs] fun v M =>
      v = .int .i64 6 ∧ M = [pts p (pipO dp ap x), pts q (pipO dp ap y), Dk dp (D.more d), Ar ap cap (mx peak (sumB bufs + D.per d)) bufs] := fun H hs => by
  have hp := Ok.per_le hok
  apply W_stream_Copy.ok
  unfold W_stream_Copy
  refine hs.nw fun bp H hs => ?_
  refine hs.nw fun bq H hs => ?_
  refine hs.ld 4 rfl rfl ?_
  simp only [DI_int', DB_bool, DS_string, DP_pointer, DSl_slice, DM_map, DA_agg, DTup_tuple, DCons_cons, DNil_nil, NN_some, BIf_true, BIf_false, BIf_same, List.toList_toArray, Bool.not_true, Bool.not_false]
  refine QCall.use (words_s hs 0 rfl) ?_
  simp only [DI_int', DB_bool, DS_string, DP_pointer, DSl_slice, DM_map, DA_agg, DTup_tuple, DCons_cons, DNil_nil, NN_some, BIf_true, BIf_false, BIf_same, List.toList_toArray, Bool.not_true, Bool.not_false]
  refine hs.ld 5 rfl rfl ?_
  simp only [DI_int', DB_bool, DS_string, DP_pointer, DSl_slice, DM_map, DA_agg, DTup_tuple, DCons_cons, DNil_nil, NN_some, BIf_true, BIf_false, BIf_same, List.toList_toArray, Bool.not_true, Bool.not_false]
  refine QCall.use (words_s hs 1 rfl) ?_
  simp only [DI_int', DB_bool, DS_string, DP_pointer, DSl_slice, DM_map, DA_agg, DTup_tuple, DCons_cons, DNil_nil, NN_some, BIf_true, BIf_false, BIf_same, List.toList_toArray, Bool.not_true, Bool.not_false]
  refine BIf_bnen (by rw [hw]) ?_
  refine hs.nw fun bt H hs => ?_
  try simp only [NN_some, Addr.add_lit', Addr.add_zero, Nat.zero_add, Nat.add_zero]
  refine hs.st 6 rfl (Nat.lt_of_sub_eq_succ rfl) rfl fun H hs => ?_
  refine hs.ld 4 rfl rfl ?_
  simp only [DI_int', DB_bool, DS_string, DP_pointer, DSl_slice, DM_map, DA_agg, DTup_tuple, DCons_cons, DNil_nil, NN_some, BIf_true, BIf_false, BIf_same, List.toList_toArray, Bool.not_true, Bool.not_false]
  refine each_startC (peak := peak) (bufs := bufs) (cap := cap) _ hok (by omega) hs fun b rb vb H hbm hs => ?_
  have hsum : sumB (bufs ++ [(b, D.per d, some ⟨rb, 0, none⟩)]) = sumB bufs + D.per d := by
    rw [sumB_append, sumB_cons, sumB_nil]; simp
  refine ⟨0 + 1 + 1, ?_⟩
  have hc2 : cap - sumB (bufs ++ [(b, D.per d, some ⟨rb, 0, none⟩)]) < (D.per d : Int) := by rw [hsum]; omega
  have hl : (List.replicate (D.per d) (0 : UInt64)).length = D.per d := by simp
  refine each_full (p := p) (q := q) (dp := dp) (ap := ap) (bp := bp) (bq := bq) (bt := bt) (b := b) (rb := rb) (mb := D.per d) (vb := vb) (d := d) (x := x) (y := y) (cap := cap) (bufs := bufs)
    (fun v6 H5 => DI .i64 v6 fun x3 => ∃ M, ((.int .i64 x3 : Value) = .int .i64 6 ∧ M = [pts p (pipO dp ap x), pts q (pipO dp ap y), Dk dp (D.more d), Ar ap cap (mx peak (sumB bufs + D.per d)) bufs]) ∧ Sep M H5)
    hok hc hbm hx hy hw hr0 hc2 (fun H hs => ⟨_, ⟨rfl, rfl⟩, hs⟩) hl 0 0 rfl hs

theorem Copy_odd (hw : x.w ≠ y.w) {L : List As} {H : Hp} (hs : Sep L H) (i j : Nat) (hi : L[i]? = some (pts p (pipO dp ap x))) (hj : L[j]? = some (pts q (pipO dp ap y))) :
    HCalls Try.prog 24 #[.pointer (some ⟨p, 0, none⟩), .pointer (some ⟨q, 0, none⟩)] H (RetE (.int .i64 19) H) := by
  apply HCalls.ret
  apply W_stream_Copy.ok
  unfold W_stream_Copy
  have h0 := hs
  refine (Sep.start H).nw fun bp H' hs => ?_
  refine hs.nw fun bq H' hs => ?_
  have hle := hs.ow 0 rfl
  refine hs.ld 1 rfl rfl ?_
  simp only [DI_int', DB_bool, DS_string, DP_pointer, DSl_slice, DM_map, DA_agg, DTup_tuple, DCons_cons, DNil_nil, NN_some, BIf_true, BIf_false, BIf_same, List.toList_toArray, Bool.not_true, Bool.not_false]
  refine QCall.use (words_s (h0.up hle) i hi) ?_
  simp only [DI_int', DB_bool, DS_string, DP_pointer, DSl_slice, DM_map, DA_agg, DTup_tuple, DCons_cons, DNil_nil, NN_some, BIf_true, BIf_false, BIf_same, List.toList_toArray, Bool.not_true, Bool.not_false]
  refine hs.ld 2 rfl rfl ?_
  simp only [DI_int', DB_bool, DS_string, DP_pointer, DSl_slice, DM_map, DA_agg, DTup_tuple, DCons_cons, DNil_nil, NN_some, BIf_true, BIf_false, BIf_same, List.toList_toArray, Bool.not_true, Bool.not_false]
  refine QCall.use (words_s (h0.up hle) j hj) ?_
  simp only [DI_int', DB_bool, DS_string, DP_pointer, DSl_slice, DM_map, DA_agg, DTup_tuple, DCons_cons, DNil_nil, NN_some, BIf_true, BIf_false, BIf_same, List.toList_toArray, Bool.not_true, Bool.not_false]
  exact BIf_bnep (by omega) (hs.fin 0 rfl _)
end

end Go.Proofs.Ytgkdkemhiglpdaa.Str
