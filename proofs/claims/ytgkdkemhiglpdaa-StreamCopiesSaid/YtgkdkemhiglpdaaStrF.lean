/- The law StreamCosts. -/
import Derived.Test.YtgkdkemhiglpdaaStrE
import Derived.Test.YtgkdkemhiglpdaaWabacistlaw19
set_option maxRecDepth 100000
set_option linter.unusedSimpArgs false
set_option linter.unusedVariables false
set_option linter.unnecessarySimpa false
set_option linter.unusedSectionVars false
namespace Go.Proofs.Ytgkdkemhiglpdaa.Str
open Go Go.Hw Go.Form Go.Proofs.Ytgkdkemhiglpdaa.W Go.Proofs.Ytgkdkemhiglpdaa.Dsk Go.Proofs.Ytgkdkemhiglpdaa.Are

theorem p_ops : plain64 Try.prog 51 3 := ⟨by kernel_rfl, by kernel_rfl, by kernel_rfl, by kernel_rfl⟩

theorem fresh_ok {sec : Nat} (h1 : 1 ≤ sec ∧ sec ≤ 1000) : Ok (D.fresh sec 32) := Ok.fresh ⟨h1.1, by omega⟩ (by decide) (by omega)
theorem fresh_calm (sec : Nat) : Calm (D.fresh sec 32) := ⟨rfl, rfl⟩
theorem fresh_per (sec : Nat) : D.per (D.fresh sec 32) = 4 := by show 32 / 8 = 4; decide
theorem fresh_on {sec f w : Nat} (h1 : 1 ≤ w) (h2 : f + (w + 3) / 4 ≤ sec) : On (D.fresh sec 32) ⟨f, (w + 3) / 4, w⟩ := ⟨h1, by show 1 ≤ (w + 3) / 4; omega, h2, by rw [fresh_per]; show w ≤ (w + 3) / 4 * 4; omega⟩

theorem awake_ok (H : Hp) : HCalls Try.prog 16 #[] H (RetE (.bool true) H) := by
  apply HCalls.ret
  apply W_abacistlaw19_awake.ok
  unfold W_abacistlaw19_awake
  have hx : On (D.fresh 4 32) ⟨1, 2, 7⟩ := ⟨by decide, by decide, by decide, by decide⟩
  refine (Are.New_tr 20 (by omega)).use (Sep.start H) [] rfl rfl ?_
  rintro _ _ H1 ⟨ap, rfl, rfl⟩ hs
  simp only [DI_int', DB_bool, DS_string, DP_pointer, DSl_slice, DM_map, DA_agg, DTup_tuple, DCons_cons, DNil_nil, NN_some, BIf_true, BIf_false, BIf_same, List.toList_toArray, Bool.not_true, Bool.not_false]
  refine (Dsk.New_tr 4 32 (by omega) (by decide) (by omega)).use hs [] rfl rfl ?_
  rintro _ _ H1 ⟨dp, rfl, rfl⟩ hs
  simp only [DI_int', DB_bool, DS_string, DP_pointer, DSl_slice, DM_map, DA_agg, DTup_tuple, DCons_cons, DNil_nil, NN_some, BIf_true, BIf_false, BIf_same, List.toList_toArray, Bool.not_true, Bool.not_false]
  refine (New_tr (dp := dp) (ap := ap) (fresh_ok (by omega)) ⟨1, 2, 7⟩ hx).use hs [0] rfl rfl ?_
  rintro _ _ H1 ⟨p, rfl, rfl⟩ hs
  simp only [DI_int', DB_bool, DS_string, DP_pointer, DSl_slice, DM_map, DA_agg, DTup_tuple, DCons_cons, DNil_nil, NN_some, BIf_true, BIf_false, BIf_same, List.toList_toArray, Bool.not_true, Bool.not_false]
  refine BIf_neg rfl (BIf_bnen rfl ?_)
  refine hs.nw fun b1 H1 hs => ?_
  refine (Write_tr (p := p) (dp := dp) (ap := ap) (d := D.fresh 4 32) (x := ⟨1, 2, 7⟩) (cap := 20) (peak := 0) (bufs := []) (R := pts b1 (.row [.int .u64 7] 94 1)) (A := some ⟨b1, 0, none⟩) (n := 1) (m := 1) (src := [7]) (fresh_ok (by omega)) (fresh_calm 4) hx ⟨by decide, by decide⟩ 3 rfl (Nat.le_refl _) (by decide) (Nat.le_refl _) (by decide) (fun H h => Cells.row h 0 1)).use hs [1, 0, 2, 4] rfl rfl ?_
  rintro _ _ H1 ⟨rfl, rfl⟩ hs
  simp only [DI_int', DB_bool, DS_string, DP_pointer, DSl_slice, DM_map, DA_agg, DTup_tuple, DCons_cons, DNil_nil, NN_some, BIf_true, BIf_false, BIf_same, List.toList_toArray, Bool.not_true, Bool.not_false]
  refine BIf_bnen rfl ?_
  have W := wrs_wrote ⟨1, 2, 7⟩ 1 3 (D.fresh 4 32) [7] (fresh_ok (by omega)) (Nat.le_refl _)
  have hx2 : On (wrs (D.fresh 4 32) ⟨1, 2, 7⟩ 1 3 [7]) ⟨1, 2, 7⟩ := ⟨hx.w1, hx.s1, by rw [W.sec]; exact hx.fit, by unfold D.per; rw [W.size]; exact hx.room⟩
  have hper : D.per (wrs (D.fresh 4 32) ⟨1, 2, 7⟩ 1 3 [7]) = 4 := by unfold D.per; rw [W.size]; rfl
  have hrd := W.rd
  have hcl := List.length_filter_le (fun p : Nat × Nat × Nat => decide (p.2.2 < D.per (D.fresh 4 32))) (pcs (D.per (D.fresh 4 32)) 1 1 3 1)
  have hpl := pcs_len (D.per (D.fresh 4 32)) 1 1 3 1
  have hrd2 : (wrs (D.fresh 4 32) ⟨1, 2, 7⟩ 1 3 [7]).rd ≤ 1 := by
    rw [hrd]; exact Nat.le_trans (Nat.add_le_add_left hcl _) (by show 0 + _ ≤ _; omega)
  have hpw := W.pw 3
  rw [if_pos ⟨by omega, by simp⟩] at hpw
  generalize wrs (D.fresh 4 32) ⟨1, 2, 7⟩ 1 3 [7] = d2 at *
  refine (Get_tr (p := p) (dp := dp) (ap := ap) (d := d2) (x := ⟨1, 2, 7⟩) (cap := 20) (bufs := []) W.ok (W.calm (fresh_calm 4)) hx2 (by omega) 3 (by decide) (by rw [hper]; decide)).use hs [0, 1, 2] rfl rfl ?_
  rintro _ _ H1 ⟨rfl, rfl⟩ hs
  rw [hpw]
  simp only [DI_int', DB_bool, DS_string, DP_pointer, DSl_slice, DM_map, DA_agg, DTup_tuple, DCons_cons, DNil_nil, NN_some, BIf_true, BIf_false, BIf_same, List.toList_toArray, Bool.not_true, Bool.not_false]
  refine BIf_beqp rfl (BIf_beqp rfl ?_)
  refine HCalls.use (words_s hs 0 rfl) ?_
  try simp only [DI_int', DB_bool, DS_string, DP_pointer, DSl_slice, DM_map, DA_agg, DTup_tuple, DCons_cons, DNil_nil, NN_some, BIf_true, BIf_false, BIf_same, List.toList_toArray, Bool.not_true, Bool.not_false]
  exact hs.fin 4 rfl _

theorem pipe_tr (n : Nat) (h : 1 ≤ n ∧ n ≤ 40) : Tr Try.prog 17 #[.int .i64 n] [] fun v M =>
    ∃ p dp ap, v = .tuple #[.pointer (some ⟨p, 0, none⟩), .pointer (some ⟨dp, 0, none⟩), .pointer (some ⟨ap, 0, none⟩)] ∧ M = [pts p (pipO dp ap ⟨2, (n + 3) / 4, n⟩), Dk dp (D.fresh 20 32), Ar ap 4 0 []] := fun H hs => by
  have hx : On (D.fresh 20 32) ⟨2, (n + 3) / 4, n⟩ := fresh_on h.1 (by omega)
  apply W_abacistlaw19_pipe.ok
  unfold W_abacistlaw19_pipe
  refine (Dsk.New_tr 20 32 (by omega) (by decide) (by omega)).use hs [] rfl rfl ?_
  rintro _ _ H1 ⟨dp, rfl, rfl⟩ hs
  simp only [DI_int', DB_bool, DS_string, DP_pointer, DSl_slice, DM_map, DA_agg, DTup_tuple, DCons_cons, DNil_nil, NN_some, BIf_true, BIf_false, BIf_same, List.toList_toArray, Bool.not_true, Bool.not_false]
  refine (Are.New_tr 4 (by omega)).use hs [] rfl rfl ?_
  rintro _ _ H1 ⟨ap, rfl, rfl⟩ hs
  simp only [DI_int', DB_bool, DS_string, DP_pointer, DSl_slice, DM_map, DA_agg, DTup_tuple, DCons_cons, DNil_nil, NN_some, BIf_true, BIf_false, BIf_same, List.toList_toArray, Bool.not_true, Bool.not_false]
  refine ⟨by decide, by simp, ?_⟩
  have e : IntKind.i64.wrap (Int.tdiv (IntKind.i64.wrap ((n : Int) + 3)) 4) = (((n + 3) / 4 : Nat) : Int) := by
    rw [i64w (x := (n : Int) + 3) (by omega) (by omega), show (n : Int) + 3 = ((n + 3 : Nat) : Int) by omega, show Int.tdiv ((n + 3 : Nat) : Int) 4 = (((n + 3) / 4 : Nat) : Int) from rfl, i64n (by omega)]
  rw [e]
  refine (New_tr (dp := dp) (ap := ap) (fresh_ok (by omega)) ⟨2, (n + 3) / 4, n⟩ hx).use hs [1] rfl rfl ?_
  rintro _ _ H1 ⟨p, rfl, rfl⟩ hs
  simp only [DI_int', DB_bool, DS_string, DP_pointer, DSl_slice, DM_map, DA_agg, DTup_tuple, DCons_cons, DNil_nil, NN_some, BIf_true, BIf_false, BIf_same, List.toList_toArray, Bool.not_true, Bool.not_false]
  refine BIf_bnen rfl ?_
  exact ⟨_, ⟨p, dp, ap, rfl, rfl⟩, hs.re [1, 0, 2] rfl⟩

/-- How many sectors are written in part. -/
def part1 (a k : Nat) : Nat := if a % 4 ≠ 0 ∨ (a / 4 = (a + k - 1) / 4 ∧ k < 4) then 1 else 0
def partN (a k : Nat) : Nat := part1 a k + (if (a + k - 1) / 4 > a / 4 ∧ (a + k) % 4 ≠ 0 then 1 else 0)
set_option maxRecDepth 100000 in
theorem costs4 : ∀ a < 40, ∀ k < 41, 1 ≤ k → a + k ≤ 40 → (pcs 4 2 k a k).length = (a + k - 1) / 4 - a / 4 + 1 ∧ ((pcs 4 2 k a k).filter (fun p => decide (p.2.2 < 4))).length = partN a k := by
  decide +kernel

theorem StreamCosts_ok (w a n : Nat) (hw : w ≤ 255) (ha : a ≤ 255) (hn : n ≤ 255) (H : Hp) : HCalls Try.prog 4 #[.int .u8 w, .int .u8 a, .int .u8 n] H (Ret (.bool true) H) := by
  apply W_abacistlaw19_StreamCosts.ok
  unfold W_abacistlaw19_StreamCosts
  have e1 : IntKind.i64.wrap ((1 : Int) + Int.tmod (IntKind.i64.wrap (w : Int)) 40) = ((1 + w % 40 : Nat) : Int) := by
    rw [i64n (n := w) (by omega), show Int.tmod (w : Int) 40 = ((w % 40 : Nat) : Int) from rfl, i64w (by omega) (by omega)]; omega
  have hsz : 1 ≤ 1 + w % 40 ∧ 1 + w % 40 ≤ 40 := by omega
  simp only [e1]
  generalize 1 + w % 40 = sz at *
  have e2 : Int.tmod (IntKind.i64.wrap (a : Int)) (sz : Int) = ((a % sz : Nat) : Int) := by
    rw [i64n (n := a) (by omega)]; rfl
  have hat := Nat.mod_lt a (show 0 < sz by omega)
  simp only [e2]
  generalize a % sz = at' at *
  have e3 : IntKind.i64.wrap ((sz : Int) - (at' : Int)) = ((sz - at' : Nat) : Int) := by rw [i64w (by omega) (by omega)]; omega
  simp only [e3]
  have e4 : IntKind.i64.wrap ((1 : Int) + Int.tmod (IntKind.i64.wrap (n : Int)) ((sz - at' : Nat) : Int)) = ((1 + n % (sz - at') : Nat) : Int) := by
    rw [i64n (n := n) (by omega), show Int.tmod (n : Int) ((sz - at' : Nat) : Int) = ((n % (sz - at') : Nat) : Int) from rfl]
    have := Nat.mod_lt n (show 0 < sz - at' by omega)
    rw [i64w (by omega) (by omega)]; omega
  have hk : 1 ≤ 1 + n % (sz - at') ∧ at' + (1 + n % (sz - at')) ≤ sz := by
    have := Nat.mod_lt n (show 0 < sz - at' by omega)
    omega
  simp only [e4]
  have hd3 : ((sz - at' : Nat) : Int) ≠ 0 := by omega
  generalize 1 + n % (sz - at') = k at *
  have e5 : IntKind.i64.wrap (Int.tdiv (at' : Int) 4) = ((at' / 4 : Nat) : Int) := by
    rw [show Int.tdiv (at' : Int) 4 = ((at' / 4 : Nat) : Int) from rfl, i64n (by omega)]
  have e6 : IntKind.i64.wrap (Int.tdiv (IntKind.i64.wrap (IntKind.i64.wrap ((at' : Int) + (k : Int)) - 1)) 4) = (((at' + k - 1) / 4 : Nat) : Int) := by
    rw [i64w (x := (at' : Int) + k) (by omega) (by omega), i64w (x := (at' : Int) + k - 1) (by omega) (by omega), show (at' : Int) + k - 1 = ((at' + k - 1 : Nat) : Int) by omega, show Int.tdiv ((at' + k - 1 : Nat) : Int) 4 = (((at' + k - 1) / 4 : Nat) : Int) from rfl, i64n (by omega)]
  have e7 : Int.tmod (at' : Int) 4 = ((at' % 4 : Nat) : Int) := rfl
  simp only [e5, e6, e7]
  obtain ⟨c1, c2⟩ := costs4 at' (by omega) k (by omega) (by omega) (by omega)
  have hx : On (D.fresh 20 32) ⟨2, (sz + 3) / 4, sz⟩ := fresh_on (by omega) (by omega)
  have W := wrs_wrote ⟨2, (sz + 3) / 4, sz⟩ k at' (D.fresh 20 32) (List.replicate k 0) (fresh_ok (by omega)) (by simp)
  rw [fresh_per, List.length_replicate] at W
  have hwr : (wrs (D.fresh 20 32) ⟨2, (sz + 3) / 4, sz⟩ k at' (List.replicate k 0)).wr = (at' + k - 1) / 4 - at' / 4 + 1 := by rw [W.wr, c1]; show 0 + _ = _; omega
  have hrd : (wrs (D.fresh 20 32) ⟨2, (sz + 3) / 4, sz⟩ k at' (List.replicate k 0)).rd = partN at' k := by rw [W.rd, fresh_per, c2]; show 0 + _ = _; omega
  have hsy : (wrs (D.fresh 20 32) ⟨2, (sz + 3) / 4, sz⟩ k at' (List.replicate k 0)).sy = 0 := W.sy
  have hx2 : On (wrs (D.fresh 20 32) ⟨2, (sz + 3) / 4, sz⟩ k at' (List.replicate k 0)) ⟨2, (sz + 3) / 4, sz⟩ := ⟨hx.w1, hx.s1, by rw [W.sec]; exact hx.fit, by unfold D.per; rw [W.size]; exact hx.room⟩
  have hper : D.per (wrs (D.fresh 20 32) ⟨2, (sz + 3) / 4, sz⟩ k at' (List.replicate k 0)) = 4 := by unfold D.per; rw [W.size]; rfl
  have hok2 := W.ok
  have hcalm2 := W.calm (fresh_calm 20)
  have hpart : partN at' k ≤ 2 := by unfold partN part1; split <;> split <;> omega
  -- behind the write
  have tail : ∀ (p dp ap b : Nat) (m : Nat) (d2 : D) (H1 : Hp), Ok d2 → Calm d2 → On d2 ⟨2, (sz + 3) / 4, sz⟩ → D.per d2 = 4 → d2.wr = (at' + k - 1) / 4 - at' / 4 + 1 → d2.rd = partN at' k → d2.sy = 0 →
      Sep [own H, pts p (pipO dp ap ⟨2, (sz + 3) / 4, sz⟩), Dk dp d2, Ar ap 4 (mx 0 (sumB [] + 4)) [], pts b (.row (wordVals (List.replicate k 0)) 94 m)] H1 →
      W_abacistlaw19_StreamCosts.j18 (Ret (.bool true) H) (some ⟨p, 0, none⟩) (some ⟨dp, 0, none⟩) (at' : Int) ((at' / 4 : Nat) : Int) (((at' + k - 1) / 4 : Nat) : Int) (some ⟨b, 0, none⟩) k k ((partN at' k : Nat) : Int) H1 := fun p dp ap b m d2 H1 hok2 hcalm2 hx2 hper hwr hrd hsy hs => by
    unfold W_abacistlaw19_StreamCosts.j18
    simp only [NN_some, Addr.add_lit', Addr.add_zero, Nat.zero_add, Nat.add_zero]
    refine HCalls.use (Count_s hs 2 rfl) ?_
    simp only [DI_int', DB_bool, DS_string, DP_pointer, DSl_slice, DM_map, DA_agg, DTup_tuple, DCons_cons, DNil_nil, NN_some, BIf_true, BIf_false, BIf_same, List.toList_toArray, Bool.not_true, Bool.not_false]
    rw [hwr, hrd, hsy]
    refine hs.nw fun b1 H1 hs => ?_
    refine hs.stw 5 rfl rfl rfl rfl fun H1 hs => ?_
    refine hs.ld 5 rfl rfl ?_
    simp only [DI_int', DB_bool, DS_string, DP_pointer, DSl_slice, DM_map, DA_agg, DTup_tuple, DCons_cons, DNil_nil, NN_some, BIf_true, BIf_false, BIf_same, List.toList_toArray, Bool.not_true, Bool.not_false]
    have e8 : IntKind.i64.wrap (IntKind.i64.wrap ((((at' + k - 1) / 4 : Nat) : Int) - ((at' / 4 : Nat) : Int)) + 1) = (((at' + k - 1) / 4 - at' / 4 + 1 : Nat) : Int) := by
      rw [i64w (x := (((at' + k - 1) / 4 : Nat) : Int) - ((at' / 4 : Nat) : Int)) (by omega) (by omega), i64w (by omega) (by omega)]; omega
    rw [e8]
    refine BIf_bnen rfl (hs.ld 5 rfl rfl ?_)
    simp only [DI_int', DB_bool, DS_string, DP_pointer, DSl_slice, DM_map, DA_agg, DTup_tuple, DCons_cons, DNil_nil, NN_some, BIf_true, BIf_false, BIf_same, List.toList_toArray, Bool.not_true, Bool.not_false]
    refine BIf_bnen rfl (hs.ld 5 rfl rfl ?_)
    simp only [DI_int', DB_bool, DS_string, DP_pointer, DSl_slice, DM_map, DA_agg, DTup_tuple, DCons_cons, DNil_nil, NN_some, BIf_true, BIf_false, BIf_same, List.toList_toArray, Bool.not_true, Bool.not_false]
    refine BIf_bnen rfl ?_
    refine (Read_tr (p := p) (dp := dp) (ap := ap) (d := d2) (x := ⟨2, (sz + 3) / 4, sz⟩) (cap := 4) (bufs := []) (rl := b) (off := 0) (mm := m) hok2 hcalm2 hx2 (by omega) at' k k (by omega) (by show _ ≤ sz; omega) (Nat.le_refl _) (by rw [wordVals_length, List.length_replicate]; omega) (by rw [hper]; decide)).use hs [1, 2, 3, 4] rfl rfl ?_
    rintro _ _ H1 ⟨rfl, rfl⟩ hs
    simp only [DI_int', DB_bool, DS_string, DP_pointer, DSl_slice, DM_map, DA_agg, DTup_tuple, DCons_cons, DNil_nil, NN_some, BIf_true, BIf_false, BIf_same, List.toList_toArray, Bool.not_true, Bool.not_false]
    refine BIf_bnen rfl ?_
    try simp only [NN_some, Addr.add_lit', Addr.add_zero, Nat.zero_add, Nat.add_zero]
    refine HCalls.use (Count_s hs 1 rfl) ?_
    simp only [DI_int', DB_bool, DS_string, DP_pointer, DSl_slice, DM_map, DA_agg, DTup_tuple, DCons_cons, DNil_nil, NN_some, BIf_true, BIf_false, BIf_same, List.toList_toArray, Bool.not_true, Bool.not_false]
    have e9 : (D.rdN d2 (pcs (D.per d2) 2 k at' k).length).rd = partN at' k + ((at' + k - 1) / 4 - at' / 4 + 1) := by rw [hper, c1]; show d2.rd + _ = _; rw [hrd]
    have e10 : (D.rdN d2 (pcs (D.per d2) 2 k at' k).length).wr = (at' + k - 1) / 4 - at' / 4 + 1 := hwr
    have e11 : (D.rdN d2 (pcs (D.per d2) 2 k at' k).length).sy = 0 := hsy
    rw [e9, e10, e11]
    have e12 : IntKind.i64.wrap (IntKind.i64.wrap (IntKind.i64.wrap (((partN at' k : Nat) : Int) + (((at' + k - 1) / 4 : Nat) : Int)) - ((at' / 4 : Nat) : Int)) + 1) = ((partN at' k + ((at' + k - 1) / 4 - at' / 4 + 1) : Nat) : Int) := by
      rw [i64w (x := ((partN at' k : Nat) : Int) + (((at' + k - 1) / 4 : Nat) : Int)) (by omega) (by omega), i64w (x := ((partN at' k : Nat) : Int) + (((at' + k - 1) / 4 : Nat) : Int) - ((at' / 4 : Nat) : Int)) (by omega) (by omega), i64w (by omega) (by omega)]; omega
    rw [e12]
    have rr : ∀ y ∈ [((partN at' k + ((at' + k - 1) / 4 - at' / 4 + 1) : Nat) : Int), (((at' + k - 1) / 4 - at' / 4 + 1 : Nat) : Int), 0], -9223372036854775808 ≤ y ∧ y ≤ 9223372036854775807 := by
      intro y hy
      simp only [List.mem_cons, List.not_mem_nil, or_false] at hy
      rcases hy with rfl | rfl | rfl <;> omega
    refine EqI_eql p_ops (a := [((partN at' k + ((at' + k - 1) / 4 - at' / 4 + 1) : Nat) : Int), (((at' + k - 1) / 4 - at' / 4 + 1 : Nat) : Int), 0]) (b := [((partN at' k + ((at' + k - 1) / 4 - at' / 4 + 1) : Nat) : Int), (((at' + k - 1) / 4 - at' / 4 + 1 : Nat) : Int), 0]) rfl rfl rr rr rfl rfl ?_
    rw [decide_eq_true rfl]
    exact hs.fin 4 rfl _
  -- the last word of a sector
  have mid : ∀ (p dp ap b : Nat) (m : Nat) (d2 : D) (H1 : Hp), Ok d2 → Calm d2 → On d2 ⟨2, (sz + 3) / 4, sz⟩ → D.per d2 = 4 → d2.wr = (at' + k - 1) / 4 - at' / 4 + 1 → d2.rd = partN at' k → d2.sy = 0 →
      Sep [own H, pts p (pipO dp ap ⟨2, (sz + 3) / 4, sz⟩), Dk dp d2, Ar ap 4 (mx 0 (sumB [] + 4)) [], pts b (.row (wordVals (List.replicate k 0)) 94 m)] H1 →
      W_abacistlaw19_StreamCosts.j16 (Ret (.bool true) H) (some ⟨p, 0, none⟩) (some ⟨dp, 0, none⟩) (at' : Int) (k : Int) ((at' / 4 : Nat) : Int) (((at' + k - 1) / 4 : Nat) : Int) (some ⟨b, 0, none⟩) k k ((part1 at' k : Nat) : Int) H1 := fun p dp ap b m d2 H1 q1 q2 q3 q4 q5 q6 q7 hs => by
    have t := tail p dp ap b m d2 H1 q1 q2 q3 q4 q5 q6 q7 hs
    have hp1 : part1 at' k ≤ 1 := by unfold part1; split <;> omega
    unfold W_abacistlaw19_StreamCosts.j16
    rw [i64w (x := (at' : Int) + (k : Int)) (by omega) (by omega), show (at' : Int) + k = ((at' + k : Nat) : Int) by omega, show Int.tmod ((at' + k : Nat) : Int) 4 = (((at' + k) % 4 : Nat) : Int) from rfl]
    unfold partN at t
    by_cases h1 : (at' + k - 1) / 4 > at' / 4
    · refine BIf_dpos (by omega) ⟨by decide, by simp, ?_⟩
      by_cases h2 : (at' + k) % 4 = 0
      · rw [if_neg (by omega), Nat.add_zero] at t
        exact BIf_bnen (by omega) t
      · rw [if_pos ⟨h1, h2⟩] at t
        refine BIf_bnep (by omega) ?_
        rw [i64w (x := ((part1 at' k : Nat) : Int) + 1) (by omega) (by omega)]
        exact t
    · rw [if_neg (by omega), Nat.add_zero] at t
      exact BIf_dneg (by omega) t
  refine HCalls.use (awake_ok H) ?_
  try simp only [DI_int', DB_bool, DS_string, DP_pointer, DSl_slice, DM_map, DA_agg, DTup_tuple, DCons_cons, DNil_nil, NN_some, BIf_true, BIf_false, BIf_same, List.toList_toArray, Bool.not_true, Bool.not_false]
  refine ⟨by decide, by simp, ?_⟩
  refine (pipe_tr sz hsz).use (Sep.start H) [] rfl rfl ?_
  rintro _ _ H1 ⟨p, dp, ap, rfl, rfl⟩ hs
  simp only [DI_int', DB_bool, DS_string, DP_pointer, DSl_slice, DM_map, DA_agg, DTup_tuple, DCons_cons, DNil_nil, NN_some, BIf_true, BIf_false, BIf_same, List.toList_toArray, Bool.not_true, Bool.not_false]
  refine BIf_neg rfl (BIf_neg rfl ⟨by omega, by simp, hd3, by simp, by decide, by simp, by decide, by simp, ?_⟩)
  refine hs.mks cell_u64 rfl (n := k) (m := k) rfl rfl (Nat.le_refl _) (by omega) (by omega) fun b H1 hs => ?_
  simp only [DI_int', DB_bool, DS_string, DP_pointer, DSl_slice, DM_map, DA_agg, DTup_tuple, DCons_cons, DNil_nil, NN_some, BIf_true, BIf_false, BIf_same, List.toList_toArray, Bool.not_true, Bool.not_false]
  have hz : zeroRow [Value.int .u64 0] k = wordVals (List.replicate k 0) := by
    rw [zeroRow_one]
    unfold wordVals
    rw [List.map_replicate]; rfl
  have hs : Sep [pts p (pipO dp ap ⟨2, (sz + 3) / 4, sz⟩), Dk dp (D.fresh 20 32), Ar ap 4 0 [], own H, pts b (.row (wordVals (List.replicate k 0)) 94 (k * 1))] H1 := by rw [← hz]; exact hs
  refine (Write_tr (p := p) (dp := dp) (ap := ap) (d := D.fresh 20 32) (x := ⟨2, (sz + 3) / 4, sz⟩) (cap := 4) (peak := 0) (bufs := []) (R := pts b (.row (wordVals (List.replicate k 0)) 94 (k * 1))) (A := some ⟨b, 0, none⟩) (n := k) (m := k) (src := List.replicate k 0) (fresh_ok (by omega)) (fresh_calm 20) hx ⟨by decide, by decide⟩ at' (by simp) (by omega) (by show _ ≤ sz; omega) (Nat.le_refl _) (by decide) (fun H h => ?_)).use hs [0, 1, 2, 4] rfl rfl ?_
  · have := Cells.row h 0 k
    rw [List.drop_zero, List.take_of_length_le (by rw [wordVals_length, List.length_replicate]; omega)] at this
    exact this
  rintro _ _ H1 ⟨rfl, rfl⟩ hs
  simp only [DI_int', DB_bool, DS_string, DP_pointer, DSl_slice, DM_map, DA_agg, DTup_tuple, DCons_cons, DNil_nil, NN_some, BIf_true, BIf_false, BIf_same, List.toList_toArray, Bool.not_true, Bool.not_false]
  refine BIf_bnen rfl ⟨by decide, by simp, ?_⟩
  have t := mid p dp ap b (k * 1) _ H1 hok2 hcalm2 hx2 hper hwr hrd hsy (hs.re [4, 0, 1, 2, 3] rfl)
  unfold part1 at t
  by_cases h1 : at' % 4 = 0
  · refine BIf_bnen (by omega) ?_
    by_cases h2 : at' / 4 = (at' + k - 1) / 4
    · refine BIf_beqp (by omega) ?_
      by_cases h3 : k < 4
      · rw [if_pos (.inr ⟨h2, h3⟩)] at t
        exact BIf_dpos (by omega) t
      · rw [if_neg (by omega)] at t
        exact BIf_dneg (by omega) t
    · rw [if_neg (by omega)] at t
      exact BIf_beqn (by omega) t
  · rw [if_pos (.inl h1)] at t
    exact BIf_bnep (by omega) t

end Go.Proofs.Ytgkdkemhiglpdaa.Str
