/- The law StreamCopies. -/
import Derived.Test.YtgkdkemhiglpdaaStrI
set_option maxRecDepth 100000
set_option linter.unusedSimpArgs false
set_option linter.unusedVariables false
set_option linter.unnecessarySimpa false
set_option linter.unusedSectionVars false
namespace Go.Proofs.Ytgkdkemhiglpdaa.Str
open Go Go.Hw Go.Form Go.Proofs.Ytgkdkemhiglpdaa.W Go.Proofs.Ytgkdkemhiglpdaa.Dsk Go.Proofs.Ytgkdkemhiglpdaa.Are

set_option maxHeartbeats 1000000 in
theorem StreamCopies_ok (A : Option Addr) (n m : Nat) (hnm : n ≤ m) (ws : List UInt64) (hn : n = ws.length) (f s w : Int) (hf : -9223372036854775808 ≤ f ∧ f ≤ 9223372036854775807) (hsr : -9223372036854775808 ≤ s ∧ s ≤ 9223372036854775807) (room : Nat) (hroom : room ≤ 255) (H : Hp) (hb : Cells H A (wordVals ws)) :
    HCalls Try.prog 5 #[.slice A n m, .agg #[.int .i64 f, .int .i64 s, .int .i64 w], .int .u8 room] H (Ret (.bool true) H) := by
  apply W_abacistlaw19_StreamCopies.ok
  unfold W_abacistlaw19_StreamCopies
  refine (Sep.start H).nw fun bx H1 hs => ?_
  refine HCalls.use (awake_ok H1) ?_
  try simp only [DI_int', DB_bool, DS_string, DP_pointer, DSl_slice, DM_map, DA_agg, DTup_tuple, DCons_cons, DNil_nil, NN_some, BIf_true, BIf_false, BIf_same, List.toList_toArray, Bool.not_true, Bool.not_false]
  by_cases h0 : n = 0
  · exact BIf_beqp (by omega) (hs.fin 0 rfl _)
  refine BIf_beqn (by omega) ?_
  by_cases h40 : n > 40
  · exact BIf_dpos (by omega) (hs.fin 0 rfl _)
  refine BIf_dneg (by omega) ?_
  have e12 : IntKind.i64.wrap ((1 : Int) + Int.tmod (IntKind.i64.wrap (room : Int)) 12) = ((1 + room % 12 : Nat) : Int) := by
    rw [i64n (n := room) (by omega), show Int.tmod (room : Int) 12 = ((room % 12 : Nat) : Int) from rfl, i64w (by omega) (by omega)]; omega
  have har : 1 ≤ 1 + room % 12 ∧ 1 + room % 12 ≤ 12 := by omega
  have eL : IntKind.i64.wrap (Int.tdiv (IntKind.i64.wrap ((n : Int) + 3)) 4) = (((n + 3) / 4 : Nat) : Int) := by
    rw [i64w (x := (n : Int) + 3) (by omega) (by omega), show (n : Int) + 3 = ((n + 3 : Nat) : Int) by omega, show Int.tdiv ((n + 3 : Nat) : Int) 4 = (((n + 3) / 4 : Nat) : Int) from rfl, i64n (by omega)]
  simp only [eL, e12]
  generalize har' : 1 + room % 12 = ar at *
  have hokF : Ok (D.fresh 40 32) := fresh_ok (by omega)
  have hx : On (D.fresh 40 32) ⟨0, (n + 3) / 4, n⟩ := fresh_on (by omega) (by omega)
  have hy : On (D.fresh 40 32) ⟨(n + 3) / 4, (n + 3) / 4, n⟩ := fresh_on (by omega) (by omega)
  refine (Dsk.New_tr 40 32 (by omega) (by decide) (by omega)).use hs [] rfl rfl ?_
  rintro _ _ H1 ⟨dp, rfl, rfl⟩ hs
  simp only [DI_int', DB_bool, DS_string, DP_pointer, DSl_slice, DM_map, DA_agg, DTup_tuple, DCons_cons, DNil_nil, NN_some, BIf_true, BIf_false, BIf_same, List.toList_toArray, Bool.not_true, Bool.not_false]
  refine ⟨by decide, by simp, ?_⟩
  refine (Are.New_tr (ar : Int) (by omega)).use hs [] rfl rfl ?_
  rintro _ _ H1 ⟨ap, rfl, rfl⟩ hs
  simp only [DI_int', DB_bool, DS_string, DP_pointer, DSl_slice, DM_map, DA_agg, DTup_tuple, DCons_cons, DNil_nil, NN_some, BIf_true, BIf_false, BIf_same, List.toList_toArray, Bool.not_true, Bool.not_false]
  refine ⟨by decide, by simp, ?_⟩
  refine (New_tr (dp := dp) (ap := ap) hokF ⟨0, (n + 3) / 4, n⟩ hx).use hs [1] rfl rfl ?_
  rintro _ _ H1 ⟨p, rfl, rfl⟩ hs
  simp only [DI_int', DB_bool, DS_string, DP_pointer, DSl_slice, DM_map, DA_agg, DTup_tuple, DCons_cons, DNil_nil, NN_some, BIf_true, BIf_false, BIf_same, List.toList_toArray, Bool.not_true, Bool.not_false]
  refine (New_tr (dp := dp) (ap := ap) hokF ⟨(n + 3) / 4, (n + 3) / 4, n⟩ hy).use hs [0] rfl rfl ?_
  rintro _ _ H1 ⟨q, rfl, rfl⟩ hs
  simp only [DI_int', DB_bool, DS_string, DP_pointer, DSl_slice, DM_map, DA_agg, DTup_tuple, DCons_cons, DNil_nil, NN_some, BIf_true, BIf_false, BIf_same, List.toList_toArray, Bool.not_true, Bool.not_false]
  have hs : Sep [Dk dp (D.fresh 40 32), pts q (pipO dp ap ⟨(n + 3) / 4, (n + 3) / 4, n⟩), pts p (pipO dp ap ⟨0, (n + 3) / 4, n⟩), Ar ap ar 0 [], own H, pts bx (.obj (.cells #[.int .i64 f, .int .i64 s, .int .i64 w] 35))] H1 := hs
  refine hs.ldw 5 rfl rfl ?_
  -- what is done with the first two
  have tail : ∀ H1, Sep [Dk dp (D.fresh 40 32), pts q (pipO dp ap ⟨(n + 3) / 4, (n + 3) / 4, n⟩), pts p (pipO dp ap ⟨0, (n + 3) / 4, n⟩), Ar ap ar 0 [], own H, pts bx (.obj (.cells #[.int .i64 f, .int .i64 s, .int .i64 w] 35))] H1 →
      W_abacistlaw19_StreamCopies.j17 (Ret (.bool true) H) A n m room ⟨bx, 0, none⟩ (some ⟨dp, 0, none⟩) (some ⟨ap, 0, none⟩) (some ⟨p, 0, none⟩) (some ⟨q, 0, none⟩) H1 := fun H1 hs => by
    unfold W_abacistlaw19_StreamCopies.j17
    simp only [e12]
    refine ⟨by decide, by simp, ?_⟩
    by_cases h4 : ar < 4
    · refine BIf_dpos (by omega) ?_
      refine (Write_full (p := p) (dp := dp) (ap := ap) (d := D.fresh 40 32) (x := ⟨0, (n + 3) / 4, n⟩) (cap := ar) (peak := 0) (bufs := []) (A := A) (m := m) hokF hx 0 n (by omega) (by show 0 + n ≤ n; omega) (by rw [fresh_per, sumB_nil]; omega)).use hs [2, 0, 3] rfl rfl ?_
      rintro _ _ H1 ⟨rfl, rfl⟩ hs
      simp only [DI_int', DB_bool, DS_string, DP_pointer, DSl_slice, DM_map, DA_agg, DTup_tuple, DCons_cons, DNil_nil, NN_some, BIf_true, BIf_false, BIf_same, List.toList_toArray, Bool.not_true, Bool.not_false]
      refine BIf_beqp rfl ?_
      try simp only [NN_some, Addr.add_lit', Addr.add_zero, Nat.zero_add, Nat.add_zero]
      refine HCalls.use (Count_s hs 1 rfl) ?_
      simp only [DI_int', DB_bool, DS_string, DP_pointer, DSl_slice, DM_map, DA_agg, DTup_tuple, DCons_cons, DNil_nil, NN_some, BIf_true, BIf_false, BIf_same, List.toList_toArray, Bool.not_true, Bool.not_false]
      refine EqI_eql p_ops (a := [0, 0, 0]) (b := [0, 0, 0]) rfl rfl (by intro x hx; simp at hx; omega) (by intro x hx; simp at hx; omega) rfl rfl ?_
      rw [decide_eq_true rfl]
      exact hs.fin 4 rfl _
    · refine BIf_dneg (by omega) ?_
      refine (Write_tr (p := p) (dp := dp) (ap := ap) (d := D.fresh 40 32) (x := ⟨0, (n + 3) / 4, n⟩) (cap := ar) (peak := 0) (bufs := []) (R := own H) (A := A) (n := n) (m := m) (src := ws) hokF (fresh_calm 40) hx ⟨by decide, by decide⟩ 0 hn (by omega) (by show 0 + n ≤ n; omega) hnm (by rw [fresh_per, sumB_nil]; omega) (fun H' h => hb.le h)).use hs [2, 0, 3, 4] rfl rfl ?_
      rintro _ _ H1 ⟨rfl, rfl⟩ hs
      simp only [DI_int', DB_bool, DS_string, DP_pointer, DSl_slice, DM_map, DA_agg, DTup_tuple, DCons_cons, DNil_nil, NN_some, BIf_true, BIf_false, BIf_same, List.toList_toArray, Bool.not_true, Bool.not_false]
      refine BIf_bnen rfl ?_
      have W := wrs_wrote ⟨0, (n + 3) / 4, n⟩ n 0 (D.fresh 40 32) ws hokF (by omega)
      have hper : D.per (wrs (D.fresh 40 32) ⟨0, (n + 3) / 4, n⟩ n 0 ws) = 4 := by unfold D.per; rw [W.size]; exact fresh_per 40
      have hx2 : On (wrs (D.fresh 40 32) ⟨0, (n + 3) / 4, n⟩ n 0 ws) ⟨0, (n + 3) / 4, n⟩ := ⟨hx.w1, hx.s1, by rw [W.sec]; exact hx.fit, by rw [hper]; exact hx.room⟩
      have hy2 : On (wrs (D.fresh 40 32) ⟨0, (n + 3) / 4, n⟩ n 0 ws) ⟨(n + 3) / 4, (n + 3) / 4, n⟩ := ⟨hy.w1, hy.s1, by rw [W.sec]; exact hy.fit, by rw [hper]; exact hy.room⟩
      have hpl := pcs_len (D.per (D.fresh 40 32)) 0 n 0 ws.length
      have hcl := List.length_filter_le (fun p : Nat × Nat × Nat => decide (p.2.2 < D.per (D.fresh 40 32))) (pcs (D.per (D.fresh 40 32)) 0 n 0 ws.length)
      have hrd : (wrs (D.fresh 40 32) ⟨0, (n + 3) / 4, n⟩ n 0 ws).rd ≤ 40 := by
        rw [W.rd]
        exact Nat.le_trans (Nat.add_le_add_left hcl _) (by show 0 + (pcs (D.per (D.fresh 40 32)) 0 n 0 ws.length).length ≤ _; omega)
      have hwr : (wrs (D.fresh 40 32) ⟨0, (n + 3) / 4, n⟩ n 0 ws).wr ≤ 40 := by
        rw [W.wr]; show 0 + (pcs (D.per (D.fresh 40 32)) 0 n 0 ws.length).length ≤ _; omega
      have hok2 := W.ok
      have hc2 := W.calm (fresh_calm 40)
      have hpw := W.pw
      rw [fresh_per] at hs
      clear W hcl hpl
      generalize wrs (D.fresh 40 32) ⟨0, (n + 3) / 4, n⟩ n 0 ws = d2 at *
      by_cases h8 : ar < 8
      · refine (Copy_full (p := p) (q := q) (dp := dp) (ap := ap) (d := d2) (x := ⟨0, (n + 3) / 4, n⟩) (y := ⟨(n + 3) / 4, (n + 3) / 4, n⟩) (cap := ar) (peak := mx 0 (sumB [] + ((4 : Nat) : Int))) (bufs := []) hok2 hc2 hx2 hy2 rfl ⟨by omega, by omega⟩ (by rw [hper, sumB_nil]; omega) (by rw [hper, sumB_nil]; omega)).use hs [0, 4, 1, 2] rfl rfl ?_
        rintro _ _ H1 ⟨rfl, rfl⟩ hs
        simp only [DI_int', DB_bool, DS_string, DP_pointer, DSl_slice, DM_map, DA_agg, DTup_tuple, DCons_cons, DNil_nil, NN_some, BIf_true, BIf_false, BIf_same, List.toList_toArray, Bool.not_true, Bool.not_false]
        refine ⟨by decide, by simp, BIf_dpos (by omega) (BIf_beqp rfl ?_)⟩
        try simp only [NN_some, Addr.add_lit', Addr.add_zero, Nat.zero_add, Nat.add_zero]
        refine HCalls.use (used_s hs 3 rfl) ?_
        simp only [DI_int', DB_bool, DS_string, DP_pointer, DSl_slice, DM_map, DA_agg, DTup_tuple, DCons_cons, DNil_nil, NN_some, BIf_true, BIf_false, BIf_same, List.toList_toArray, Bool.not_true, Bool.not_false]
        rw [sumB_nil]
        exact hs.fin 4 rfl _
      · refine (Copy_tr (p := p) (q := q) (dp := dp) (ap := ap) (d := d2) (x := ⟨0, (n + 3) / 4, n⟩) (y := ⟨(n + 3) / 4, (n + 3) / 4, n⟩) (cap := ar) (peak := mx 0 (sumB [] + ((4 : Nat) : Int))) (bufs := []) hok2 hc2 hx2 hy2 rfl (.inl (by show 0 + (n + 3) / 4 ≤ (n + 3) / 4; omega)) ⟨by omega, by omega⟩ (by rw [hper, sumB_nil]; omega)).use hs [0, 4, 1, 2] rfl rfl ?_
        rintro _ _ H1 ⟨i, d3, hie, hI, rfl, rfl⟩ hs
        have hper3 : D.per d3 = 4 := hI.per.trans hper
        simp only [DI_int', DB_bool, DS_string, DP_pointer, DSl_slice, DM_map, DA_agg, DTup_tuple, DCons_cons, DNil_nil, NN_some, BIf_true, BIf_false, BIf_same, List.toList_toArray, Bool.not_true, Bool.not_false]
        refine ⟨by decide, by simp, BIf_dneg (by omega) ?_⟩
        refine hs.mks cell_u64 rfl (n := n) (m := n) rfl rfl (Nat.le_refl _) (by omega) (by omega) fun b5 H1 hs => ?_
        simp only [DI_int', DB_bool, DS_string, DP_pointer, DSl_slice, DM_map, DA_agg, DTup_tuple, DCons_cons, DNil_nil, NN_some, BIf_true, BIf_false, BIf_same, List.toList_toArray, Bool.not_true, Bool.not_false]
        refine hs.ldw 5 rfl rfl ?_
        refine HCalls.use (New_nil (some ⟨ap, 0, none⟩) f s w H1) ?_
        simp only [DI_int', DB_bool, DS_string, DP_pointer, DSl_slice, DM_map, DA_agg, DTup_tuple, DCons_cons, DNil_nil, NN_some, BIf_true, BIf_false, BIf_same, List.toList_toArray, Bool.not_true, Bool.not_false]
        refine BIf_beqp rfl ?_
        have hie : i ≤ (n + 3) / 4 := hie
        have hrd3 := hI.rd
        have hy3 : On d3 ⟨(n + 3) / 4, (n + 3) / 4, n⟩ := ⟨hy2.w1, hy2.s1, by rw [hI.sec]; exact hy2.fit, by rw [hper3]; exact hy.room⟩
        have hz : zeroRow [Value.int .u64 0] n = wordVals (List.replicate n 0) := by
          rw [zeroRow_one]
          unfold wordVals
          rw [List.map_replicate]; rfl
        have hs := hs.re [0, 1, 2, 3, 4, 6] rfl
        have hs : Sep [pts p (pipO dp ap ⟨0, (n + 3) / 4, n⟩), pts q (pipO dp ap ⟨(n + 3) / 4, (n + 3) / 4, n⟩), Dk dp d3, Ar ap ar (mx (mx (mx 0 (sumB [] + ((4 : Nat) : Int))) (sumB [] + D.per d2)) (sumB [] + D.per d2 + D.per d2)) [], own H, pts b5 (.row (wordVals (List.replicate n 0)) 94 (n * 1))] H1 := by rw [← hz]; exact hs
        have hq : n ≤ n := Nat.le_refl n
        refine (Read_tr (p := q) (dp := dp) (ap := ap) (d := d3) (x := ⟨(n + 3) / 4, (n + 3) / 4, n⟩) (cap := ar) (bufs := []) (rl := b5) (off := 0) (mm := n * 1) (xs := wordVals (List.replicate n 0)) hI.ok hI.calm hy3 (by omega) 0 n n (by omega) (by show 0 + n ≤ n; omega) hq (by rw [wordVals_length, List.length_replicate]; omega) (by rw [hper3, sumB_nil]; omega)).use hs [1, 2, 3, 5] rfl rfl ?_
        rintro _ _ H1 ⟨rfl, rfl⟩ hs
        simp only [DI_int', DB_bool, DS_string, DP_pointer, DSl_slice, DM_map, DA_agg, DTup_tuple, DCons_cons, DNil_nil, NN_some, BIf_true, BIf_false, BIf_same, List.toList_toArray, Bool.not_true, Bool.not_false]
        refine BIf_beqp rfl ?_
        have hws : pws d3 ⟨(n + 3) / 4, (n + 3) / 4, n⟩ 0 n = ws := by
          apply List.ext_getElem?
          intro j
          unfold pws
          rw [List.getElem?_map]
          by_cases hj : j < n
          · rw [List.getElem?_range hj]
            simp only [Option.map_some, Nat.zero_add]
            rw [hI.dst j hj, hpw j, if_pos ⟨by omega, by omega⟩, Nat.sub_zero, List.getElem?_eq_getElem (by omega)]
            rfl
          · rw [List.getElem?_eq_none (by simp; omega), List.getElem?_eq_none (by omega)]
            rfl
        have hset : setAt (wordVals (List.replicate n (0 : UInt64))) 0 (wordVals (pws d3 ⟨(n + 3) / 4, (n + 3) / 4, n⟩ 0 n)) = wordVals ws := by
          rw [hws]
          unfold setAt
          rw [List.take_zero, List.nil_append, List.drop_eq_nil_of_le (by rw [wordVals_length, wordVals_length, List.length_replicate]; omega), List.append_nil]
        rw [hset] at hs
        have hA5 : Cells H1 (some ⟨b5, 0, none⟩) (wordVals ws) := by
          have := Cells.row (hs.get 3 (b := b5) (o := .row (wordVals ws) 94 (n * 1)) rfl) 0 n
          rw [List.drop_zero, List.take_of_length_le (by rw [wordVals_length]; omega)] at this
          exact this
        refine HCalls.use (Same_ok (some ⟨b5, 0, none⟩) A n n m ws hn (by omega) H1 hA5 (hb.le (hs.ow 5 rfl))) ?_
        try simp only [DI_int', DB_bool, DS_string, DP_pointer, DSl_slice, DM_map, DA_agg, DTup_tuple, DCons_cons, DNil_nil, NN_some, BIf_true, BIf_false, BIf_same, List.toList_toArray, Bool.not_true, Bool.not_false]
        try simp only [NN_some, Addr.add_lit', Addr.add_zero, Nat.zero_add, Nat.add_zero]
        refine HCalls.use (used_s hs 2 rfl) ?_
        simp only [DI_int', DB_bool, DS_string, DP_pointer, DSl_slice, DM_map, DA_agg, DTup_tuple, DCons_cons, DNil_nil, NN_some, BIf_true, BIf_false, BIf_same, List.toList_toArray, Bool.not_true, Bool.not_false]
        refine BIf_beqp sumB_nil ?_
        try simp only [NN_some, Addr.add_lit', Addr.add_zero, Nat.zero_add, Nat.add_zero]
        refine HCalls.use (peak_s hs 2 rfl) ?_
        simp only [DI_int', DB_bool, DS_string, DP_pointer, DSl_slice, DM_map, DA_agg, DTup_tuple, DCons_cons, DNil_nil, NN_some, BIf_true, BIf_false, BIf_same, List.toList_toArray, Bool.not_true, Bool.not_false]
        refine BIf_beqp (by rw [hper, hper3, sumB_nil]; decide) ?_
        exact hs.fin 5 rfl _
  -- the third
  have newr : HCalls Try.prog 23 #[.pointer (some ⟨dp, 0, none⟩), .pointer (some ⟨ap, 0, none⟩), .agg #[.int .i64 f, .int .i64 s, .int .i64 w]] H1 fun v H7 => ∃ p5 x7, v = .tuple #[.pointer p5, .int .i64 x7] ∧
      Sep [Dk dp (D.fresh 40 32), pts q (pipO dp ap ⟨(n + 3) / 4, (n + 3) / 4, n⟩), pts p (pipO dp ap ⟨0, (n + 3) / 4, n⟩), Ar ap ar 0 [], own H, pts bx (.obj (.cells #[.int .i64 f, .int .i64 s, .int .i64 w] 35))] H7 ∧
      (right (D.fresh 40 32) f s w → x7 = 0 ∧ ∃ pr x, (x.w : Int) = w ∧ p5 = some ⟨pr, 0, none⟩ ∧ Sep [pts p (pipO dp ap ⟨0, (n + 3) / 4, n⟩), pts pr (pipO dp ap x)] H7) ∧ (¬ right (D.fresh 40 32) f s w → x7 = 2 ∧ p5 = none) := by
    by_cases hr : right (D.fresh 40 32) f s w
    · obtain ⟨r1, r2, r3, r4, r5, r6⟩ := hr
      rw [fresh_per] at r6
      have r4' : f < (40 : Nat) := r4
      have r5' : s ≤ ((40 : Nat) : Int) - f := r5
      obtain ⟨fn, rfl⟩ := Int.eq_ofNat_of_zero_le r2
      obtain ⟨sn, rfl⟩ := Int.eq_ofNat_of_zero_le (show 0 ≤ s by omega)
      obtain ⟨wn, rfl⟩ := Int.eq_ofNat_of_zero_le (show 0 ≤ w by omega)
      have hxr : On (D.fresh 40 32) ⟨fn, sn, wn⟩ := ⟨by show 1 ≤ wn; omega, by show 1 ≤ sn; omega, by show fn + sn ≤ 40; omega, by rw [fresh_per]; show wn ≤ sn * 4; omega⟩
      refine (New_tr (dp := dp) (ap := ap) hokF ⟨fn, sn, wn⟩ hxr).use hs [0] rfl rfl ?_
      rintro _ _ H7 ⟨pr, rfl, rfl⟩ hs
      exact ⟨_, _, rfl, hs.re [0, 2, 3, 4, 5, 6] rfl, fun _ => ⟨rfl, pr, ⟨fn, sn, wn⟩, rfl, rfl, hs.re [3, 1] rfl⟩, fun h => absurd ⟨r1, r2, r3, r4, r5, by rw [fresh_per]; exact r6⟩ h⟩
    · exact HCalls.use (New_no hokF f s w hf hsr hr hs 0 rfl) ⟨_, _, rfl, hs, fun h => absurd h hr, fun _ => ⟨rfl, rfl⟩⟩
  refine newr.mono ?_
  rintro _ H7 ⟨p5, x7, rfl, hs, hyes, hno⟩
  simp only [DI_int', DB_bool, DS_string, DP_pointer, DSl_slice, DM_map, DA_agg, DTup_tuple, DCons_cons, DNil_nil, NN_some, BIf_true, BIf_false, BIf_same, List.toList_toArray, Bool.not_true, Bool.not_false]
  refine BIf_neg rfl (BIf_neg rfl (BIf_neg rfl (BIf_neg rfl (BIf_bnen rfl (BIf_bnen rfl ?_)))))
  have hJt : right (D.fresh 40 32) f s w → W_abacistlaw19_StreamCopies.j13 (Ret (.bool true) H) A n m room ⟨bx, 0, none⟩ (some ⟨dp, 0, none⟩) (some ⟨ap, 0, none⟩) (some ⟨p, 0, none⟩) (some ⟨q, 0, none⟩) p5 x7 true H7 := fun hr => by
    obtain ⟨rfl, pr, x, rfl, rfl, hp2⟩ := hyes hr
    unfold W_abacistlaw19_StreamCopies.j13
    refine BIf_neg rfl (BIf_neg rfl ?_)
    unfold W_abacistlaw19_StreamCopies.j15
    refine BIf_pos rfl ?_
    try simp only [NN_some, Addr.add_lit', Addr.add_zero, Nat.zero_add, Nat.add_zero]
    refine hs.ld 5 rfl rfl ?_
    simp only [DI_int', DB_bool, DS_string, DP_pointer, DSl_slice, DM_map, DA_agg, DTup_tuple, DCons_cons, DNil_nil, NN_some, BIf_true, BIf_false, BIf_same, List.toList_toArray, Bool.not_true, Bool.not_false]
    by_cases hw : x.w = n
    · exact BIf_bnen (by omega) (tail H7 hs)
    · refine BIf_bnep (by omega) ?_
      refine HCalls.use (Copy_odd (y := x) (fun h => hw h.symm) hp2 0 1 rfl rfl) ?_
      try simp only [DI_int', DB_bool, DS_string, DP_pointer, DSl_slice, DM_map, DA_agg, DTup_tuple, DCons_cons, DNil_nil, NN_some, BIf_true, BIf_false, BIf_same, List.toList_toArray, Bool.not_true, Bool.not_false]
      exact BIf_bnen rfl (tail H7 hs)
  have hJf : ¬ right (D.fresh 40 32) f s w → W_abacistlaw19_StreamCopies.j13 (Ret (.bool true) H) A n m room ⟨bx, 0, none⟩ (some ⟨dp, 0, none⟩) (some ⟨ap, 0, none⟩) (some ⟨p, 0, none⟩) (some ⟨q, 0, none⟩) p5 x7 false H7 := fun hr => by
    obtain ⟨rfl, rfl⟩ := hno hr
    unfold W_abacistlaw19_StreamCopies.j13
    refine BIf_neg rfl (BIf_pos rfl (BIf_bnen rfl (BIf_neg rfl ?_)))
    unfold W_abacistlaw19_StreamCopies.j15
    exact BIf_neg rfl (tail H7 hs)
  have r40 : ((D.fresh 40 32).sec : Int) = 40 := rfl
  try simp only [NN_some, Addr.add_lit', Addr.add_zero, Nat.zero_add, Nat.add_zero]
  refine hs.ld 5 rfl rfl ?_
  simp only [DI_int', DB_bool, DS_string, DP_pointer, DSl_slice, DM_map, DA_agg, DTup_tuple, DCons_cons, DNil_nil, NN_some, BIf_true, BIf_false, BIf_same, List.toList_toArray, Bool.not_true, Bool.not_false]
  by_cases k1 : w ≥ 1
  · refine BIf_dpos k1 (hs.ld 5 rfl rfl ?_)
    simp only [DI_int', DB_bool, DS_string, DP_pointer, DSl_slice, DM_map, DA_agg, DTup_tuple, DCons_cons, DNil_nil, NN_some, BIf_true, BIf_false, BIf_same, List.toList_toArray, Bool.not_true, Bool.not_false]
    by_cases k2 : f ≥ 0
    · refine BIf_dpos k2 (hs.ld 5 rfl rfl ?_)
      simp only [DI_int', DB_bool, DS_string, DP_pointer, DSl_slice, DM_map, DA_agg, DTup_tuple, DCons_cons, DNil_nil, NN_some, BIf_true, BIf_false, BIf_same, List.toList_toArray, Bool.not_true, Bool.not_false]
      by_cases k3 : s ≥ 1
      · refine BIf_dpos k3 (hs.ld 5 rfl rfl ?_)
        simp only [DI_int', DB_bool, DS_string, DP_pointer, DSl_slice, DM_map, DA_agg, DTup_tuple, DCons_cons, DNil_nil, NN_some, BIf_true, BIf_false, BIf_same, List.toList_toArray, Bool.not_true, Bool.not_false]
        by_cases k4 : f < 40
        · refine BIf_dpos k4 (hs.ld 5 rfl rfl ?_)
          simp only [DI_int', DB_bool, DS_string, DP_pointer, DSl_slice, DM_map, DA_agg, DTup_tuple, DCons_cons, DNil_nil, NN_some, BIf_true, BIf_false, BIf_same, List.toList_toArray, Bool.not_true, Bool.not_false]
          refine hs.ld 5 rfl rfl ?_
          simp only [DI_int', DB_bool, DS_string, DP_pointer, DSl_slice, DM_map, DA_agg, DTup_tuple, DCons_cons, DNil_nil, NN_some, BIf_true, BIf_false, BIf_same, List.toList_toArray, Bool.not_true, Bool.not_false]
          rw [i64w (x := 40 - f) (by omega) (by omega)]
          by_cases k5 : s ≤ 40 - f
          · refine BIf_dpos k5 (hs.ld 5 rfl rfl ?_)
            simp only [DI_int', DB_bool, DS_string, DP_pointer, DSl_slice, DM_map, DA_agg, DTup_tuple, DCons_cons, DNil_nil, NN_some, BIf_true, BIf_false, BIf_same, List.toList_toArray, Bool.not_true, Bool.not_false]
            refine hs.ld 5 rfl rfl ?_
            simp only [DI_int', DB_bool, DS_string, DP_pointer, DSl_slice, DM_map, DA_agg, DTup_tuple, DCons_cons, DNil_nil, NN_some, BIf_true, BIf_false, BIf_same, List.toList_toArray, Bool.not_true, Bool.not_false]
            rw [i64w (x := 4 * s) (by omega) (by omega)]
            by_cases k6 : w ≤ 4 * s
            · rw [decide_eq_true k6]
              exact hJt ⟨k1, k2, k3, k4, k5, by rw [fresh_per]; show w ≤ s * 4; omega⟩
            · rw [decide_eq_false k6]
              exact hJf fun h => k6 (by have := h.2.2.2.2.2; rw [fresh_per] at this; have : w ≤ s * 4 := this; omega)
          · exact BIf_dneg k5 (hJf fun h => k5 h.2.2.2.2.1)
        · exact BIf_dneg k4 (hJf fun h => k4 h.2.2.2.1)
      · exact BIf_dneg k3 (hJf fun h => k3 h.2.2.1)
    · exact BIf_dneg k2 (hJf fun h => k2 h.2.1)
  · exact BIf_dneg k1 (hJf fun h => k1 h.1)

end Go.Proofs.Ytgkdkemhiglpdaa.Str
