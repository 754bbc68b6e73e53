/- The law DiskSafe: its loops. -/
import Derived.Test.YtgkdkemhiglpdaaDskH
set_option maxRecDepth 100000
set_option linter.unusedSimpArgs false
set_option linter.unusedVariables false
set_option linter.unnecessarySimpa false
set_option linter.unusedSectionVars false
namespace Go.Proofs.Ytgkdkemhiglpdaa.Dsk
open Go Go.Hw Go.Form Go.Proofs.Ytgkdkemhiglpdaa.W

theorem OkA.le {H H' : Hp} {a : Act} (h : OkA H a) (k : H.le H') : OkA H' a := ⟨h.n, h.b.le k, h.n', h.ks.le k, h.i⟩

theorem On12.next {S C : Mb} {c : Nat} {d d' : D} {a : Act} {e : Int} (h : On12 S C c d) (hn : Next d d') (he : Eff d d' a e) (hk : a.k ≤ 2) : ∃ C', On12 S C' (c + 1) d' ∧
    ((0 ≤ a.k ∧ a.k ≤ 1 ∧ e = 0) → (0 ≤ a.i ∧ a.i < 12) ∧ C' = updB C a.i (laidB a.b)) ∧ (¬ (0 ≤ a.k ∧ a.k ≤ 1 ∧ e = 0) → C' = C) := by
  obtain ⟨h1, h2, h3, h4⟩ := he h.calm hk
  have := hn.rd
  have := hn.wr
  have := hn.sy
  have := h.rd
  have := h.wr
  have := h.sy
  refine ⟨d'.cache, ⟨hn.ok, hn.dom, h1, hn.sec.trans h.sec, hn.size.trans h.size, h2.trans h.safe, rfl, by omega, by omega, by omega⟩, fun hh => ?_, fun hh => (h4 hh).trans h.cache⟩
  obtain ⟨h5, h6⟩ := h3 hh
  have := h.sec
  exact ⟨by omega, by rw [h6, h.cache]⟩

theorem nowS_upd (S C : Mb) (k : Int) (b : List UInt8) (i : Int) : nowS S (updB C k b) i = if i = k then b else nowS S C i := by
  unfold nowS updB
  by_cases e : i = k
  · simp [e]
  · simp [e]


set_option maxHeartbeats 1000000 in
/-- More is done. -/
theorem more_loop (K : Value → Hp → Prop) {H0 : Hp} (hK : ∀ H, H0.le H → K (.bool true) H) {p b1 b2 : Nat} {S : Mb} {c1 : Array Value} (h1 : Str12 c1 (satS S) 12) {A : Option Addr} {n m : Nat} {l : List Act} (hl : l.length = n) (hn : n ≤ 40) (hc : CellsS 4 H0 A (l.map actRow)) (hall : ∀ a ∈ l, OkA H0 a)
    {A' : Option Addr} {n' m' : Nat} {ks : List Bool} (hn' : n' = ks.length) (hks : Cells H0 A' (boolVals ks)) :
    ∀ (t j : Nat) (c : Nat) (C : Mb) (d : D) (c2 : Array Value) (H : Hp), j + t = n → c ≤ 400 + j → On12 S C c d → Str12 c2 (nowS S C) 12 → Sep [own H0, Dk p d, arr b1 c1, arr b2 c2] H →
      W_abacistlaw15_DiskSafe.l27 K (t + 1) A n m A' n' m' (some ⟨p, 0, none⟩) ⟨b1, 0, none⟩ ⟨b2, 0, none⟩ (j : Int) H := fun t => by
  induction t with
  | zero =>
    intro j c C d c2 H hj hcj hd h2 hs
    unfold W_abacistlaw15_DiskSafe.l27
    refine BIf_dneg (by omega) ?_
    try simp only [NN_some, Addr.add_lit', Addr.add_zero, Nat.zero_add, Nat.add_zero]
    refine (Crash_tr (p := p) (d := d)).use hs [1] rfl rfl ?_
    rintro _ _ H1 ⟨rfl, rfl⟩ hs
    have hd1 := Ok.crash hd.ok
    refine (Boot_tr (p := p) (d := { d with down := true, fuse := 0 }) hd1 hd.dom rfl A' n' m' ks hn' (own H0) (fun H h => hks.le h)).use hs [0, 1] rfl rfl ?_
    rintro _ _ H1 ⟨kk, hkk, rfl, rfl⟩ hs
    simp only [DI_int', DB_bool, DS_string, DP_pointer, DSl_slice, DM_map, DA_agg, DTup_tuple, DCons_cons, DNil_nil, NN_some, BIf_true, BIf_false, BIf_same, List.toList_toArray, Bool.not_true, Bool.not_false]
    refine BIf_bnen rfl ⟨13, ?_⟩
    have hb := Next.boot hd1 hd.dom hkk ks
    have hmem : ∀ k ∈ kk, (d.cache k).isSome = true := fun k hk => by
      have := (hkk.mem k).1 hk
      rw [strM_some] at this; exact this
    refine look_loop K hK (S := S) (S' := bootS d.cache d.safe kk ks) (C := C) h1 h2 (fun i => ?_) 12 0 c (D.boot { d with down := true, fuse := 0 } kk ks) H1 (by omega) (by omega) ⟨hb.ok, hb.dom, ⟨rfl, rfl⟩, hd.sec, hd.size, rfl, rfl, hd.rd, hd.wr, hd.sy⟩ (hs.re [1, 0, 2, 3] rfl)
    rcases bootS_or kk ks d.safe hmem i with e | ⟨e1, e2⟩
    · left; unfold satS; rw [e, hd.safe]
    · right
      unfold satS nowS
      rw [e2, hd.cache] at *
      cases hci : C i with
      | none => rw [hci] at e1; cases e1
      | some x => rfl
  | succ t ih =>
    intro j c C d c2 H hj hcj hd h2 hs
    have hjl : j < l.length := by omega
    have hOK := hall (l[j]'hjl) (List.getElem_mem _)
    unfold W_abacistlaw15_DiskSafe.l27
    refine BIf_dpos (by omega) ?_
    have hrow : (l.map actRow)[j]? = some (actRow (l[j]'hjl)) := by rw [List.getElem?_map, List.getElem?_eq_getElem hjl]; rfl
    refine CellsS.rdA (hc.le (hs.ow 0 rfl)) hrow rfl rfl (by rw [List.length_map]; omega) ?_
    refine hs.nw fun b3 H1 hs => ?_
    refine hs.stw 4 rfl rfl rfl rfl fun H1 hs => ?_
    have hs : Sep [own H0, Dk p d, arr b1 c1, arr b2 c2, pts b3 (.obj (.cells (actRow (l[j]'hjl)).toArray 86))] H1 := hs
    refine hs.ld 4 (v := .int .i64 (l[j]'hjl).k) rfl rfl ?_
    simp only [DI_int', DB_bool, DS_string, DP_pointer, DSl_slice, DM_map, DA_agg, DTup_tuple, DCons_cons, DNil_nil, NN_some, BIf_true, BIf_false, BIf_same, List.toList_toArray, Bool.not_true, Bool.not_false]
    have skip : ∀ (c' : Nat) (d' : D) (H' : Hp), c' ≤ c + 1 → On12 S C c' d' → Sep [own H0, Dk p d', arr b1 c1, arr b2 c2] H' → W_abacistlaw15_DiskSafe.l27 K (t + 1) A n m A' n' m' (some ⟨p, 0, none⟩) ⟨b1, 0, none⟩ ⟨b2, 0, none⟩ (IntKind.i64.wrap ((j : Int) + 1)) H' := fun c' d' H' hc' hd' hs' => by
      rw [i64w (x := (j : Int) + 1) (by omega) (by omega)]
      exact ih (j + 1) c' C d' c2 H' (by omega) (by omega) hd' h2 hs'
    by_cases hk2 : (l[j]'hjl).k > 2
    · exact BIf_dpos hk2 (skip c d H1 (by omega) hd (hs.re [0, 1, 2, 3] rfl))
    refine BIf_dneg hk2 ?_
    refine hs.ldw 4 rfl rfl ?_
    have hrd := hd.rd
    have hwr := hd.wr
    have hsy := hd.sy
    refine (run_tr (p := p) (d := d) hd.ok hd.dom hd.size ⟨by omega, by omega, by omega⟩ (l[j]'hjl) (own H0) (fun H h => hOK.le h) hOK.i.2 hOK.n hOK.n').use hs [1, 0] rfl rfl ?_
    rintro _ _ H3 ⟨e, s, d', rfl, rfl, hnx, hef⟩ hs
    simp only [DI_int', DB_bool, DS_string, DP_pointer, DSl_slice, DM_map, DA_agg, DTup_tuple, DCons_cons, DNil_nil, NN_some, BIf_true, BIf_false, BIf_same, List.toList_toArray, Bool.not_true, Bool.not_false]
    have hs : Sep [Dk p d', own H0, arr b1 c1, arr b2 c2, pts b3 (.obj (.cells (actRow (l[j]'hjl)).toArray 86))] H3 := hs
    obtain ⟨C', hd', hyes, hno⟩ := hd.next hnx hef (by omega)
    have skip2 : ¬ (0 ≤ (l[j]'hjl).k ∧ (l[j]'hjl).k ≤ 1 ∧ e = 0) → W_abacistlaw15_DiskSafe.l27 K (t + 1) A n m A' n' m' (some ⟨p, 0, none⟩) ⟨b1, 0, none⟩ ⟨b2, 0, none⟩ (IntKind.i64.wrap ((j : Int) + 1)) H3 := fun hh => by
      have e := hno hh
      subst e
      exact skip (c + 1) d' H3 (Nat.le_refl _) hd' (hs.re [1, 0, 2, 3] rfl)
    by_cases he0 : e = 0
    · refine BIf_beqp he0 (hs.ld 4 (v := .int .i64 (l[j]'hjl).k) rfl rfl ?_)
      simp only [DI_int', DB_bool, DS_string, DP_pointer, DSl_slice, DM_map, DA_agg, DTup_tuple, DCons_cons, DNil_nil, NN_some, BIf_true, BIf_false, BIf_same, List.toList_toArray, Bool.not_true, Bool.not_false]
      by_cases hk1 : (l[j]'hjl).k ≤ 1
      · refine BIf_dpos hk1 (hs.ld 4 (v := .int .i64 (l[j]'hjl).k) rfl rfl ?_)
        simp only [DI_int', DB_bool, DS_string, DP_pointer, DSl_slice, DM_map, DA_agg, DTup_tuple, DCons_cons, DNil_nil, NN_some, BIf_true, BIf_false, BIf_same, List.toList_toArray, Bool.not_true, Bool.not_false]
        by_cases hk0 : (l[j]'hjl).k ≥ 0
        · obtain ⟨⟨hi0, hi12⟩, hC⟩ := hyes ⟨hk0, hk1, he0⟩
          subst hC
          obtain ⟨ji, hjI⟩ := Int.eq_ofNat_of_zero_le hi0
          have goW : ∀ H5, Sep [own H0, Dk p d', arr b1 c1, pts b2 (.obj (.cells (c2.setIfInBounds ji (.string ⟨(laidB (l[j]'hjl).b).toArray⟩)) 90))] H5 → W_abacistlaw15_DiskSafe.l27 K (t + 1) A n m A' n' m' (some ⟨p, 0, none⟩) ⟨b1, 0, none⟩ ⟨b2, 0, none⟩ (IntKind.i64.wrap ((j : Int) + 1)) H5 := fun H5 hs5 => by
            rw [i64w (x := (j : Int) + 1) (by omega) (by omega)]
            refine ih (j + 1) (c + 1) (updB C (l[j]'hjl).i (laidB (l[j]'hjl).b)) d' (c2.setIfInBounds ji (strV (laidB (l[j]'hjl).b))) H5 (by omega) (by omega) hd' (h2.upd ji (by omega) _ fun i => ?_) hs5
            rw [nowS_upd, hjI]
            by_cases e : i = ji
            · rw [if_pos e, if_pos (by omega)]
            · rw [if_neg e, if_neg (by omega)]
          refine BIf_dpos hk0 (hs.ld 4 (v := .int .i64 (l[j]'hjl).i) rfl rfl ?_)
          simp only [DI_int', DB_bool, DS_string, DP_pointer, DSl_slice, DM_map, DA_agg, DTup_tuple, DCons_cons, DNil_nil, NN_some, BIf_true, BIf_false, BIf_same, List.toList_toArray, Bool.not_true, Bool.not_false]
          refine BIf_dpos hi0 (hs.ld 4 (v := .int .i64 (l[j]'hjl).i) rfl rfl ?_)
          simp only [DI_int', DB_bool, DS_string, DP_pointer, DSl_slice, DM_map, DA_agg, DTup_tuple, DCons_cons, DNil_nil, NN_some, BIf_true, BIf_false, BIf_same, List.toList_toArray, Bool.not_true, Bool.not_false]
          refine BIf_dpos hi12 ⟨?_, ?_⟩
          · refine hs.ld 4 (v := .int .i64 (l[j]'hjl).i) rfl rfl ?_
            simp only [DI_int', DB_bool, DS_string, DP_pointer, DSl_slice, DM_map, DA_agg, DTup_tuple, DCons_cons, DNil_nil, NN_some, BIf_true, BIf_false, BIf_same, List.toList_toArray, Bool.not_true, Bool.not_false]
            refine hs.ld 4 (v := .slice (l[j]'hjl).A (l[j]'hjl).n (l[j]'hjl).m) rfl rfl ?_
            simp only [DI_int', DB_bool, DS_string, DP_pointer, DSl_slice, DM_map, DA_agg, DTup_tuple, DCons_cons, DNil_nil, NN_some, BIf_true, BIf_false, BIf_same, List.toList_toArray, Bool.not_true, Bool.not_false]
            refine (laid_tr (l[j]'hjl).A (l[j]'hjl).n (l[j]'hjl).m (l[j]'hjl).b hOK.n (own H0) (fun H h => (hOK.le h).b)).use hs [1] rfl rfl ?_
            rintro _ _ H4 ⟨b, rfl, rfl⟩ hs
            simp only [DI_int', DB_bool, DS_string, DP_pointer, DSl_slice, DM_map, DA_agg, DTup_tuple, DCons_cons, DNil_nil, NN_some, BIf_true, BIf_false, BIf_same, List.toList_toArray, Bool.not_true, Bool.not_false]
            have hs : Sep [own H0, pts b (.row (byteVals (laidB (l[j]'hjl).b)) 5 32), arr b1 c1, arr b2 c2, Dk p d', pts b3 (.obj (.cells (actRow (l[j]'hjl)).toArray 86))] H4 := hs.re [0, 1, 3, 4, 2, 5] rfl
            have hcell : Cells H4 (some ⟨b, 0, none⟩) (byteVals (laidB (l[j]'hjl).b)) := by
              have := Cells.row (hs.get 1 (b := b) (o := .row (byteVals (laidB (l[j]'hjl).b)) 5 32) rfl) 0 32
              rw [List.drop_zero, List.take_of_length_le (by rw [byteVals_length, laidB_len]; omega)] at this
              exact this
            have hs : Sep [own H0, pts b (.row (byteVals (laidB (l[j]'hjl).b)) 5 32), arr b1 c1, pts b2 (.obj (.cells c2 90)), Dk p d', pts b3 (.obj (.cells (actRow (l[j]'hjl)).toArray 86))] H4 := hs
            refine BsK_of hcell (laidB_len _).symm ?_
            refine ⟨by omega, by omega, ?_⟩
            rw [hjI, ad]
            try simp only [NN_some, Addr.add_lit', Addr.add_zero, Nat.zero_add, Nat.add_zero]
            refine hs.st 3 (b := b2) (j := ji) rfl (by rw [h2.size]; omega) rfl fun H5 hs => ?_
            exact goW H5 (hs.re [0, 4, 2, 3] rfl)
          · refine hs.ld 4 (v := .slice (l[j]'hjl).A (l[j]'hjl).n (l[j]'hjl).m) rfl rfl ?_
            simp only [DI_int', DB_bool, DS_string, DP_pointer, DSl_slice, DM_map, DA_agg, DTup_tuple, DCons_cons, DNil_nil, NN_some, BIf_true, BIf_false, BIf_same, List.toList_toArray, Bool.not_true, Bool.not_false]
            refine ⟨?_, ?_⟩
            · refine hs.ld 4 (v := .int .i64 (l[j]'hjl).i) rfl rfl ?_
              simp only [DI_int', DB_bool, DS_string, DP_pointer, DSl_slice, DM_map, DA_agg, DTup_tuple, DCons_cons, DNil_nil, NN_some, BIf_true, BIf_false, BIf_same, List.toList_toArray, Bool.not_true, Bool.not_false]
              refine (laid_tr (l[j]'hjl).A (l[j]'hjl).n (l[j]'hjl).m (l[j]'hjl).b hOK.n (own H0) (fun H h => (hOK.le h).b)).use hs [1] rfl rfl ?_
              rintro _ _ H4 ⟨b, rfl, rfl⟩ hs
              simp only [DI_int', DB_bool, DS_string, DP_pointer, DSl_slice, DM_map, DA_agg, DTup_tuple, DCons_cons, DNil_nil, NN_some, BIf_true, BIf_false, BIf_same, List.toList_toArray, Bool.not_true, Bool.not_false]
              have hs : Sep [own H0, pts b (.row (byteVals (laidB (l[j]'hjl).b)) 5 32), arr b1 c1, arr b2 c2, Dk p d', pts b3 (.obj (.cells (actRow (l[j]'hjl)).toArray 86))] H4 := hs.re [0, 1, 3, 4, 2, 5] rfl
              have hcell : Cells H4 (some ⟨b, 0, none⟩) (byteVals (laidB (l[j]'hjl).b)) := by
                have := Cells.row (hs.get 1 (b := b) (o := .row (byteVals (laidB (l[j]'hjl).b)) 5 32) rfl) 0 32
                rw [List.drop_zero, List.take_of_length_le (by rw [byteVals_length, laidB_len]; omega)] at this
                exact this
              have hs : Sep [own H0, pts b (.row (byteVals (laidB (l[j]'hjl).b)) 5 32), arr b1 c1, pts b2 (.obj (.cells c2 90)), Dk p d', pts b3 (.obj (.cells (actRow (l[j]'hjl)).toArray 86))] H4 := hs
              refine BsK_of hcell (laidB_len _).symm ?_
              refine ⟨by omega, by omega, ?_⟩
              rw [hjI, ad]
              try simp only [NN_some, Addr.add_lit', Addr.add_zero, Nat.zero_add, Nat.add_zero]
              refine hs.st 3 (b := b2) (j := ji) rfl (by rw [h2.size]; omega) rfl fun H5 hs => ?_
              exact goW H5 (hs.re [0, 4, 2, 3] rfl)
            · refine (laid_tr (l[j]'hjl).A (l[j]'hjl).n (l[j]'hjl).m (l[j]'hjl).b hOK.n (own H0) (fun H h => (hOK.le h).b)).use hs [1] rfl rfl ?_
              rintro _ _ H4 ⟨b, rfl, rfl⟩ hs
              simp only [DI_int', DB_bool, DS_string, DP_pointer, DSl_slice, DM_map, DA_agg, DTup_tuple, DCons_cons, DNil_nil, NN_some, BIf_true, BIf_false, BIf_same, List.toList_toArray, Bool.not_true, Bool.not_false]
              have hs : Sep [own H0, pts b (.row (byteVals (laidB (l[j]'hjl).b)) 5 32), arr b1 c1, arr b2 c2, Dk p d', pts b3 (.obj (.cells (actRow (l[j]'hjl)).toArray 86))] H4 := hs.re [0, 1, 3, 4, 2, 5] rfl
              have hcell : Cells H4 (some ⟨b, 0, none⟩) (byteVals (laidB (l[j]'hjl).b)) := by
                have := Cells.row (hs.get 1 (b := b) (o := .row (byteVals (laidB (l[j]'hjl).b)) 5 32) rfl) 0 32
                rw [List.drop_zero, List.take_of_length_le (by rw [byteVals_length, laidB_len]; omega)] at this
                exact this
              have hs : Sep [own H0, pts b (.row (byteVals (laidB (l[j]'hjl).b)) 5 32), arr b1 c1, pts b2 (.obj (.cells c2 90)), Dk p d', pts b3 (.obj (.cells (actRow (l[j]'hjl)).toArray 86))] H4 := hs
              refine ⟨?_, ?_⟩
              · refine hs.ld 5 (v := .int .i64 (l[j]'hjl).i) rfl rfl ?_
                simp only [DI_int', DB_bool, DS_string, DP_pointer, DSl_slice, DM_map, DA_agg, DTup_tuple, DCons_cons, DNil_nil, NN_some, BIf_true, BIf_false, BIf_same, List.toList_toArray, Bool.not_true, Bool.not_false]
                refine BsK_of hcell (laidB_len _).symm ?_
                refine ⟨by omega, by omega, ?_⟩
                rw [hjI, ad]
                try simp only [NN_some, Addr.add_lit', Addr.add_zero, Nat.zero_add, Nat.add_zero]
                refine hs.st 3 (b := b2) (j := ji) rfl (by rw [h2.size]; omega) rfl fun H5 hs => ?_
                exact goW H5 (hs.re [0, 4, 2, 3] rfl)
              · refine BsK_of hcell (laidB_len _).symm ?_
                refine hs.ld 5 (v := .int .i64 (l[j]'hjl).i) rfl rfl ?_
                simp only [DI_int', DB_bool, DS_string, DP_pointer, DSl_slice, DM_map, DA_agg, DTup_tuple, DCons_cons, DNil_nil, NN_some, BIf_true, BIf_false, BIf_same, List.toList_toArray, Bool.not_true, Bool.not_false]
                refine ⟨by omega, by omega, ?_⟩
                rw [hjI, ad]
                try simp only [NN_some, Addr.add_lit', Addr.add_zero, Nat.zero_add, Nat.add_zero]
                refine hs.st 3 (b := b2) (j := ji) rfl (by rw [h2.size]; omega) rfl fun H5 hs => ?_
                exact goW H5 (hs.re [0, 4, 2, 3] rfl)
        · exact BIf_dneg hk0 (skip2 (by omega))
      · exact BIf_dneg hk1 (skip2 (by omega))
    · exact BIf_beqn he0 (skip2 (by omega))

end Go.Proofs.Ytgkdkemhiglpdaa.Dsk
