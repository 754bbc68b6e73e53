/- The law ArenaCounts. -/
import Derived.Test.YtdjdielefolfbaaAreT
import Derived.Test.YtdjdielefolfbaaHwQ
set_option linter.unusedSimpArgs false
set_option linter.unusedVariables false
set_option linter.unnecessarySimpa false
set_option linter.unusedSectionVars false
set_option maxRecDepth 10000
namespace Go.Proofs.Ytdjdielefolfbaa.Are
open Go Go.Hw Go.Proofs.Ytdjdielefolfbaa.W

def ptrs (l : List (Nat × Nat × Option Addr)) : List Value := l.map fun y => .pointer (some ⟨y.1, 0, none⟩)
def szs (l : List (Nat × Nat × Option Addr)) : List Value := l.map fun y => .int .i64 (y.2.1 : Int)

theorem ptrs_len (l : List (Nat × Nat × Option Addr)) : (ptrs l).length = l.length := by simp [ptrs]
theorem szs_len (l : List (Nat × Nat × Option Addr)) : (szs l).length = l.length := by simp [szs]
theorem ptrs_get {l : List (Nat × Nat × Option Addr)} {i : Nat} {y : Nat × Nat × Option Addr} (h : l[i]? = some y) : (ptrs l)[i]? = some (.pointer (some ⟨y.1, 0, none⟩)) := by simp [ptrs, h]
theorem szs_get {l : List (Nat × Nat × Option Addr)} {i : Nat} {y : Nat × Nat × Option Addr} (h : l[i]? = some y) : (szs l)[i]? = some (.int .i64 (y.2.1 : Int)) := by simp [szs, h]
theorem ptrs_gave (g : Nat → Bool) (l : List (Nat × Nat × Option Addr)) : ptrs (gaveB g l) = ptrs l := by
  unfold ptrs gaveB
  rw [List.map_map]
  apply List.map_congr_left
  intro y _
  simp only [Function.comp]
  split <;> rfl
theorem cell_int : cellInfo Try.prog 3 = some (1, 8, some #[.int .i64 0]) := by kernel_rfl

theorem le_sumB : ∀ {l : List (Nat × Nat × Option Addr)} {y : Nat × Nat × Option Addr}, y ∈ l → (y.2.1 : Int) ≤ sumB l
  | [], _, h => by simp at h
  | z :: l, y, h => by
    rw [sumB_cons]
    have h0 : 0 ≤ sumB l := by
      clear h
      induction l with
      | nil => exact Int.le_refl _
      | cons z l ih => rw [sumB_cons]; omega
    rcases List.mem_cons.1 h with rfl | h
    · omega
    · have := le_sumB h; omega

/-- What stands ahead of each act. -/
def St (H0 : Hp) (a : Nat) (w peak : Int) (bufs : List (Nat × Nat × Option Addr)) (A4 : Option Addr) (n4 m4 : Nat) (A5 : Option Addr) (n5 m5 : Nat) : List As :=
  [own H0, Ar a w peak bufs, Own 32 1 A4 n4 m4 (ptrs bufs), Own 3 1 A5 n5 m5 (szs bufs)]

section
variable {K : Value → Hp → Prop} {H0 : Hp} {a : Nat} {w : Int} (hw : 1 ≤ w ∧ w ≤ 40000) {A3 : Option Addr} {n3 m3 : Nat}
variable {R14 : Int → Option Addr → Nat → Nat → Option Addr → Option Addr → Nat → Nat → Option Addr → Nat → Nat → Int → Int → Int → Hp → Prop} {i : Nat} (hi : i < 40)
include hw hi

/-- The look at all buffers, and at the meter. -/
theorem look_ok {peak : Int} {bufs : List (Nat × Nat × Option Addr)} {A4 A5 : Option Addr} {n4 m4 n5 m5 : Nat} (hb : bufs.length ≤ 40) {H : Hp} (hs : Sep (St H0 a w peak bufs A4 n4 m4 A5 n5 m5) H)
    (hR : R14 w A3 n3 m3 (some ⟨a, 0, none⟩) A4 n4 m4 A5 n5 m5 (sumB bufs) peak ((i + 1 : Nat) : Int) H) : ∀ d j : Nat, j + d = bufs.length →
    W_abacistlaw14_ArenaCounts.l57 K R14 (d + 1) w A3 n3 m3 (some ⟨a, 0, none⟩) A4 n4 m4 A5 n5 m5 (sumB bufs) peak (i : Int) (j : Int) H
  | 0, j, hj => by
    have h2 := hs.own 2 rfl
    have l2 := h2.len
    rw [ptrs_len] at l2
    have hn := Sep.arn hs 1 rfl
    unfold W_abacistlaw14_ArenaCounts.l57
    refine BIf_dneg (by omega) ?_
    simp only [NN_some, Addr.add_zero]
    refine QCall.use (used_s hs 1 rfl) ?_
    simp only [DI_int', DB_bool, DS_string, DP_pointer, DSl_slice, DM_map, DA_agg, DTup_tuple, DCons_cons, DNil_nil, NN_some, BIf_true, BIf_false, BIf_same, List.toList_toArray, Bool.not_true, Bool.not_false]
    refine BIf_neg (by simp) ?_
    refine QCall.use (peak_s hs 1 rfl) ?_
    simp only [DI_int', DB_bool, DS_string, DP_pointer, DSl_slice, DM_map, DA_agg, DTup_tuple, DCons_cons, DNil_nil, NN_some, BIf_true, BIf_false, BIf_same, List.toList_toArray, Bool.not_true, Bool.not_false]
    refine BIf_neg (by simp) ?_
    refine QCall.use (free_s hs 1 rfl) ?_
    simp only [DI_int', DB_bool, DS_string, DP_pointer, DSl_slice, DM_map, DA_agg, DTup_tuple, DCons_cons, DNil_nil, NN_some, BIf_true, BIf_false, BIf_same, List.toList_toArray, Bool.not_true, Bool.not_false]
    rw [i64w (x := w - sumB bufs) (by omega) (by omega)]
    refine BIf_neg (by simp) ?_
    refine QCall.use (used_s hs 1 rfl) ?_
    simp only [DI_int', DB_bool, DS_string, DP_pointer, DSl_slice, DM_map, DA_agg, DTup_tuple, DCons_cons, DNil_nil, NN_some, BIf_true, BIf_false, BIf_same, List.toList_toArray, Bool.not_true, Bool.not_false]
    refine QCall.use (cap_s hs 1 rfl) ?_
    simp only [DI_int', DB_bool, DS_string, DP_pointer, DSl_slice, DM_map, DA_agg, DTup_tuple, DCons_cons, DNil_nil, NN_some, BIf_true, BIf_false, BIf_same, List.toList_toArray, Bool.not_true, Bool.not_false]
    refine BIf_dneg (by omega) ?_
    rw [i64w (x := (i : Int) + 1) (by omega) (by omega)]
    exact hR
  | d + 1, j, hj => by
    have h2 := hs.own 2 rfl
    have l2 := h2.len
    have h3 := hs.own 3 rfl
    have l3 := h3.len
    rw [ptrs_len] at l2
    rw [szs_len] at l3
    have hlt : j < bufs.length := by omega
    have hy : bufs[j]? = some bufs[j] := List.getElem?_eq_getElem hlt
    have hm : bufs[j] ∈ bufs := List.getElem_mem hlt
    unfold W_abacistlaw14_ArenaCounts.l57
    refine BIf_dpos (by omega) ?_
    refine h2.rd1 rfl (ptrs_get hy) ?_
    simp only [DI_int', DB_bool, DS_string, DP_pointer, DSl_slice, DM_map, DA_agg, DTup_tuple, DCons_cons, DNil_nil, NN_some, BIf_true, BIf_false, BIf_same, List.toList_toArray, Bool.not_true, Bool.not_false]
    refine QCall.use (Len_s hs 1 rfl hm) ?_
    simp only [DI_int', DB_bool, DS_string, DP_pointer, DSl_slice, DM_map, DA_agg, DTup_tuple, DCons_cons, DNil_nil, NN_some, BIf_true, BIf_false, BIf_same, List.toList_toArray, Bool.not_true, Bool.not_false]
    refine h3.rd1 rfl (szs_get hy) ?_
    simp only [DI_int', DB_bool, DS_string, DP_pointer, DSl_slice, DM_map, DA_agg, DTup_tuple, DCons_cons, DNil_nil, NN_some, BIf_true, BIf_false, BIf_same, List.toList_toArray, Bool.not_true, Bool.not_false]
    refine BIf_neg (by simp) ?_
    refine h2.rd1 rfl (ptrs_get hy) ?_
    simp only [DI_int', DB_bool, DS_string, DP_pointer, DSl_slice, DM_map, DA_agg, DTup_tuple, DCons_cons, DNil_nil, NN_some, BIf_true, BIf_false, BIf_same, List.toList_toArray, Bool.not_true, Bool.not_false]
    refine QCall.use (Words_s hs 1 rfl hm) ?_
    simp only [DI_int', DB_bool, DS_string, DP_pointer, DSl_slice, DM_map, DA_agg, DTup_tuple, DCons_cons, DNil_nil, NN_some, BIf_true, BIf_false, BIf_same, List.toList_toArray, Bool.not_true, Bool.not_false]
    refine h3.rd1 rfl (szs_get hy) ?_
    simp only [DI_int', DB_bool, DS_string, DP_pointer, DSl_slice, DM_map, DA_agg, DTup_tuple, DCons_cons, DNil_nil, NN_some, BIf_true, BIf_false, BIf_same, List.toList_toArray, Bool.not_true, Bool.not_false]
    refine BIf_neg (by simp) ?_
    rw [i64w (x := (j : Int) + 1) (by omega) (by omega)]
    exact look_ok hb hs hR d (j + 1) (by omega)

theorem j56_ok {peak : Int} {bufs : List (Nat × Nat × Option Addr)} {A4 A5 : Option Addr} {n4 m4 n5 m5 : Nat} (hb : bufs.length ≤ 40) {H : Hp} (hs : Sep (St H0 a w peak bufs A4 n4 m4 A5 n5 m5) H)
    (hR : R14 w A3 n3 m3 (some ⟨a, 0, none⟩) A4 n4 m4 A5 n5 m5 (sumB bufs) peak ((i + 1 : Nat) : Int) H) :
    W_abacistlaw14_ArenaCounts.j56 K R14 w A3 n3 m3 (some ⟨a, 0, none⟩) A4 n4 m4 A5 n5 m5 (sumB bufs) peak (i : Int) H :=
  ⟨bufs.length + 1, look_ok hw hi hb hs hR bufs.length 0 (by omega)⟩

/-- What goes on behind an act. -/
def Goes (H0 : Hp) (a : Nat) (w : Int) (A3 : Option Addr) (n3 m3 : Nat) (R14 : Int → Option Addr → Nat → Nat → Option Addr → Option Addr → Nat → Nat → Option Addr → Nat → Nat → Int → Int → Int → Hp → Prop) (i : Nat) : Prop :=
  ∀ (peak : Int) (bufs : List (Nat × Nat × Option Addr)) (A4 A5 : Option Addr) (n4 m4 n5 m5 : Nat) (H : Hp), bufs.length ≤ i + 1 → Sep (St H0 a w peak bufs A4 n4 m4 A5 n5 m5) H →
    R14 w A3 n3 m3 (some ⟨a, 0, none⟩) A4 n4 m4 A5 n5 m5 (sumB bufs) peak ((i + 1 : Nat) : Int) H

variable (hR : Goes H0 a w A3 n3 m3 R14 i) {peak : Int} {bufs : List (Nat × Nat × Option Addr)} {A4 A5 : Option Addr} {n4 m4 n5 m5 : Nat} (hb : bufs.length ≤ i) {H : Hp}
include hR hb

theorem idle_ok (hs : Sep (St H0 a w peak bufs A4 n4 m4 A5 n5 m5) H) : W_abacistlaw14_ArenaCounts.j56 K R14 w A3 n3 m3 (some ⟨a, 0, none⟩) A4 n4 m4 A5 n5 m5 (sumB bufs) peak (i : Int) H :=
  j56_ok hw hi (by omega) hs (hR _ _ _ _ _ _ _ _ _ (by omega) hs)

/-- Take. -/
theorem take_ok (hs : Sep (St H0 a w peak bufs A4 n4 m4 A5 n5 m5) H) (x : Int) (hx : -9223372036854775808 ≤ x ∧ x ≤ 9223372036854775807) :
    HCalls Try.prog 17 #[.pointer (some ⟨a, 0, none⟩), .int .i64 x] H fun v6 H4 => DTup v6 fun l1 => DCons l1 fun v7 l2 => DP v7 fun p3 => DCons l2 fun v8 l3 => DI .i64 v8 fun x10 => DNil l3
      (W_abacistlaw14_ArenaCounts.j22 K R14 w A3 n3 m3 (some ⟨a, 0, none⟩) A4 n4 m4 A5 n5 m5 (sumB bufs) peak (i : Int) x p3 x10 H4) := by
  have hn := Sep.arn hs 1 rfl
  obtain ⟨mp, cl, tk, hA⟩ := Sep.ar hs 1 rfl
  by_cases h1 : x < 1
  · refine HCalls.use (Take_arg H a x h1) ?_
    try simp only [DI_int', DB_bool, DS_string, DP_pointer, DSl_slice, DM_map, DA_agg, DTup_tuple, DCons_cons, DNil_nil, NN_some, BIf_true, BIf_false, BIf_same, List.toList_toArray, Bool.not_true, Bool.not_false]
    unfold W_abacistlaw14_ArenaCounts.j22
    refine BIf_dpos h1 ?_
    unfold W_abacistlaw14_ArenaCounts.j27
    refine BIf_neg (by simp) (BIf_neg (by simp) (BIf_neg (by simp) ?_))
    exact idle_ok hw hi hR hb hs
  · by_cases h2 : w - sumB bufs < x
    · refine HCalls.use (Take_full H a mp w (sumB bufs) peak x (by omega) (by omega) hA.ai.ha) ?_
      try simp only [DI_int', DB_bool, DS_string, DP_pointer, DSl_slice, DM_map, DA_agg, DTup_tuple, DCons_cons, DNil_nil, NN_some, BIf_true, BIf_false, BIf_same, List.toList_toArray, Bool.not_true, Bool.not_false]
      unfold W_abacistlaw14_ArenaCounts.j22
      rw [i64w (x := w - sumB bufs) (by omega) (by omega)]
      refine BIf_dneg h1 (BIf_dpos h2 ?_)
      unfold W_abacistlaw14_ArenaCounts.j27
      refine BIf_neg (by simp) (BIf_neg (by simp) (BIf_neg (by simp) ?_))
      exact idle_ok hw hi hR hb hs
    · obtain ⟨n, rfl⟩ := Int.eq_ofNat_of_zero_le (show 0 ≤ x by omega)
      refine (Take_tr (a := a) (cap := w) (peak := peak) (bufs := bufs) (n := n) (by omega) (by omega)).use hs [1] rfl rfl ?_
      rintro _ _ H ⟨b, rb, rfl, rfl⟩ hs
      have hs : Sep [Ar a w (if sumB bufs + n > peak then sumB bufs + n else peak) (bufs ++ [(b, n, some ⟨rb, 0, none⟩)]), pts rb (.row (zerosU64 n) 38 n), own H0, Own 32 1 A4 n4 m4 (ptrs bufs), Own 3 1 A5 n5 m5 (szs bufs)] H := hs
      simp only [DI_int', DB_bool, DS_string, DP_pointer, DSl_slice, DM_map, DA_agg, DTup_tuple, DCons_cons, DNil_nil, NN_some, BIf_true, BIf_false, BIf_same, List.toList_toArray, Bool.not_true, Bool.not_false]
      unfold W_abacistlaw14_ArenaCounts.j22
      rw [i64w (x := w - sumB bufs) (by omega) (by omega)]
      refine BIf_dneg h1 (BIf_dneg h2 ?_)
      unfold W_abacistlaw14_ArenaCounts.j27
      refine BIf_neg (by simp) (BIf_neg (by simp) (BIf_pos (by simp) ?_))
      refine HCalls.use (Len_s hs 0 rfl (List.mem_append_right _ (List.mem_singleton.2 rfl))) ?_
      try simp only [DI_int', DB_bool, DS_string, DP_pointer, DSl_slice, DM_map, DA_agg, DTup_tuple, DCons_cons, DNil_nil, NN_some, BIf_true, BIf_false, BIf_same, List.toList_toArray, Bool.not_true, Bool.not_false]
      refine BIf_neg (by simp) ?_
      refine HCalls.use (Words_s hs 0 rfl (List.mem_append_right _ (List.mem_singleton.2 rfl))) ?_
      try simp only [DI_int', DB_bool, DS_string, DP_pointer, DSl_slice, DM_map, DA_agg, DTup_tuple, DCons_cons, DNil_nil, NN_some, BIf_true, BIf_false, BIf_same, List.toList_toArray, Bool.not_true, Bool.not_false]
      refine BIf_neg (by simp) ?_
      have l3 := (hs.own 3 rfl).len
      have l4 := (hs.own 4 rfl).len
      rw [ptrs_len] at l3
      rw [szs_len] at l4
      refine hs.app1 3 (e := 32) (by rfl) cell_ptr (by omega) (by rfl) (by omega) (by omega) fun A' m' H hs => ?_
      simp only [DI_int', DB_bool, DS_string, DP_pointer, DSl_slice, DM_map, DA_agg, DTup_tuple, DCons_cons, DNil_nil, NN_some, BIf_true, BIf_false, BIf_same, List.toList_toArray, Bool.not_true, Bool.not_false]
      refine hs.app1 4 (e := 3) (by rfl) cell_int (by omega) (by rfl) (by omega) (by omega) fun A'' m'' H hs => ?_
      simp only [DI_int', DB_bool, DS_string, DP_pointer, DSl_slice, DM_map, DA_agg, DTup_tuple, DCons_cons, DNil_nil, NN_some, BIf_true, BIf_false, BIf_same, List.toList_toArray, Bool.not_true, Bool.not_false]
      have hs := hs.re [2, 0, 3, 4] rfl
      have e1 : sumB (bufs ++ [(b, n, some ⟨rb, 0, none⟩)]) = sumB bufs + n := by rw [sumB_append]; simp [sumB]
      have e2 : ptrs bufs ++ [.pointer (some ⟨b, 0, none⟩)] = ptrs (bufs ++ [(b, n, some ⟨rb, 0, none⟩)]) := by simp [ptrs]
      have e3 : szs bufs ++ [.int .i64 (n : Int)] = szs (bufs ++ [(b, n, some ⟨rb, 0, none⟩)]) := by simp [szs]
      rw [i64w (x := sumB bufs + n) (by omega) (by omega), ← e1]
      rw [← e1] at hs
      have hs : Sep (St H0 a w (if sumB (bufs ++ [(b, n, some ⟨rb, 0, none⟩)]) > peak then sumB (bufs ++ [(b, n, some ⟨rb, 0, none⟩)]) else peak) (bufs ++ [(b, n, some ⟨rb, 0, none⟩)]) A' (n4 + 1) m' A'' (n5 + 1) m'') H := by
        unfold St
        rw [← e2, ← e3]
        exact hs
      exact j56_ok hw hi (by simp; omega) hs (hR _ _ _ _ _ _ _ _ _ (by simp; omega) hs)


omit hR hb hw hi in
theorem gave_sz (bs : List (Nat × Nat × Option Addr)) : ∀ (j : Nat) (hj : j < bs.length), (bs.map (·.1)).Nodup → szs (gaveB (fun q => decide (q = bs[j].1)) bs) = (szs bs).set j (.int .i64 0) ∧ sumB (gaveB (fun q => decide (q = bs[j].1)) bs) = sumB bs - bs[j].2.1 := by
  induction bs with
  | nil => intro j hj; simp at hj
  | cons y l ih =>
    intro j hj hn
    simp only [List.map_cons, List.nodup_cons] at hn
    cases j with
    | zero =>
      have hl : gaveB (fun q => decide (q = y.1)) l = l := by
        unfold gaveB
        refine (List.map_congr_left (g := id) fun z hz => ?_).trans (List.map_id _)
        have : z.1 ≠ y.1 := fun e => hn.1 (by rw [← e]; exact List.mem_map_of_mem hz)
        simp [this]
      have e : gaveB (fun q => decide (q = y.1)) (y :: l) = (y.1, 0, none) :: l := by
        have : gaveB (fun q => decide (q = y.1)) (y :: l) = (y.1, 0, none) :: gaveB (fun q => decide (q = y.1)) l := by
          unfold gaveB; simp
        rw [this, hl]
      simp only [List.getElem_cons_zero]
      rw [e, sumB_cons, sumB_cons]
      refine ⟨by simp [szs], ?_⟩
      show (0 : Int) + sumB l = _
      omega
    | succ j =>
      simp only [List.length_cons] at hj
      have hlt : j < l.length := by omega
      obtain ⟨h1, h2⟩ := ih j hlt hn.2
      have hne : y.1 ≠ l[j].1 := fun e => hn.1 (by rw [e]; exact List.mem_map_of_mem (List.getElem_mem hlt))
      have e : gaveB (fun q => decide (q = l[j].1)) (y :: l) = y :: gaveB (fun q => decide (q = l[j].1)) l := by
        unfold gaveB; simp [hne]
      simp only [List.getElem_cons_succ]
      rw [e, sumB_cons, sumB_cons, h2]
      refine ⟨?_, by omega⟩
      have : szs (y :: gaveB (fun q => decide (q = l[j].1)) l) = .int .i64 (y.2.1 : Int) :: szs (gaveB (fun q => decide (q = l[j].1)) l) := rfl
      rw [this, h1]; rfl

/-- Give of one, none, and the same one. -/
theorem give_ok (hs : Sep (St H0 a w peak bufs A4 n4 m4 A5 n5 m5) H) (x : Int) (h0 : 0 ≤ x) (hx : x < n4) :
    ixI x n4 (NN A4 fun a4 => Ld H (a4.add (x.toNat * 1)) fun v19 => DP v19 fun p10 => ixI x n4 (NN A4 fun a7 => Ld H (a7.add (x.toNat * 1)) fun v22 => DP v22 fun p13 => Nw H (.row [.pointer p10, .pointer none, .pointer p13] 32 3) fun b3 H13 =>
      HCalls Try.prog 31 #[.pointer (some ⟨a, 0, none⟩), .slice (some ⟨b3, 0, none⟩) 3 3] H13 fun v25 H16 => W_abacistlaw14_ArenaCounts.j39 K R14 w A3 n3 m3 (some ⟨a, 0, none⟩) A4 n4 m4 A5 n5 m5 (sumB bufs) peak (i : Int) x H16)) := by
  obtain ⟨j, rfl⟩ := Int.eq_ofNat_of_zero_le h0
  have hn := Sep.arn hs 1 rfl
  have h2 := hs.own 2 rfl
  have l2 := h2.len
  have l3 := (hs.own 3 rfl).len
  rw [ptrs_len] at l2
  rw [szs_len] at l3
  have hlt : j < bufs.length := by omega
  have hy : bufs[j]? = some bufs[j] := List.getElem?_eq_getElem hlt
  have hm : bufs[j] ∈ bufs := List.getElem_mem hlt
  have hle := le_sumB hm
  obtain ⟨mp, cl, tk, hA⟩ := Sep.ar hs 1 rfl
  refine h2.rd1 rfl (ptrs_get hy) ?_
  simp only [DI_int', DB_bool, DS_string, DP_pointer, DSl_slice, DM_map, DA_agg, DTup_tuple, DCons_cons, DNil_nil, NN_some, BIf_true, BIf_false, BIf_same, List.toList_toArray, Bool.not_true, Bool.not_false]
  refine h2.rd1 rfl (ptrs_get hy) ?_
  simp only [DI_int', DB_bool, DS_string, DP_pointer, DSl_slice, DM_map, DA_agg, DTup_tuple, DCons_cons, DNil_nil, NN_some, BIf_true, BIf_false, BIf_same, List.toList_toArray, Bool.not_true, Bool.not_false]
  refine hs.nw fun b3 H hs => ?_
  refine (Give_tr (a := a) (cap := w) (peak := peak) (bufs := bufs) b3 3 3 3 _ [some bufs[j].1, none, some bufs[j].1] rfl (by omega) rfl (fun b hb => ?_)).use hs [1, 4] rfl rfl ?_
  · simp at hb
    rw [hb]; exact ⟨_, _, hm⟩
  rintro _ _ H ⟨rfl, rfl⟩ hs
  have eg : (fun q => decide (some q ∈ [some bufs[j].1, none, some bufs[j].1])) = fun q => decide (q = bufs[j].1) := by
    funext q; simp
  rw [eg] at hs
  have hs : Sep [own H0, Ar a w peak (gaveB (fun q => decide (q = bufs[j].1)) bufs), Own 32 1 A4 n4 m4 (ptrs bufs), Own 3 1 A5 n5 m5 (szs bufs)] H := hs.re [2, 0, 3, 4] rfl
  obtain ⟨e1, e2⟩ := gave_sz bufs j hlt hA.bn
  unfold W_abacistlaw14_ArenaCounts.j39
  refine (hs.own 3 rfl).rd1 rfl (szs_get hy) ?_
  simp only [DI_int', DB_bool, DS_string, DP_pointer, DSl_slice, DM_map, DA_agg, DTup_tuple, DCons_cons, DNil_nil, NN_some, BIf_true, BIf_false, BIf_same, List.toList_toArray, Bool.not_true, Bool.not_false]
  refine hs.wr1 3 rfl rfl (by omega) (by rfl) fun H hs => ?_
  have hs : Sep (St H0 a w peak (gaveB (fun q => decide (q = bufs[j].1)) bufs) A4 n4 m4 A5 n5 m5) H := by
    unfold St
    rw [ptrs_gave, e1]
    exact hs
  rw [i64w (x := sumB bufs - bufs[j].2.1) (by omega) (by omega), ← e2]
  exact idle_ok hw hi hR (by unfold gaveB; rw [List.length_map]; omega) hs

def zs (l : List (Nat × Nat × Option Addr)) (j : Nat) : List Value := List.replicate j (.int .i64 0) ++ (szs l).drop j
omit hR hb hw hi in
theorem zs_set (l : List (Nat × Nat × Option Addr)) (j : Nat) (hj : j < l.length) : (zs l j).set j (.int .i64 0) = zs l (j + 1) := by
  unfold zs
  rw [List.set_append_right _ _ (by simp)]
  simp only [List.length_replicate, Nat.sub_self]
  rw [List.drop_eq_getElem_cons (i := j) (by rw [szs_len]; exact hj), List.set_cons_zero, List.replicate_succ']
  simp
omit hR hb hw hi in
theorem zs_all (l : List (Nat × Nat × Option Addr)) : zs l l.length = szs (gaveB (fun _ => true) l) := by
  unfold zs
  rw [List.drop_eq_nil_of_le (by rw [szs_len]; exact Nat.le_refl _), List.append_nil]
  apply List.ext_getElem?
  intro k
  rw [List.getElem?_replicate]
  unfold szs gaveB
  rw [List.map_map, List.getElem?_map]
  by_cases h : k < l.length
  · simp [h, List.getElem?_eq_getElem h]
  · simp [h, List.getElem?_eq_none (Nat.le_of_not_lt h)]

theorem zero_ok (hn5 : n5 = bufs.length) : ∀ (d j : Nat) (H : Hp), j + d = n5 → Sep [own H0, Ar a w peak (gaveB (fun _ => true) bufs), Own 32 1 A4 n4 m4 (ptrs bufs), Own 3 1 A5 n5 m5 (zs bufs j)] H →
    W_abacistlaw14_ArenaCounts.l44 K R14 (d + 1) w A3 n3 m3 (some ⟨a, 0, none⟩) A4 n4 m4 A5 n5 m5 peak (i : Int) (j : Int) H
  | 0, j, H, hj, hs => by
    unfold W_abacistlaw14_ArenaCounts.l44
    refine BIf_dneg (by omega) ?_
    obtain rfl : j = n5 := by omega
    rw [hn5, zs_all, ← hn5] at hs
    have hs : Sep (St H0 a w peak (gaveB (fun _ => true) bufs) A4 n4 m4 A5 j m5) H := by
      unfold St
      rw [ptrs_gave]
      exact hs
    rw [← gaveB_all_sum bufs]
    exact idle_ok hw hi hR (by unfold gaveB; rw [List.length_map]; omega) hs
  | d + 1, j, H, hj, hs => by
    unfold W_abacistlaw14_ArenaCounts.l44
    refine BIf_dpos (by omega) ?_
    refine hs.wr1 3 rfl rfl (by omega) (by rfl) fun H hs => ?_
    rw [i64w (x := (j : Int) + 1) (by omega) (by omega)]
    refine zero_ok hn5 d (j + 1) H (by omega) ?_
    rw [← zs_set bufs j (by omega)]
    exact hs

theorem zero2_ok (hn5 : n5 = bufs.length) : ∀ (d j : Nat) (H : Hp), j + d = n5 → Sep [own H0, Ar a w 0 (gaveB (fun _ => true) bufs), Own 32 1 A4 n4 m4 (ptrs bufs), Own 3 1 A5 n5 m5 (zs bufs j)] H →
    W_abacistlaw14_ArenaCounts.l51 K R14 (d + 1) w A3 n3 m3 (some ⟨a, 0, none⟩) A4 n4 m4 A5 n5 m5 (i : Int) (j : Int) H
  | 0, j, H, hj, hs => by
    unfold W_abacistlaw14_ArenaCounts.l51
    refine BIf_dneg (by omega) ?_
    obtain rfl : j = n5 := by omega
    rw [hn5, zs_all, ← hn5] at hs
    have hs : Sep (St H0 a w 0 (gaveB (fun _ => true) bufs) A4 n4 m4 A5 j m5) H := by
      unfold St
      rw [ptrs_gave]
      exact hs
    have := idle_ok (K := K) (peak := 0) (bufs := gaveB (fun _ => true) bufs) hw hi hR (by unfold gaveB; rw [List.length_map]; omega) hs
    rw [gaveB_all_sum bufs] at this
    exact this
  | d + 1, j, H, hj, hs => by
    unfold W_abacistlaw14_ArenaCounts.l51
    refine BIf_dpos (by omega) ?_
    refine hs.wr1 3 rfl rfl (by omega) (by rfl) fun H hs => ?_
    rw [i64w (x := (j : Int) + 1) (by omega) (by omega)]
    refine zero2_ok hn5 d (j + 1) H (by omega) ?_
    rw [← zs_set bufs j (by omega)]
    exact hs

/-- Give of all. -/
theorem all_ok (hs : Sep (St H0 a w peak bufs A4 n4 m4 A5 n5 m5) H) :
    HCalls Try.prog 31 #[.pointer (some ⟨a, 0, none⟩), .slice A4 n4 m4] H fun v29 H20 => W_abacistlaw14_ArenaCounts.j43 K R14 w A3 n3 m3 (some ⟨a, 0, none⟩) A4 n4 m4 A5 n5 m5 peak (i : Int) H20 := by
  have h2 := hs.own 2 rfl
  have l2 := h2.len
  have l3 := (hs.own 3 rfl).len
  rw [ptrs_len] at l2
  rw [szs_len] at l3
  have go : ∀ H, Sep [own H0, Ar a w peak (gaveB (fun _ => true) bufs), Own 32 1 A4 n4 m4 (ptrs bufs), Own 3 1 A5 n5 m5 (szs bufs)] H → W_abacistlaw14_ArenaCounts.j43 K R14 w A3 n3 m3 (some ⟨a, 0, none⟩) A4 n4 m4 A5 n5 m5 peak (i : Int) H := fun H hs =>
    ⟨n5 + 1, zero_ok hw hi hR hb (by omega) n5 0 H (by omega) hs⟩
  rcases hs.unown 2 rfl with ⟨rfl, rfl, rfl, h4⟩ | ⟨b, mm, rfl, h5, _, hs1⟩
  · obtain rfl : bufs = [] := by cases bufs with | nil => rfl | cons y l => simp at l2
    exact HCalls.use (Give_none hs 1 rfl) (go H hs)
  · have hs1 : Sep [own H0, Ar a w peak bufs, pts b (.row (ptrs bufs) 32 mm), Own 3 1 A5 n5 m5 (szs bufs)] H := hs1
    · refine (Give_tr (a := a) (cap := w) (peak := peak) (bufs := bufs) b n4 m4 mm (ptrs bufs) (bufs.map fun y => some y.1) (by rw [List.length_map]; omega) (by omega) ?_ (fun q hq => ?_)).use hs1 [1, 2] rfl rfl ?_
      · rw [List.take_of_length_le (by rw [ptrs_len]; omega)]
        unfold ptrs optP ptrV; rw [List.map_map]; rfl
      · obtain ⟨y, hy, e⟩ := List.mem_map.1 hq
        cases e
        exact ⟨_, _, hy⟩
      rintro _ _ H ⟨rfl, rfl⟩ hs
      have eg : gaveB (fun q => decide (some q ∈ bufs.map fun y => some y.1)) bufs = gaveB (fun _ => true) bufs := by
        unfold gaveB
        apply List.map_congr_left
        intro y hy
        rw [if_pos (by simp; exact ⟨_, _, hy⟩), if_pos rfl]
      rw [eg] at hs
      have hs : Sep [own H0, Ar a w peak (gaveB (fun _ => true) bufs), pts b (.row (ptrs bufs) 32 mm), Own 3 1 A5 n5 m5 (szs bufs)] H := hs.re [2, 0, 1, 3] rfl
      exact go H (hs.turn 2 rfl fun H1 h1 => ⟨by rw [ptrs_len]; omega, .inr ⟨b, mm, rfl, h1, h5⟩⟩)


theorem reset_ok (hs : Sep (St H0 a w peak bufs A4 n4 m4 A5 n5 m5) H) :
    HCalls Try.prog 32 #[.pointer (some ⟨a, 0, none⟩)] H fun v32 H24 => W_abacistlaw14_ArenaCounts.j50 K R14 w A3 n3 m3 (some ⟨a, 0, none⟩) A4 n4 m4 A5 n5 m5 (i : Int) H24 := by
  have l3 := (hs.own 3 rfl).len
  rw [szs_len] at l3
  refine (Reset_tr (a := a) (cap := w) (peak := peak) (bufs := bufs)).use hs [1] rfl rfl ?_
  rintro _ _ H ⟨rfl, rfl⟩ hs
  have hs : Sep [own H0, Ar a w 0 (gaveB (fun _ => true) bufs), Own 32 1 A4 n4 m4 (ptrs bufs), Own 3 1 A5 n5 m5 (szs bufs)] H := hs.re [1, 0, 2, 3] rfl
  exact ⟨n5 + 1, zero2_ok hw hi hR hb (by omega) n5 0 H (by omega) hs⟩
end

def actRow (x : Int × Int) : List Value := [.int .i64 x.1, .int .i64 x.2]

theorem counts_loop (K : Value → Hp → Prop) (H0 : Hp) (hK : ∀ H, H0.le H → K (.bool true) H) (a : Nat) (w : Int) (hw : 1 ≤ w ∧ w ≤ 40000) (A3 : Option Addr) (n3 m3 : Nat) (l : List (Int × Int)) (hl : l.length = n3) (h40 : n3 ≤ 40) (hl2 : ∀ x ∈ l, -9223372036854775808 ≤ x.2 ∧ x.2 ≤ 9223372036854775807) (hc : CellsS 2 H0 A3 (l.map actRow)) :
    ∀ (d i : Nat) (peak : Int) (bufs : List (Nat × Nat × Option Addr)) (A4 A5 : Option Addr) (n4 m4 n5 m5 : Nat) (H : Hp), i + d = n3 → bufs.length ≤ i → Sep (St H0 a w peak bufs A4 n4 m4 A5 n5 m5) H →
      W_abacistlaw14_ArenaCounts.l14 K (d + 1) w A3 n3 m3 (some ⟨a, 0, none⟩) A4 n4 m4 A5 n5 m5 (sumB bufs) peak (i : Int) H
  | 0, i, peak, bufs, A4, A5, n4, m4, n5, m5, H, hi, hb, hs => by
    unfold W_abacistlaw14_ArenaCounts.l14
    exact BIf_dneg (by omega) (hK H (hs.ow 0 rfl))
  | d + 1, i, peak, bufs, A4, A5, n4, m4, n5, m5, H, hi, hb, hs => by
    have hlt : i < l.length := by omega
    have hrow : (l.map actRow)[i]? = some (actRow l[i]) := by rw [List.getElem?_map, List.getElem?_eq_getElem hlt]; rfl
    have hx := hl2 l[i] (List.getElem_mem hlt)
    have hR : Goes H0 a w A3 n3 m3 (W_abacistlaw14_ArenaCounts.l14 K (d + 1)) i := fun peak bufs A4 A5 n4 m4 n5 m5 H hb hs =>
      counts_loop K H0 hK a w hw A3 n3 m3 l hl h40 hl2 hc d (i + 1) peak bufs A4 A5 n4 m4 n5 m5 H (by omega) hb hs
    have hc' := hc.le (hs.ow 0 rfl)
    have l2 := (hs.own 2 rfl).len
    rw [ptrs_len] at l2
    have hT := take_ok (K := K) hw (by omega) hR hb hs l[i].2 hx
    have hG := give_ok (K := K) hw (by omega) hR hb hs l[i].2
    have hA := all_ok (K := K) hw (by omega) hR hb hs
    have hZ := reset_ok (K := K) hw (by omega) hR hb hs
    have hI := idle_ok (K := K) hw (by omega) hR hb hs
    unfold W_abacistlaw14_ArenaCounts.l14
    refine BIf_dpos (by omega) ?_
    refine hc'.rd hrow rfl (by rw [List.length_map]; omega) (j := 1) (v := .int .i64 l[i].2) rfl ?_
    simp only [DI_int', DB_bool, DS_string, DP_pointer, DSl_slice, DM_map, DA_agg, DTup_tuple, DCons_cons, DNil_nil, NN_some, BIf_true, BIf_false, BIf_same, List.toList_toArray, Bool.not_true, Bool.not_false]
    refine hc'.rd0 hrow rfl (by rw [List.length_map]; omega) (v := .int .i64 l[i].1) rfl ?_
    simp only [DI_int', DB_bool, DS_string, DP_pointer, DSl_slice, DM_map, DA_agg, DTup_tuple, DCons_cons, DNil_nil, NN_some, BIf_true, BIf_false, BIf_same, List.toList_toArray, Bool.not_true, Bool.not_false]
    have h3 : l[i].2 ≥ 0 ∧ l[i].2 < (n4 : Int) ∨ ¬ (l[i].2 ≥ 0 ∧ l[i].2 < (n4 : Int)) := by omega
    by_cases e0 : l[i].1 = 0
    · refine BIf_pos (by simp [e0]) (BIf_pos (by simp [e0]) hT)
    refine BIf_neg (by simp [e0]) ?_
    by_cases e1 : l[i].1 = 1
    · refine BIf_pos (by simp [e1]) (BIf_pos (by simp [e1]) hT)
    refine BIf_neg (by simp [e1]) ?_
    by_cases e2 : l[i].1 = 2
    · exact BIf_pos (by simp [e2]) hT
    refine BIf_neg (by simp [e2]) ?_
    by_cases e3 : l[i].1 = 3
    · refine BIf_pos (by simp [e3]) ?_
      rcases h3 with h3 | h3
      · refine BIf_dpos (by omega) (BIf_dpos (by omega) ?_)
        exact hG h3.1 h3.2
      · by_cases h4 : l[i].2 ≥ 0
        · exact BIf_dpos h4 (BIf_dneg (by omega) hI)
        · exact BIf_dneg h4 hI
    refine BIf_neg (by simp [e3]) ?_
    by_cases e4 : l[i].1 = 4
    · exact BIf_pos (by simp [e4]) hA
    refine BIf_neg (by simp [e4]) ?_
    by_cases e5 : l[i].1 = 5
    · exact BIf_pos (by simp [e5]) hZ
    exact BIf_neg (by simp [e5]) hI

theorem ArenaCounts_ok (w : Int) (A : Option Addr) (n m : Nat) (l : List (Int × Int)) (hl : l.length = n) (hl2 : ∀ x ∈ l, -9223372036854775808 ≤ x.2 ∧ x.2 ≤ 9223372036854775807) (H : Hp) (hc : CellsS 2 H A (l.map actRow)) :
    HCalls Try.prog 8 #[.int .i64 w, .slice A n m] H (Ret (.bool true) H) := by
  apply W_abacistlaw14_ArenaCounts.ok
  unfold W_abacistlaw14_ArenaCounts
  refine HCalls.use (awake_ok H) ?_
  try simp only [DI_int', DB_bool, DS_string, DP_pointer, DSl_slice, DM_map, DA_agg, DTup_tuple, DCons_cons, DNil_nil, NN_some, BIf_true, BIf_false, BIf_same, List.toList_toArray, Bool.not_true, Bool.not_false]
  have fin : Ret (.bool true) H (.bool true) H := ⟨rfl, Hp.le_refl _⟩
  by_cases h40 : n > 40
  · exact BIf_dpos (by omega) fin
  refine BIf_dneg (by omega) ?_
  have go : ¬ (w > 40000 ∧ w ≤ 16777216) → W_abacistlaw14_ArenaCounts.j5 (Ret (.bool true) H) w A n m H := fun hw => by
    unfold W_abacistlaw14_ArenaCounts.j5
    by_cases hr : w < 1 ∨ w > 16777216
    · refine HCalls.use (New_no H w hr) ?_
      try simp only [DI_int', DB_bool, DS_string, DP_pointer, DSl_slice, DM_map, DA_agg, DTup_tuple, DCons_cons, DNil_nil, NN_some, BIf_true, BIf_false, BIf_same, List.toList_toArray, Bool.not_true, Bool.not_false]
      rcases hr with hr | hr
      · exact BIf_dpos hr fin
      · exact BIf_dneg (by omega) (BIf_dpos hr fin)
    · refine (New_tr w (by omega)).use (Sep.start H) [] rfl rfl ?_
      rintro _ _ H' ⟨a, rfl, rfl⟩ hs
      have hs : Sep [Ar a w 0 [], own H] H' := hs
      simp only [DI_int', DB_bool, DS_string, DP_pointer, DSl_slice, DM_map, DA_agg, DTup_tuple, DCons_cons, DNil_nil, NN_some, BIf_true, BIf_false, BIf_same, List.toList_toArray, Bool.not_true, Bool.not_false]
      refine BIf_dneg (by omega) (BIf_dneg (by omega) (BIf_neg rfl ?_))
      simp only [Addr.add_zero]
      refine HCalls.use (cap_s hs 0 rfl) ?_
      try simp only [DI_int', DB_bool, DS_string, DP_pointer, DSl_slice, DM_map, DA_agg, DTup_tuple, DCons_cons, DNil_nil, NN_some, BIf_true, BIf_false, BIf_same, List.toList_toArray, Bool.not_true, Bool.not_false]
      refine BIf_neg (by simp) ?_
      refine ⟨n + 1, ?_⟩
      refine counts_loop _ H (fun H' hl => ⟨rfl, hl⟩) a w (by omega) A n m l hl (by omega) hl2 hc n 0 0 [] none none 0 0 0 0 H' (by omega) (by simp) ?_
      have h1 : Sep [own H, Ar a w 0 []] H' := hs.re [1, 0] rfl
      have e0 : ∀ e, Own e 1 none 0 0 [] (fun _ => none) := fun e => Own.none e 1 _
      have mk : ∀ (A : As) (L : List As) (G : Hp), A (fun _ => none) → Sep L G → Sep (A :: L) G := fun A L G hA hL => ⟨fun _ => none, G, fun _ _ h => (nomatch h), Hp.le_refl _, fun _ => .inl rfl, hA, hL⟩
      have h2 := mk _ _ _ (e0 3) (mk _ _ _ (e0 32) h1)
      exact h2.re [2, 3, 1, 0] rfl
  by_cases h1 : w > 40000
  · refine BIf_dpos h1 ?_
    by_cases h2 : w ≤ 16777216
    · exact BIf_dpos h2 fin
    · exact BIf_dneg h2 (go (by omega))
  · exact BIf_dneg h1 (go (by omega))

section
open Go.RowKit Go.ChangeShapes Go.WideShapes Go.ChangeAt
variable {H : Type} {enc : TypeId × Value → H} {W : World}
theorem acts_of {A : Option Addr} {n : Nat} {rows : List (List Value)} (hl : rows.length = n)
    (h : ∀ (i : Nat) (r : List Value), rows[i]? = some r → ∃ a, A = some a ∧ (∀ j v, r[j]? = some v → (Full W).cell? (a.add (i * Try.prog.cellsOf 68 + j)) = some v) ∧ r.length = Try.prog.cellsOf 68 ∧
      ∃ f d' p', DataW.trod enc Try.prog W 0 (fun _ => true) true f 68 r = some (d', p')) : ∃ l : List (Int × Int), l.length = n ∧ CellsS 2 (Full W) A (l.map actRow) ∧ ∀ x ∈ l, -9223372036854775808 ≤ x.2 ∧ x.2 ≤ 9223372036854775807 := by
  have hc : Try.prog.cellsOf 68 = 2 := by kernel_rfl
  refine rows_st hl fun i r hi => ?_
  obtain ⟨a, ha, h1, h2, f, d', p', h3⟩ := h i r hi
  rw [hc] at h1 h2
  refine ⟨a, ha, h1, ?_⟩
  obtain ⟨_, f', h4⟩ := trod_st Try.underlying68 h3
  obtain ⟨x, hx, _⟩ := trod_fint (o := 0) Try.underlying3 (by kernel_rfl) (h4 0 _ rfl)
  obtain ⟨y, hy, wy⟩ := trod_fint (o := 1) Try.underlying3 (by kernel_rfl) (h4 1 _ rfl)
  exact ⟨(x, y), list2 h2 hx hy, wf_int wy⟩
end
end Go.Proofs.Ytdjdielefolfbaa.Are
