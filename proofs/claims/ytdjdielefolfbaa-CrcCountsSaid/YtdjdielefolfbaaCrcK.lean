/- crc.Counter; the law CrcCounts. -/
import Derived.Test.YtdjdielefolfbaaCrcJ
set_option linter.unusedSimpArgs false
set_option linter.unusedVariables false
set_option linter.unnecessarySimpa false
namespace Go.Proofs.Ytdjdielefolfbaa.CrcP
open Go Go.Hw Go.Crc Go.Form Go.Proofs.Ytdjdielefolfbaa.W

def counter (s : W32) (n : Nat) : AO := .obj (.cells #[.int .u32 (s.toNat : Int), .int .i64 (n : Int)] 53)

theorem Add_ok (c : Nat) (s : W32) (k : Nat) (A : Option Addr) (n m : Nat) (bs : List UInt8) (hn : n = bs.length) (H : Hp) (hc : H c = some (counter s k)) (hb : Cells H A (byteVals bs)) (hk : k + n ≤ 9223372036854775807) :
    HCalls Try.prog 24 #[.pointer (some ⟨c, 0, none⟩), .slice A n m] H (RetE (.tuple #[]) (H.set c (counter (more s bs) (k + n)))) := by
  apply W_crc_Counter_Add.ok
  unfold W_crc_Counter_Add
  simp only [NN_some, Addr.add_lit', Nat.add_zero, Nat.zero_add]
  refine Ld_obj hc (v := .int .u32 (s.toNat : Int)) rfl ?_
  simp only [DI_int', DB_bool, DS_string, DP_pointer, DSl_slice, DM_map, DA_agg, DTup_tuple, DCons_cons, DNil_nil, NN_some, BIf_true, BIf_false, BIf_same, List.toList_toArray, Bool.not_true, Bool.not_false]
  refine HCalls.use (More_ok s A n m bs hn (by omega) H hb) ?_
  try simp only [DI_int', DB_bool, DS_string, DP_pointer, DSl_slice, DM_map, DA_agg, DTup_tuple, DCons_cons, DNil_nil, NN_some, BIf_true, BIf_false, BIf_same, List.toList_toArray, Bool.not_true, Bool.not_false]
  refine St_obj hc (by simp) rfl ?_
  refine Ld_obj (Hp.set_same _ _ _) (v := .int .i64 (k : Int)) rfl ?_
  simp only [DI_int', DB_bool, DS_string, DP_pointer, DSl_slice, DM_map, DA_agg, DTup_tuple, DCons_cons, DNil_nil, NN_some, BIf_true, BIf_false, BIf_same, List.toList_toArray, Bool.not_true, Bool.not_false]
  refine St_obj (Hp.set_same _ _ _) (by simp) rfl ?_
  rw [Hp.set_set, show ((k : Int) + (n : Int)) = ((k + n : Nat) : Int) by omega, i64n hk]
  exact RetE.mk _ _

theorem AddWords_ok (c : Nat) (s : W32) (k : Nat) (A : Option Addr) (n m : Nat) (l : List UInt64) (hn : n = l.length) (H : Hp) (hc : H c = some (counter s k)) (hl : Cells H A (wordVals l)) (hn2 : n ≤ 10000000000) (hk : k ≤ 1000000000000) :
    HCalls Try.prog 25 #[.pointer (some ⟨c, 0, none⟩), .slice A n m] H (RetE (.tuple #[]) (H.set c (counter (more s (form l)) (k + 8 * n)))) := by
  apply HCalls.ret
  apply W_crc_Counter_AddWords.ok
  unfold W_crc_Counter_AddWords
  refine (FormP.Put_ok A n m l hn (by omega) H hl).mono ?_
  rintro v H' ⟨b, hb, rfl, rfl⟩
  simp only [DI_int', DB_bool, DS_string, DP_pointer, DSl_slice, DM_map, DA_agg, DTup_tuple, DCons_cons, DNil_nil, NN_some, BIf_true, BIf_false, BIf_same, List.toList_toArray, Bool.not_true, Bool.not_false]
  have hf : (form l).length = 8 * n := by rw [form_length, hn]
  have hle := Hp.le_set (o := .row (byteVals (form l)) 5 (8 * n)) hb
  refine HCalls.use (Add_ok c s k (some ⟨b, 0, none⟩) (8 * n) (8 * n) (form l) hf.symm _ (hle _ _ hc) (by have := Cells.row (Hp.set_same H b (.row (byteVals (form l)) 5 (8 * n))) 0 (8 * n); rwa [List.drop_zero, List.take_of_length_le (by rw [byteVals_length, hf]; omega)] at this) (by omega)) ?_
  try simp only [DI_int', DB_bool, DS_string, DP_pointer, DSl_slice, DM_map, DA_agg, DTup_tuple, DCons_cons, DNil_nil, NN_some, BIf_true, BIf_false, BIf_same, List.toList_toArray, Bool.not_true, Bool.not_false]
  exact ⟨rfl, Hp.set_le hle _ _⟩

theorem Len_ok (c : Nat) (s : W32) (k : Nat) (H : Hp) (hc : H c = some (counter s k)) : HCalls Try.prog 27 #[.pointer (some ⟨c, 0, none⟩)] H (RetE (.int .i64 (k : Int)) H) := by
  apply W_crc_Counter_Len.ok
  unfold W_crc_Counter_Len
  simp only [NN_some, Addr.add_lit', Nat.add_zero, Nat.zero_add]
  refine Ld_obj hc (v := .int .i64 (k : Int)) rfl ?_
  simp only [DI_int', DB_bool, DS_string, DP_pointer, DSl_slice, DM_map, DA_agg, DTup_tuple, DCons_cons, DNil_nil, NN_some, BIf_true, BIf_false, BIf_same, List.toList_toArray, Bool.not_true, Bool.not_false]
  exact RetE.mk _ _
theorem CSum_ok (c : Nat) (s : W32) (k : Nat) (H : Hp) (hc : H c = some (counter s k)) : HCalls Try.prog 28 #[.pointer (some ⟨c, 0, none⟩)] H (RetE (.int .u32 (s.toNat : Int)) H) := by
  apply W_crc_Counter_Sum.ok
  unfold W_crc_Counter_Sum
  simp only [NN_some, Addr.add_lit', Nat.add_zero, Nat.zero_add]
  refine Ld_obj hc (v := .int .u32 (s.toNat : Int)) rfl ?_
  simp only [DI_int', DB_bool, DS_string, DP_pointer, DSl_slice, DM_map, DA_agg, DTup_tuple, DCons_cons, DNil_nil, NN_some, BIf_true, BIf_false, BIf_same, List.toList_toArray, Bool.not_true, Bool.not_false]
  exact RetE.mk _ _

section
variable (A1 A2 : Option Addr) (n1 m1 n2 m2 : Nat) (ps : List (Option Addr × Nat × Nat × List UInt8)) (ws : List (Option Addr × Nat × Nat × List UInt64)) (H0 : Hp) (c : Nat)

theorem cc20 (K : Value → Hp → Prop) (R8 : Option Addr → Nat → Nat → Option Addr → Nat → Nat → Addr → ByteArray → Int → Hp → Prop) (i : Nat) (hi : i ≤ 1000) (al : List UInt8) (hal : al.length ≤ 1000000) (H : Hp) (hc : H c = some (counter (sum al) al.length))
    (hR : R8 A1 n1 m1 A2 n2 m2 ⟨c, 0, none⟩ ⟨al.toArray⟩ ((i + 1 : Nat) : Int) H) : W_abacistlaw16_CrcCounts.j20 K R8 A1 n1 m1 A2 n2 m2 ⟨c, 0, none⟩ ⟨al.toArray⟩ (i : Int) H := by
  unfold W_abacistlaw16_CrcCounts.j20
  refine HCalls.use (Len_ok c _ _ H hc) ?_
  try simp only [DI_int', DB_bool, DS_string, DP_pointer, DSl_slice, DM_map, DA_agg, DTup_tuple, DCons_cons, DNil_nil, NN_some, BIf_true, BIf_false, BIf_same, List.toList_toArray, Bool.not_true, Bool.not_false]
  rw [FormP.bsize]
  refine BIf_neg (by simp) ?_
  refine HCalls.use (CSum_ok c _ _ H hc) ?_
  try simp only [DI_int', DB_bool, DS_string, DP_pointer, DSl_slice, DM_map, DA_agg, DTup_tuple, DCons_cons, DNil_nil, NN_some, BIf_true, BIf_false, BIf_same, List.toList_toArray, Bool.not_true, Bool.not_false]
  refine HCalls.use (rOf_ok al (by omega) H) ?_
  try simp only [DI_int', DB_bool, DS_string, DP_pointer, DSl_slice, DM_map, DA_agg, DTup_tuple, DCons_cons, DNil_nil, NN_some, BIf_true, BIf_false, BIf_same, List.toList_toArray, Bool.not_true, Bool.not_false]
  refine BIf_neg (by simp) ?_
  rw [i64w (by omega) (by omega)]
  exact hR

theorem cc15 (K : Value → Hp → Prop) (hK : ∀ H, H0.le H → K (.bool true) H) (h2 : n2 = ws.length) (hw : Cells H0 A2 (ws.map fun p => .slice p.1 p.2.1 p.2.2.1)) (hws : ∀ p ∈ ws, p.2.1 = p.2.2.2.length ∧ p.2.1 ≤ 9223372036854775807 ∧ Cells H0 p.1 (wordVals p.2.2.2)) (h0 : H0 c = none)
    (R8 : Option Addr → Nat → Nat → Option Addr → Nat → Nat → Addr → ByteArray → Int → Hp → Prop) (i : Nat) (hi : i ≤ 100) (al : List UInt8) (hal : al.length ≤ 10000) (H : Hp) (hc : H c = some (counter (sum al) al.length)) (hle : H0.le H)
    (hR : ∀ (al' : List UInt8) (H' : Hp), al'.length ≤ al.length + 64 → H' c = some (counter (sum al') al'.length) → H0.le H' → R8 A1 n1 m1 A2 n2 m2 ⟨c, 0, none⟩ ⟨al'.toArray⟩ ((i + 1 : Nat) : Int) H') :
    W_abacistlaw16_CrcCounts.j15 K R8 A1 n1 m1 A2 n2 m2 ⟨c, 0, none⟩ ⟨al.toArray⟩ (i : Int) H := by
  unfold W_abacistlaw16_CrcCounts.j15
  rw [BIf_decide]
  split
  · rename_i hlt
    have hlt' : i < ws.length := by omega
    have hg : (ws.map fun p => Value.slice p.1 p.2.1 p.2.2.1)[i]? = some (.slice ws[i].1 ws[i].2.1 ws[i].2.2.1) := by rw [List.getElem?_map, List.getElem?_eq_getElem hlt']; rfl
    obtain ⟨h3, h4, h5⟩ := hws ws[i] (List.getElem_mem hlt')
    refine (hw.le hle).read hg rfl (by rw [List.length_map]; omega) ?_
    simp only [DI_int', DB_bool, DS_string, DP_pointer, DSl_slice, DM_map, DA_agg, DTup_tuple, DCons_cons, DNil_nil, NN_some, BIf_true, BIf_false, BIf_same, List.toList_toArray, Bool.not_true, Bool.not_false]
    rw [BIf_decide]
    split
    · exact hK H hle
    refine (hw.le hle).read hg rfl (by rw [List.length_map]; omega) ?_
    simp only [DI_int', DB_bool, DS_string, DP_pointer, DSl_slice, DM_map, DA_agg, DTup_tuple, DCons_cons, DNil_nil, NN_some, BIf_true, BIf_false, BIf_same, List.toList_toArray, Bool.not_true, Bool.not_false]
    refine HCalls.use (AddWords_ok c _ _ _ _ _ _ h3 H hc (h5.le hle) (by omega) (by omega)) ?_
    try simp only [DI_int', DB_bool, DS_string, DP_pointer, DSl_slice, DM_map, DA_agg, DTup_tuple, DCons_cons, DNil_nil, NN_some, BIf_true, BIf_false, BIf_same, List.toList_toArray, Bool.not_true, Bool.not_false]
    have hle' := Hp.le_set_of (o := counter (more (sum al) (form ws[i].2.2.2)) (al.length + 8 * ws[i].2.1)) hle h0
    refine (hw.le hle').read hg rfl (by rw [List.length_map]; omega) ?_
    simp only [DI_int', DB_bool, DS_string, DP_pointer, DSl_slice, DM_map, DA_agg, DTup_tuple, DCons_cons, DNil_nil, NN_some, BIf_true, BIf_false, BIf_same, List.toList_toArray, Bool.not_true, Bool.not_false]
    refine HCalls.use (FormP.rPut_ok _ _ ws[i].2.2.1 _ h3 (by omega) _ (h5.le hle')) ?_
    try simp only [DI_int', DB_bool, DS_string, DP_pointer, DSl_slice, DM_map, DA_agg, DTup_tuple, DCons_cons, DNil_nil, NN_some, BIf_true, BIf_false, BIf_same, List.toList_toArray, Bool.not_true, Bool.not_false]
    have hf : (form ws[i].2.2.2).length = 8 * ws[i].2.1 := by rw [form_length, h3]
    rw [FormP.bsize, FormP.bsize, FormP.bappend]
    refine ⟨by omega, ?_⟩
    refine cc20 A1 A2 n1 m1 n2 m2 c K R8 i (by omega) _ (by rw [List.length_append]; omega) _ ?_ (hR _ _ (by rw [List.length_append]; omega) ?_ hle')
    · rw [Hp.set_same, List.length_append, hf]; unfold sum; rw [more_append]
    · rw [Hp.set_same, List.length_append, hf]; unfold sum; rw [more_append]
  · exact cc20 A1 A2 n1 m1 n2 m2 c K R8 i (by omega) _ (by omega) _ hc (hR _ _ (by omega) hc hle)

theorem cc10 (K : Value → Hp → Prop) (hK : ∀ H, H0.le H → K (.bool true) H) (h1 : n1 = ps.length) (hp : Cells H0 A1 (ps.map fun p => .slice p.1 p.2.1 p.2.2.1)) (hps : ∀ p ∈ ps, p.2.1 = p.2.2.2.length ∧ p.2.1 ≤ 9223372036854775807 ∧ Cells H0 p.1 (byteVals p.2.2.2))
    (h2 : n2 = ws.length) (hw : Cells H0 A2 (ws.map fun p => .slice p.1 p.2.1 p.2.2.1)) (hws : ∀ p ∈ ws, p.2.1 = p.2.2.2.length ∧ p.2.1 ≤ 9223372036854775807 ∧ Cells H0 p.1 (wordVals p.2.2.2)) (h0 : H0 c = none)
    (R8 : Option Addr → Nat → Nat → Option Addr → Nat → Nat → Addr → ByteArray → Int → Hp → Prop) (i : Nat) (hi : i ≤ 100) (al : List UInt8) (hal : al.length ≤ 9000) (H : Hp) (hc : H c = some (counter (sum al) al.length)) (hle : H0.le H)
    (hR : ∀ (al' : List UInt8) (H' : Hp), al'.length ≤ al.length + 124 → H' c = some (counter (sum al') al'.length) → H0.le H' → R8 A1 n1 m1 A2 n2 m2 ⟨c, 0, none⟩ ⟨al'.toArray⟩ ((i + 1 : Nat) : Int) H') :
    W_abacistlaw16_CrcCounts.j10 K R8 A1 n1 m1 A2 n2 m2 ⟨c, 0, none⟩ ⟨al.toArray⟩ (i : Int) H := by
  unfold W_abacistlaw16_CrcCounts.j10
  rw [BIf_decide]
  split
  · rename_i hlt
    have hlt' : i < ps.length := by omega
    have hg : (ps.map fun p => Value.slice p.1 p.2.1 p.2.2.1)[i]? = some (.slice ps[i].1 ps[i].2.1 ps[i].2.2.1) := by rw [List.getElem?_map, List.getElem?_eq_getElem hlt']; rfl
    obtain ⟨h3, h4, h5⟩ := hps ps[i] (List.getElem_mem hlt')
    refine (hp.le hle).read hg rfl (by rw [List.length_map]; omega) ?_
    simp only [DI_int', DB_bool, DS_string, DP_pointer, DSl_slice, DM_map, DA_agg, DTup_tuple, DCons_cons, DNil_nil, NN_some, BIf_true, BIf_false, BIf_same, List.toList_toArray, Bool.not_true, Bool.not_false]
    rw [BIf_decide]
    split
    · exact hK H hle
    refine (hp.le hle).read hg rfl (by rw [List.length_map]; omega) ?_
    simp only [DI_int', DB_bool, DS_string, DP_pointer, DSl_slice, DM_map, DA_agg, DTup_tuple, DCons_cons, DNil_nil, NN_some, BIf_true, BIf_false, BIf_same, List.toList_toArray, Bool.not_true, Bool.not_false]
    refine HCalls.use (Add_ok c _ _ _ _ _ _ h3 H hc (h5.le hle) (by omega)) ?_
    try simp only [DI_int', DB_bool, DS_string, DP_pointer, DSl_slice, DM_map, DA_agg, DTup_tuple, DCons_cons, DNil_nil, NN_some, BIf_true, BIf_false, BIf_same, List.toList_toArray, Bool.not_true, Bool.not_false]
    have hle' := Hp.le_set_of (o := counter (more (sum al) ps[i].2.2.2) (al.length + ps[i].2.1)) hle h0
    refine (hp.le hle').read hg rfl (by rw [List.length_map]; omega) ?_
    simp only [DI_int', DB_bool, DS_string, DP_pointer, DSl_slice, DM_map, DA_agg, DTup_tuple, DCons_cons, DNil_nil, NN_some, BIf_true, BIf_false, BIf_same, List.toList_toArray, Bool.not_true, Bool.not_false]
    refine BsK_of (h5.le hle') h3 ?_
    rw [FormP.bsize, FormP.bsize, FormP.bappend]
    refine ⟨by omega, ?_⟩
    refine cc15 A1 A2 n1 m1 n2 m2 ws H0 c K hK h2 hw hws h0 R8 i hi _ (by rw [List.length_append]; omega) _ ?_ hle' (fun al' H' hl => hR al' H' (by rw [List.length_append] at hl; omega))
    rw [Hp.set_same, List.length_append, h3]; unfold sum; rw [more_append]
  · exact cc15 A1 A2 n1 m1 n2 m2 ws H0 c K hK h2 hw hws h0 R8 i hi al (by omega) H hc hle (fun al' H' hl => hR al' H' (by omega))

theorem cc_loop (K : Value → Hp → Prop) (hK : ∀ H, H0.le H → K (.bool true) H) (h1 : n1 = ps.length) (hp : Cells H0 A1 (ps.map fun p => .slice p.1 p.2.1 p.2.2.1)) (hps : ∀ p ∈ ps, p.2.1 = p.2.2.2.length ∧ p.2.1 ≤ 9223372036854775807 ∧ Cells H0 p.1 (byteVals p.2.2.2))
    (h2 : n2 = ws.length) (hw : Cells H0 A2 (ws.map fun p => .slice p.1 p.2.1 p.2.2.1)) (hws : ∀ p ∈ ws, p.2.1 = p.2.2.2.length ∧ p.2.1 ≤ 9223372036854775807 ∧ Cells H0 p.1 (wordVals p.2.2.2)) (h0 : H0 c = none) (h12 : n1 ≤ 12) (h22 : n2 ≤ 12) :
    ∀ (d i : Nat) (al : List UInt8) (H : Hp), i + d = 12 → al.length ≤ 124 * i → H c = some (counter (sum al) al.length) → H0.le H → W_abacistlaw16_CrcCounts.l8 K (d + 1) A1 n1 m1 A2 n2 m2 ⟨c, 0, none⟩ ⟨al.toArray⟩ (i : Int) H
  | 0, i, al, H, hi, hal, hc, hle => by
    unfold W_abacistlaw16_CrcCounts.l8
    refine BIf_dneg (by omega) (BIf_dneg (by omega) ?_)
    refine HCalls.use (Len_ok c _ _ H hc) ?_
    try simp only [DI_int', DB_bool, DS_string, DP_pointer, DSl_slice, DM_map, DA_agg, DTup_tuple, DCons_cons, DNil_nil, NN_some, BIf_true, BIf_false, BIf_same, List.toList_toArray, Bool.not_true, Bool.not_false]
    rw [FormP.bsize]
    simpa using hK H hle
  | d + 1, i, al, H, hi, hal, hc, hle => by
    unfold W_abacistlaw16_CrcCounts.l8
    have step : W_abacistlaw16_CrcCounts.j10 K (W_abacistlaw16_CrcCounts.l8 K (d + 1)) A1 n1 m1 A2 n2 m2 ⟨c, 0, none⟩ ⟨al.toArray⟩ (i : Int) H :=
      cc10 A1 A2 n1 m1 n2 m2 ps ws H0 c K hK h1 hp hps h2 hw hws h0 _ i (by omega) al (by omega) H hc hle (fun al' H' hl hc' hle' =>
        cc_loop K hK h1 hp hps h2 hw hws h0 h12 h22 d (i + 1) al' H' (by omega) (by omega) hc' hle')
    rw [BIf_decide, BIf_decide]
    split
    · exact step
    split
    · exact step
    refine HCalls.use (Len_ok c _ _ H hc) ?_
    try simp only [DI_int', DB_bool, DS_string, DP_pointer, DSl_slice, DM_map, DA_agg, DTup_tuple, DCons_cons, DNil_nil, NN_some, BIf_true, BIf_false, BIf_same, List.toList_toArray, Bool.not_true, Bool.not_false]
    rw [FormP.bsize]
    simpa using hK H hle
end

theorem CrcCounts_ok (A1 A2 : Option Addr) (n1 m1 n2 m2 : Nat) (ps : List (Option Addr × Nat × Nat × List UInt8)) (ws : List (Option Addr × Nat × Nat × List UInt64)) (H : Hp) (h1 : n1 = ps.length) (hp : Cells H A1 (ps.map fun p => .slice p.1 p.2.1 p.2.2.1)) (hps : ∀ p ∈ ps, p.2.1 = p.2.2.2.length ∧ p.2.1 ≤ 9223372036854775807 ∧ Cells H p.1 (byteVals p.2.2.2))
    (h2 : n2 = ws.length) (hw : Cells H A2 (ws.map fun p => .slice p.1 p.2.1 p.2.2.1)) (hws : ∀ p ∈ ws, p.2.1 = p.2.2.2.length ∧ p.2.1 ≤ 9223372036854775807 ∧ Cells H p.1 (wordVals p.2.2.2)) :
    HCalls Try.prog 7 #[.slice A1 n1 m1, .slice A2 n2 m2] H (RetE (.bool true) H) := by
  apply HCalls.ret
  apply W_abacistlaw16_CrcCounts.ok
  unfold W_abacistlaw16_CrcCounts
  refine HCalls.use (awake_ok H) ?_
  try simp only [DI_int', DB_bool, DS_string, DP_pointer, DSl_slice, DM_map, DA_agg, DTup_tuple, DCons_cons, DNil_nil, NN_some, BIf_true, BIf_false, BIf_same, List.toList_toArray, Bool.not_true, Bool.not_false]
  rw [BIf_decide, BIf_decide]
  split
  · exact ⟨rfl, Hp.le_refl _⟩
  split
  · exact ⟨rfl, Hp.le_refl _⟩
  intro c hc
  exact ⟨13, cc_loop A1 A2 n1 m1 n2 m2 ps ws H c _ (fun H' hl => ⟨rfl, hl⟩) h1 hp hps h2 hw hws hc (by omega) (by omega) 12 0 [] _ rfl (by simp) (by rw [Hp.set_same]; rfl) (Hp.le_set hc)⟩

end Go.Proofs.Ytdjdielefolfbaa.CrcP
