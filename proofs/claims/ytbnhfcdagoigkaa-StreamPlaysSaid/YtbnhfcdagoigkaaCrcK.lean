/- crc.Counter; the law CrcCounts. -/
import Derived.Test.YtbnhfcdagoigkaaCrcJ
set_option maxRecDepth 100000
set_option linter.unusedSimpArgs false
set_option linter.unusedVariables false
set_option linter.unnecessarySimpa false
set_option linter.unusedSectionVars false
namespace Go.Proofs.Ytbnhfcdagoigkaa.CrcP
open Go Go.Hw Go.Crc Go.Form Go.Proofs.Ytbnhfcdagoigkaa.W

def counter (s : W32) (n : Nat) : AO := .obj (.cells #[.int .u32 (s.toNat : Int), .int .i64 (n : Int)] 117)

theorem Add_ok (c : Nat) (s : W32) (k : Nat) (A : Option Addr) (n m : Nat) (bs : List UInt8) (hn : n = bs.length) (H : Hp) (hc : H c = some (counter s k)) (hb : Cells H A (byteVals bs)) (hk : k + n ≤ 9223372036854775807) :
    HCalls Try.prog 75 #[.pointer (some ⟨c, 0, none⟩), .slice A n m] H (RetE (.tuple #[]) (H.set c (counter (more s bs) (k + n)))) := by
  apply W_crc_Counter_Add.ok
  unfold W_crc_Counter_Add
  simp only [NN_some, Addr.add_lit', Nat.add_zero, Nat.zero_add]
  refine Ld_obj hc (v := .int .u32 (s.toNat : Int)) rfl ?_
  simp only [DI_int', DB_bool, DS_string, DP_pointer, DSl_slice, DM_map, DA_agg, DTup_tuple, DCons_cons, DNil_nil, NN_some, BIf_true, BIf_false, BIf_same, List.toList_toArray, Bool.not_true, Bool.not_false]
  refine HCalls.use (More_ok s A n m bs hn (by omega) H hb) ?_
  try simp only [DI_int', DB_bool, DS_string, DP_pointer, DSl_slice, DM_map, DA_agg, DTup_tuple, DCons_cons, DNil_nil, NN_some, BIf_true, BIf_false, BIf_same, List.toList_toArray, Bool.not_true, Bool.not_false]
  refine St_obj hc (by simp) rfl ?_
  refine Ld_obj (Hp.set_same _ _ _) (v := .int .i64 (k : Int)) rfl ?_
  simp only [DI_int', DB_bool, DS_string, DP_pointer, DSl_slice, DM_map, DA_agg, DTup_tuple, DCons_cons, DNil_nil, NN_some, BIf_true, BIf_false, BIf_same, List.toList_toArray, Bool.not_true, Bool.not_false]
  refine St_obj (Hp.set_same _ _ _) (by simp) rfl ?_
  rw [Hp.set_set, show ((k : Int) + (n : Int)) = ((k + n : Nat) : Int) by omega, i64n hk]
  exact RetE.mk _ _

theorem AddWords_ok (c : Nat) (s : W32) (k : Nat) (A : Option Addr) (n m : Nat) (l : List UInt64) (hn : n = l.length) (H : Hp) (hc : H c = some (counter s k)) (hl : Cells H A (wordVals l)) (hn2 : n ≤ 10000000000) (hk : k ≤ 1000000000000) :
    HCalls Try.prog 51 #[.pointer (some ⟨c, 0, none⟩), .slice A n m] H (RetE (.tuple #[]) (H.set c (counter (more s (form l)) (k + 8 * n)))) := by
  apply HCalls.ret
  apply W_crc_Counter_AddWords.ok
  unfold W_crc_Counter_AddWords
  refine (FormP.Put_ok A n m l hn (by omega) H hl).mono ?_
  rintro v H' ⟨b, hb, rfl, rfl⟩
  simp only [DI_int', DB_bool, DS_string, DP_pointer, DSl_slice, DM_map, DA_agg, DTup_tuple, DCons_cons, DNil_nil, NN_some, BIf_true, BIf_false, BIf_same, List.toList_toArray, Bool.not_true, Bool.not_false]
  have hf : (form l).length = 8 * n := by rw [form_length, hn]
  have hle := Hp.le_set (o := .row (byteVals (form l)) 5 (8 * n)) hb
  refine HCalls.use (Add_ok c s k (some ⟨b, 0, none⟩) (8 * n) (8 * n) (form l) hf.symm _ (hle _ _ hc) (by have := Cells.row (Hp.set_same H b (.row (byteVals (form l)) 5 (8 * n))) 0 (8 * n); rwa [List.drop_zero, List.take_of_length_le (by rw [byteVals_length, hf]; omega)] at this) (by omega)) ?_
  try simp only [DI_int', DB_bool, DS_string, DP_pointer, DSl_slice, DM_map, DA_agg, DTup_tuple, DCons_cons, DNil_nil, NN_some, BIf_true, BIf_false, BIf_same, List.toList_toArray, Bool.not_true, Bool.not_false]
  exact ⟨rfl, Hp.set_le hle _ _⟩

theorem CSum_ok (c : Nat) (s : W32) (k : Nat) (H : Hp) (hc : H c = some (counter s k)) : HCalls Try.prog 52 #[.pointer (some ⟨c, 0, none⟩)] H (RetE (.int .u32 (s.toNat : Int)) H) := by
  apply W_crc_Counter_Sum.ok
  unfold W_crc_Counter_Sum
  simp only [NN_some, Addr.add_lit', Nat.add_zero, Nat.zero_add]
  refine Ld_obj hc (v := .int .u32 (s.toNat : Int)) rfl ?_
  simp only [DI_int', DB_bool, DS_string, DP_pointer, DSl_slice, DM_map, DA_agg, DTup_tuple, DCons_cons, DNil_nil, NN_some, BIf_true, BIf_false, BIf_same, List.toList_toArray, Bool.not_true, Bool.not_false]
  exact RetE.mk _ _

section
variable (A1 A2 : Option Addr) (n1 m1 n2 m2 : Nat) (ps : List (Option Addr × Nat × Nat × List UInt8)) (ws : List (Option Addr × Nat × Nat × List UInt64)) (H0 : Hp) (c : Nat)

end

end Go.Proofs.Ytbnhfcdagoigkaa.CrcP
