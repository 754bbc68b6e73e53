/- Words of bytes: codec's and the document's. -/
import Derived.Test.YtbnhfcdagoigkaaFormA
import Derived.Test.YtbnhfcdagoigkaaHwW
set_option maxRecDepth 100000
set_option linter.unusedSimpArgs false
set_option linter.unusedVariables false
set_option linter.unnecessarySimpa false
set_option linter.unusedSectionVars false
namespace Go.Form
open Go Go.Hw
theorem formW_bytes (w : UInt64) : formW w = bytesN 8 w.toNat := range_bytes 8 w.toNat
theorem leN_formW (w : UInt64) : leN (formW w) = w.toNat := by
  rw [formW_bytes, leN_bytesN]
  exact Nat.mod_eq_of_lt w.toNat_lt

/-- The word whose form begins at a place. -/
def wordN (bs : List UInt8) (o : Nat) : Nat := leN ((bs.drop o).take 8)
theorem wordN_lt (bs : List UInt8) (o : Nat) : wordN bs o < 2 ^ 64 := leN_lt8 (by simp; omega)

theorem form_drop (l : List UInt64) (i : Nat) : (form l).drop (8 * i) = form (l.drop i) := by
  induction i generalizing l with
  | zero => simp
  | succ i ih =>
    cases l with
    | nil => simp [form]
    | cons w l =>
      rw [List.drop_succ_cons, ← ih]
      show List.drop (8 * (i + 1)) (formW w ++ form l) = _
      rw [show 8 * (i + 1) = (formW w).length + 8 * i by rw [formW_length]; omega, List.drop_append]
      simp
theorem wordN_form {l : List UInt64} {i : Nat} (h : i < l.length) (r : List UInt8) : wordN (form l ++ r) (8 * i) = l[i].toNat := by
  unfold wordN
  rw [List.drop_append_of_le_length (by rw [form_length]; omega), form_drop, List.drop_eq_getElem_cons h]
  show leN (((formW l[i] ++ form (l.drop (i + 1))) ++ r).take 8) = _
  rw [List.append_assoc, List.take_left' (formW_length _), leN_formW]
end Go.Form
namespace Go.Proofs.Ytbnhfcdagoigkaa.FormP
open Go Go.Hw Go.Form Go.Proofs.Ytbnhfcdagoigkaa.W

theorem word_loop (K : Value → Hp → Prop) (A : Option Addr) (n m : Nat) (bs : List UInt8) (hl : bs.length = 8) (hn : 8 ≤ n) (H : Hp) (hb : Cells H A (byteVals bs)) (k : K (.int .u64 (leN bs : Nat)) H) : ∀ j : Nat, j ≤ 8 →
    W_codec_word.l3 K (j + 1) A n m ((leN (bs.drop j) : Nat) : Int) ((j : Int) - 1) H
  | 0, _ => by
    unfold W_codec_word.l3
    refine BIf_dneg (by omega) ?_
    exact k
  | j + 1, hj => by
    unfold W_codec_word.l3
    refine BIf_dpos (by omega) ⟨by omega, ?_⟩
    rw [show (((j + 1 : Nat) : Int) - 1) = (j : Int) by omega]
    have hlt : j < bs.length := by omega
    refine ⟨by omega, by omega, ?_⟩
    obtain ⟨a, rfl, hc⟩ := hb j (.int .u8 (bs[j].toNat : Int)) (by rw [byteVals_get, List.getElem?_eq_getElem hlt]; rfl)
    show Ld H _ _
    refine Ld_of (v := .int .u8 (bs[j].toNat : Int)) (by rw [Int.toNat_natCast, Nat.mul_one]; exact hc) ?_
    simp only [DI_int', DB_bool, DS_string, DP_pointer, DSl_slice, DM_map, DA_agg, DTup_tuple, DCons_cons, DNil_nil, NN_some, BIf_true, BIf_false, BIf_same, List.toList_toArray, Bool.not_true, Bool.not_false]
    have h1 : leN (bs.drop (j + 1)) < 256 ^ 7 := by
      have h1 := leN_lt (bs.drop (j + 1))
      have h2 : 256 ^ (bs.drop (j + 1)).length ≤ 256 ^ 7 := Nat.pow_le_pow_right (by omega) (by simp; omega)
      omega
    have h2 : bs[j].toNat < 256 := bs[j].toNat_lt
    have h3 : leN (bs.drop (j + 1)) * 2 ^ 8 < 2 ^ 64 := by
      rw [show (256 : Nat) ^ 7 = 2 ^ 56 by decide] at h1; omega
    rw [shlN (i := (8 : Int)) (n := 8) rfl (by omega), Nat.mod_eq_of_lt h3, u64n (by omega), orN h3 (by omega), i64w (by omega) (by omega)]
    rw [← Nat.shiftLeft_eq, ← Nat.shiftLeft_add_eq_or_of_lt (by omega : bs[j].toNat < 2 ^ 8), Nat.shiftLeft_eq]
    have e := leN_drop hlt
    rw [show leN (bs.drop (j + 1)) * 2 ^ 8 + bs[j].toNat = leN (bs.drop j) by rw [e]; omega]
    exact word_loop K _ n m bs hl hn H hb k j (by omega)

theorem word_ok (A : Option Addr) (n m : Nat) (bs : List UInt8) (hl : bs.length = 8) (hn : 8 ≤ n) (H : Hp) (hb : Cells H A (byteVals bs)) : HCalls Try.prog 82 #[.slice A n m] H (RetE (.int .u64 (leN bs : Nat)) H) := by
  apply W_codec_word.ok
  refine ⟨9, ?_⟩
  have := word_loop (RetE (.int .u64 (leN bs : Nat)) H) A n m bs hl hn H hb (RetE.mk _ _) 8 (Nat.le_refl _)
  rw [List.drop_eq_nil_of_le (by omega)] at this
  exact this

theorem inside_ok (A : Option Addr) (n m : Nat) (hn : n ≤ 9000000000000000000) (i : Int) (H : Hp) : HCalls Try.prog 81 #[.slice A n m, .int .i64 i] H (RetE (.bool (decide (0 ≤ i ∧ i < (n / 8 : Nat)))) H) := by
  apply W_codec_inside.ok
  unfold W_codec_inside
  rw [BIf_decide]
  split
  · refine ⟨by omega, rfl, RetE.of ?_⟩
    rw [show Int.tdiv ((n : Nat) : Int) 8 = ((n / 8 : Nat) : Int) from rfl, i64n (by omega)]
    congr 1; simp only [decide_eq_decide]; omega
  · refine RetE.of ?_
    congr 1
    exact (decide_eq_false (by omega)).symm

theorem Word_ok (A : Option Addr) (n m : Nat) (hnm : n ≤ m) (hm : n ≤ 9000000000000000000) (bs : List UInt8) (hl : n = bs.length) (i : Nat) (hi : 8 * i + 8 ≤ n) (H : Hp) (hb : Cells H A (byteVals bs)) :
    HCalls Try.prog 63 #[.slice A n m, .int .i64 i] H (RetE (.tuple #[.int .u64 (wordN bs (8 * i) : Nat), .int .i64 0]) H) := by
  apply W_codec_Word.ok
  unfold W_codec_Word
  refine HCalls.use (inside_ok A n m (by omega) i H) ?_
  try simp only [DI_int', DB_bool, DS_string, DP_pointer, DSl_slice, DM_map, DA_agg, DTup_tuple, DCons_cons, DNil_nil, NN_some, BIf_true, BIf_false, BIf_same, List.toList_toArray, Bool.not_true, Bool.not_false]
  refine BIf_neg (by simp; omega) ?_
  rw [i64w (x := 8 * (i : Int)) (by omega) (by omega)]
  refine ⟨by omega, by omega, ?_⟩
  rw [show (8 * (i : Int)).toNat = 8 * i by omega]
  have h1 := (hb.shift (m := m) (l := 8 * i) (by rw [byteVals_length]; omega)).take 8
  rw [show ((byteVals bs).drop (8 * i)).take 8 = byteVals ((bs.drop (8 * i)).take 8) by unfold byteVals; rw [List.map_take, List.map_drop]] at h1
  refine HCalls.use (word_ok _ (n - 8 * i) (m - 8 * i) ((bs.drop (8 * i)).take 8) (by simp; omega) (by omega) H h1) ?_
  try simp only [DI_int', DB_bool, DS_string, DP_pointer, DSl_slice, DM_map, DA_agg, DTup_tuple, DCons_cons, DNil_nil, NN_some, BIf_true, BIf_false, BIf_same, List.toList_toArray, Bool.not_true, Bool.not_false]
  exact RetE.mk _ _

end Go.Proofs.Ytbnhfcdagoigkaa.FormP
