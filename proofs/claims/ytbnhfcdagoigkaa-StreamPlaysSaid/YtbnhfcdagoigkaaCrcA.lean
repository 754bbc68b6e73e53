/- crc, codec's forms and the document's answers: what they answer. -/
import Derived.Test.YtbnhfcdagoigkaaCrcM
import Derived.Test.YtbnhfcdagoigkaaWcrc
import Derived.Test.YtbnhfcdagoigkaaWcodec
import Derived.Test.YtbnhfcdagoigkaaWabacistref04
import Derived.Test.YtbnhfcdagoigkaaWabacistref16
set_option maxRecDepth 100000
set_option linter.unusedSimpArgs false
set_option linter.unusedVariables false
set_option linter.unnecessarySimpa false
set_option linter.unusedSectionVars false
namespace Go.Proofs.Ytbnhfcdagoigkaa.CrcP
open Go Go.Hw Go.Crc Go.Proofs.Ytbnhfcdagoigkaa.W

theorem bit1_int (v : W32) : bXor .u32 (shrI .u32 (v.toNat : Int) 1) (IntKind.u32.wrap ((2197175160 : Int) * bAnd .u32 (v.toNat : Int) 1)) = ((bit1 v).toNat : Int) := by
  rw [shr32 v (i := 1) (n := 1) rfl (by omega), show (1 : Int) = ((1#32 : W32).toNat : Int) from rfl, and32]
  have : IntKind.u32.wrap ((2197175160 : Int) * ((v &&& 1#32).toNat : Int)) = ((if v.getLsbD 0 then poly else 0#32).toNat : Int) := by
    have h1 : v &&& 1#32 = if v.getLsbD 0 then 1#32 else 0#32 := by
      apply BitVec.eq_of_getLsbD_eq
      intro i hi
      rw [BitVec.getLsbD_and]
      cases i with
      | zero => cases h : v.getLsbD 0 <;> simp
      | succ i => cases h : v.getLsbD 0 <;> simp
    rw [h1]
    cases v.getLsbD 0 <;> decide
  rw [this, xor32]
  rfl

def tbl (i : Nat) : Value := .int .u32 ((it bit1 4 (BitVec.ofNat 32 i)).toNat : Int)

theorem nib_inner (K : Value → Hp → Prop) (R2 : Addr → Int → Hp → Prop) (b : Nat) (c : Array Value) (e : TypeId) (hc : c.size = 16) (H : Hp) (hb : H b = some (.obj (.cells c e))) (x2 : Nat) (hx : x2 < 16) (x4 : Int) (w : W32)
    (k : R2 ⟨b, 0, none⟩ (IntKind.i64.wrap (x4 + 1)) (H.set b (.obj (.cells (c.setIfInBounds x2 (.int .u32 (w.toNat : Int))) e)))) :
    ∀ (d j : Nat) (v : W32), j + d = 4 → it bit1 d v = w → W_crc_nibbles.l6 K R2 (d + 1) ⟨b, 0, none⟩ x2 (v.toNat : Int) x4 j H
  | 0, j, v, hj, hv => by
    unfold W_crc_nibbles.l6
    refine BIf_dneg (by omega) ?_
    refine ⟨by omega, by omega, ?_⟩
    simp only [Addr.add_lit', Int.toNat_natCast, Nat.mul_one, Nat.zero_add, Nat.add_zero]
    refine St_obj hb (by omega) rfl ?_
    obtain rfl : v = w := hv
    exact k
  | d + 1, j, v, hj, hv => by
    unfold W_crc_nibbles.l6
    refine BIf_dpos (by omega) ?_
    refine ⟨by omega, ?_⟩
    rw [bit1_int, i64w (by omega) (by omega)]
    exact nib_inner K R2 b c e hc H hb x2 hx x4 w k d (j + 1) (bit1 v) (by omega) hv

theorem nib_outer (K : Value → Hp → Prop) (b : Nat) (e : TypeId) (H0 : Hp) (hn : H0 b = none)
    (k : ∀ H, H0.le H → K (.agg ((List.range 16).map tbl).toArray) H) : ∀ (d i : Nat) (H : Hp), i + d = 16 → H = H0.set b (.obj (.cells (filled tbl (.int .u32 0) 16 i) e)) → W_crc_nibbles.l2 K (d + 1) ⟨b, 0, none⟩ (i : Int) H
  | 0, i, H, hi, hH => by
    obtain rfl : i = 16 := by omega
    unfold W_crc_nibbles.l2
    refine BIf_dneg (by omega) ?_
    have hb : H b = some (.obj (.cells (filled tbl (.int .u32 0) 16 16) e)) := by rw [hH]; exact Hp.set_same _ _ _
    refine LdA_obj hb (filled_size _ _ _ _) ?_
    refine StA_obj hb (filled_size _ _ _ _) (by simp [filled_size]) ?_ ?_
    · rw [filled_all]; intro v hv; simp at hv; obtain ⟨a, _, rfl⟩ := hv; rfl
    refine LdA_obj (Hp.set_same _ _ _) (by simp [filled_size]) ?_
    rw [Array.toArray_toList, filled_all]
    refine k _ ?_
    rw [hH, Hp.set_set]
    exact Hp.le_set hn
  | d + 1, i, H, hi, hH => by
    unfold W_crc_nibbles.l2
    refine BIf_dpos (by omega) ?_
    refine ⟨5, ?_⟩
    have hb : H b = some (.obj (.cells (filled tbl (.int .u32 0) 16 i) e)) := by rw [hH]; exact Hp.set_same _ _ _
    rw [show IntKind.u32.wrap (i : Int) = ((BitVec.ofNat 32 i).toNat : Int) by rw [BitVec.toNat_ofNat, Nat.mod_eq_of_lt (by omega)]; exact u32n (by omega)]
    refine nib_inner K _ b _ e (filled_size _ _ _ _) H hb i (by omega) i _ ?_ 4 0 _ rfl rfl
    rw [i64w (by omega) (by omega)]
    refine nib_outer K b e H0 hn k d (i + 1) _ (by omega) ?_
    rw [hH, Hp.set_set]
    congr 3
    exact filled_set tbl (.int .u32 0) (by omega)

theorem nibbles_ok (H : Hp) : HCalls Try.prog 102 #[] H (RetE (.agg ((List.range 16).map tbl).toArray) H) := by
  apply HCalls.ret
  apply W_crc_nibbles.ok
  unfold W_crc_nibbles
  intro b hb
  refine ⟨17, ?_⟩
  exact nib_outer _ b _ H hb (fun H' hl => ⟨rfl, hl⟩) 16 0 _ rfl rfl

/-- One step by half bytes. -/
theorem nib_step (v : W32) : (v >>> 4) ^^^ it bit1 4 (v &&& 15#32) = it bit1 4 v := (nibble v).symm

theorem and15 (v : W32) : bAnd .u32 (v.toNat : Int) 15 = ((v &&& 15#32).toNat : Int) := and32 v 15#32
theorem and15_lt (v : W32) : (v &&& 15#32).toNat < 16 := by
  rw [BitVec.toNat_and]
  exact Nat.lt_of_le_of_lt Nat.and_le_right (by decide)

theorem tbl_get (v : W32) : (((List.range 16).map tbl).toArray)[(v &&& 15#32).toNat]? = some (.int .u32 ((it bit1 4 (v &&& 15#32)).toNat : Int)) := by
  have h := and15_lt v
  simp only [List.getElem?_toArray, List.getElem?_map, List.getElem?_range h, Option.map_some]
  unfold tbl
  rw [BitVec.ofNat_toNat, BitVec.setWidth_eq]

theorem More_loop (K : Value → Hp → Prop) (t : Nat) (e : TypeId) (A : Option Addr) (n m : Nat) (bs : List UInt8) (hn : n = bs.length) (hm : n ≤ 9223372036854775807) (H : Hp) (ht : H t = some (.obj (.cells ((List.range 16).map tbl).toArray e))) (hb : Cells H A (byteVals bs)) (w : W32)
    (k : K (.int .u32 ((~~~ w).toNat : Int)) H) : ∀ (d j : Nat) (v : W32), j + d = n → run v (bs.drop j) = w → W_crc_More.l4 K (d + 1) ⟨t, 0, none⟩ (v.toNat : Int) A n m n (j : Int) H
  | 0, j, v, hj, hv => by
    unfold W_crc_More.l4
    refine BIf_dneg (by omega) ?_
    rw [List.drop_eq_nil_of_le (by omega)] at hv
    obtain rfl : v = w := hv
    rw [show IntKind.u32.max = ((BitVec.allOnes 32).toNat : Int) from rfl, xor32, BitVec.allOnes_xor]
    exact k
  | d + 1, j, v, hj, hv => by
    unfold W_crc_More.l4
    refine BIf_dpos (by omega) ?_
    have hlt : j < bs.length := by omega
    refine hb.read (i := j) (v := .int .u8 (bs[j].toNat : Int)) (by rw [byteVals_get, List.getElem?_eq_getElem hlt]; rfl) rfl (by rw [byteVals_length]; omega) ?_
    simp only [DI_int', DB_bool, DS_string, DP_pointer, DSl_slice, DM_map, DA_agg, DTup_tuple, DCons_cons, DNil_nil, NN_some, BIf_true, BIf_false, BIf_same, List.toList_toArray, Bool.not_true, Bool.not_false]
    refine ⟨by omega, ?_⟩
    rw [show (bs[j].toNat : Int) = ((bs[j].toBitVec).toNat : Int) from rfl, low8, xor32, and15]
    refine ⟨by omega, by have := and15_lt (v ^^^ BitVec.setWidth 32 bs[j].toBitVec); omega, ?_⟩
    simp only [Addr.add_lit', Int.toNat_natCast, Nat.mul_one, Nat.zero_add]
    refine Ld_obj ht (tbl_get _) ?_
    simp only [DI_int', DB_bool, DS_string, DP_pointer, DSl_slice, DM_map, DA_agg, DTup_tuple, DCons_cons, DNil_nil, NN_some, BIf_true, BIf_false, BIf_same, List.toList_toArray, Bool.not_true, Bool.not_false]
    refine ⟨by omega, ?_⟩
    rw [shr32 _ (i := 4) (n := 4) rfl (by omega), xor32, nib_step, and15]
    refine ⟨by omega, by have := and15_lt (it bit1 4 (v ^^^ BitVec.setWidth 32 bs[j].toBitVec)); omega, ?_⟩
    simp only [Addr.add_lit', Int.toNat_natCast, Nat.mul_one, Nat.zero_add]
    refine Ld_obj ht (tbl_get _) ?_
    simp only [DI_int', DB_bool, DS_string, DP_pointer, DSl_slice, DM_map, DA_agg, DTup_tuple, DCons_cons, DNil_nil, NN_some, BIf_true, BIf_false, BIf_same, List.toList_toArray, Bool.not_true, Bool.not_false]
    rw [shr32 _ (i := 4) (n := 4) rfl (by omega), xor32, nib_step, i64w (by omega) (by omega)]
    refine More_loop K t e A n m bs hn hm H ht hb w k d (j + 1) _ (by omega) ?_
    rw [List.drop_eq_getElem_cons hlt] at hv
    exact hv

theorem More_ok (s : W32) (A : Option Addr) (n m : Nat) (bs : List UInt8) (hn : n = bs.length) (hm : n ≤ 9223372036854775807) (H : Hp) (hb : Cells H A (byteVals bs)) :
    HCalls Try.prog 86 #[.int .u32 (s.toNat : Int), .slice A n m] H (RetE (.int .u32 ((more s bs).toNat : Int)) H) := by
  apply HCalls.ret
  apply W_crc_More.ok
  unfold W_crc_More
  refine HCalls.use (nibbles_ok H) ?_
  try simp only [DI_int', DB_bool, DS_string, DP_pointer, DSl_slice, DM_map, DA_agg, DTup_tuple, DCons_cons, DNil_nil, NN_some, BIf_true, BIf_false, BIf_same, List.toList_toArray, Bool.not_true, Bool.not_false]
  intro b hbn
  refine StA_obj (Hp.set_same _ _ _) rfl (by simp) ?_ ?_
  · intro v hv; simp at hv; obtain ⟨a, _, rfl⟩ := hv; rfl
  rw [Hp.set_set]
  refine ⟨n + 1, ?_⟩
  rw [show IntKind.u32.max = ((BitVec.allOnes 32).toNat : Int) from rfl, xor32, BitVec.allOnes_xor]
  refine More_loop _ b _ A n m bs hn hm _ (Hp.set_same _ _ _) (hb.le (Hp.le_set hbn)) (run (~~~ s) bs) ?_ n 0 _ (by omega) rfl
  exact ⟨rfl, Hp.le_set hbn⟩

theorem Of_ok (A : Option Addr) (n m : Nat) (bs : List UInt8) (hn : n = bs.length) (hm : n ≤ 9223372036854775807) (H : Hp) (hb : Cells H A (byteVals bs)) :
    HCalls Try.prog 79 #[.slice A n m] H (RetE (.int .u32 ((sum bs).toNat : Int)) H) := by
  apply W_crc_Of.ok
  unfold W_crc_Of
  refine HCalls.use (More_ok 0#32 A n m bs hn hm H hb) ?_
  try simp only [DI_int', DB_bool, DS_string, DP_pointer, DSl_slice, DM_map, DA_agg, DTup_tuple, DCons_cons, DNil_nil, NN_some, BIf_true, BIf_false, BIf_same, List.toList_toArray, Bool.not_true, Bool.not_false]
  exact RetE.mk _ _

end Go.Proofs.Ytbnhfcdagoigkaa.CrcP
