/- The document's sums; the laws CrcTells and CrcJoins' parts. -/
import Derived.Test.YtbnhfcdagoigkaaCrcA
import Derived.Test.YtbnhfcdagoigkaaFormA
set_option maxRecDepth 100000
set_option linter.unusedSimpArgs false
set_option linter.unusedVariables false
set_option linter.unnecessarySimpa false
set_option linter.unusedSectionVars false

namespace Go.Proofs.Ytbnhfcdagoigkaa.CrcP
open Go Go.Hw Go.Crc Go.Form Go.Proofs.Ytbnhfcdagoigkaa.W

theorem low_shr (c : BitVec 8) : (c >>> 1).setWidth 32 = (c.setWidth 32) >>> 1 := by
  apply BitVec.eq_of_getLsbD_eq
  intro i hi
  simp only [BitVec.getLsbD_setWidth, BitVec.getLsbD_ushiftRight]
  by_cases h : 1 + i < 32
  · simp [hi, h]
  · have := BitVec.getLsbD_of_ge c (1 + i) (by omega)
    simp [this]

theorem xor3 (a b c : W32) : (a ^^^ b) ^^^ c = (a ^^^ c) ^^^ b := by rw [BitVec.xor_assoc, BitVec.xor_comm b c, BitVec.xor_assoc]

theorem ref_step (v : W32) (c : BitVec 8) : ((v >>> 1) ^^^ (if (v ^^^ c.setWidth 32).getLsbD 0 then poly else 0#32)) ^^^ (c >>> 1).setWidth 32 = bit1 (v ^^^ c.setWidth 32) := by
  unfold bit1
  rw [BitVec.ushiftRight_xor_distrib, low_shr]
  exact xor3 _ _ _

theorem rOf_inner (K : Value → Hp → Prop) (R3 : ByteArray → Int → Int → Hp → Prop) (s : ByteArray) (x5 : Int) (H : Hp) (w : W32) (k : R3 s (w.toNat : Int) (IntKind.i64.wrap (x5 + 1)) H) : ∀ (d j : Nat) (v : W32) (c : BitVec 8), j + d = 8 → c >>> d = 0#8 → it bit1 d (v ^^^ c.setWidth 32) = w →
      W_abacistref16_Of.l7 K R3 (d + 1) s (v.toNat : Int) x5 (c.toNat : Int) (j : Int) H
  | 0, j, v, c, hj, hc, hv => by
    unfold W_abacistref16_Of.l7
    refine BIf_dneg (by omega) ?_
    have hc' : c = 0#8 := by simpa using hc
    subst hc'
    obtain rfl : v = w := by simpa [it] using hv
    exact k
  | d + 1, j, v, c, hj, hc, hv => by
    unfold W_abacistref16_Of.l7
    refine BIf_dpos (by omega) ?_
    rw [low8, xor32, mod32, div32, div8, i64w (by omega) (by omega)]
    refine ⟨by omega, rfl, by omega, rfl, by omega, rfl, ?_⟩
    have hc' : (c >>> 1) >>> d = 0#8 := by rw [← BitVec.shiftRight_add, Nat.add_comm]; exact hc
    have hs := ref_step v c
    refine BIf_intro (fun h => ?_) (fun h => ?_)
    · rw [h] at hs
      rw [show (2197175160 : Int) = (poly.toNat : Int) from rfl, xor32]
      exact rOf_inner K R3 s x5 H w k d (j + 1) _ _ (by omega) hc' (by rw [show it bit1 (d + 1) (v ^^^ BitVec.setWidth 32 c) = it bit1 d (bit1 (v ^^^ BitVec.setWidth 32 c)) from rfl, ← hs] at hv; simpa using hv)
    · rw [h] at hs
      exact rOf_inner K R3 s x5 H w k d (j + 1) _ _ (by omega) hc' (by rw [show it bit1 (d + 1) (v ^^^ BitVec.setWidth 32 c) = it bit1 d (bit1 (v ^^^ BitVec.setWidth 32 c)) from rfl, ← hs] at hv; simpa using hv)

theorem shr8 (c : BitVec 8) : c >>> 8 = 0#8 := by
  apply BitVec.eq_of_getLsbD_eq
  intro i hi
  rw [BitVec.getLsbD_ushiftRight, BitVec.getLsbD_of_ge c (8 + i) (by omega)]; simp

theorem rOf_outer (K : Value → Hp → Prop) (bs : List UInt8) (hm : bs.length ≤ 9223372036854775807) (H : Hp) (w : W32) (k : K (.int .u32 ((~~~ w).toNat : Int)) H) : ∀ (d j : Nat) (v : W32), j + d = bs.length → run v (bs.drop j) = w →
      W_abacistref16_Of.l3 K (d + 1) ⟨bs.toArray⟩ (v.toNat : Int) (j : Int) H
  | 0, j, v, hj, hv => by
    unfold W_abacistref16_Of.l3
    refine BIf_dneg (by rw [bsize']; omega) ?_
    rw [List.drop_eq_nil_of_le (by omega)] at hv
    obtain rfl : v = w := hv
    rw [show (4294967295 : Int) = ((BitVec.allOnes 32).toNat : Int) from rfl, xor32, BitVec.xor_allOnes]
    exact k
  | d + 1, j, v, hj, hv => by
    unfold W_abacistref16_Of.l3
    have hlt : j < bs.length := by omega
    refine BIf_dpos (by rw [bsize']; omega) ?_
    refine ⟨by omega, ?_⟩
    rw [Int.toNat_natCast]
    have hg : (ByteArray.mk bs.toArray)[j]? = some bs[j] := by
      rw [getElem?_pos (ByteArray.mk bs.toArray) j (by rw [bsize']; exact hlt)]
      congr 1
    unfold ixB
    rw [hg]
    refine ⟨9, ?_⟩
    rw [show ((bs[j].toNat : Nat) : Int) = ((bs[j].toBitVec).toNat : Int) from rfl]
    refine rOf_inner K _ _ _ H (byte v bs[j]) ?_ 8 0 v _ rfl (shr8 _) rfl
    rw [i64w (by omega) (by omega)]
    refine rOf_outer K bs hm H w k d (j + 1) _ (by omega) ?_
    rw [List.drop_eq_getElem_cons hlt] at hv
    exact hv
where bsize' : (ByteArray.mk bs.toArray).size = bs.length := FormP.bsize bs

theorem rOf_ok (bs : List UInt8) (hm : bs.length ≤ 9223372036854775807) (H : Hp) : HCalls Try.prog 53 #[.string ⟨bs.toArray⟩] H (RetE (.int .u32 ((sum bs).toNat : Int)) H) := by
  apply W_abacistref16_Of.ok
  refine ⟨bs.length + 1, ?_⟩
  rw [show (4294967295 : Int) = ((~~~ 0#32 : W32).toNat : Int) from rfl]
  refine rOf_outer _ bs hm H (run (~~~ 0#32) bs) ?_ bs.length 0 _ (by omega) rfl
  exact RetE.mk _ _

theorem rOfWords_ok (A : Option Addr) (n m : Nat) (l : List UInt64) (hn : n = l.length) (hm : n ≤ 10000000000) (H : Hp) (hl : Cells H A (wordVals l)) :
    HCalls Try.prog 25 #[.slice A n m] H (RetE (.int .u32 ((sum (form l)).toNat : Int)) H) := by
  apply W_abacistref16_OfWords.ok
  unfold W_abacistref16_OfWords
  refine HCalls.use (FormP.rPut_ok A n m l hn hm H hl) ?_
  try simp only [DI_int', DB_bool, DS_string, DP_pointer, DSl_slice, DM_map, DA_agg, DTup_tuple, DCons_cons, DNil_nil, NN_some, BIf_true, BIf_false, BIf_same, List.toList_toArray, Bool.not_true, Bool.not_false]
  refine HCalls.use (rOf_ok (form l) (by rw [form_length]; omega) H) ?_
  try simp only [DI_int', DB_bool, DS_string, DP_pointer, DSl_slice, DM_map, DA_agg, DTup_tuple, DCons_cons, DNil_nil, NN_some, BIf_true, BIf_false, BIf_same, List.toList_toArray, Bool.not_true, Bool.not_false]
  exact RetE.mk _ _

theorem OfWords_ok (A : Option Addr) (n m : Nat) (l : List UInt64) (hn : n = l.length) (hm : n ≤ 10000000000) (H : Hp) (hl : Cells H A (wordVals l)) :
    HCalls Try.prog 58 #[.slice A n m] H (RetE (.int .u32 ((sum (form l)).toNat : Int)) H) := by
  apply HCalls.ret
  apply W_crc_OfWords.ok
  unfold W_crc_OfWords
  refine (FormP.Put_ok A n m l hn (by omega) H hl).mono ?_
  rintro v H' ⟨b, hb, rfl, rfl⟩
  simp only [DI_int', DB_bool, DS_string, DP_pointer, DSl_slice, DM_map, DA_agg, DTup_tuple, DCons_cons, DNil_nil, NN_some, BIf_true, BIf_false, BIf_same, List.toList_toArray, Bool.not_true, Bool.not_false]
  have hf : (form l).length = 8 * n := by rw [form_length, hn]
  refine HCalls.use (Of_ok (some ⟨b, 0, none⟩) (8 * n) (8 * n) (form l) hf.symm (by omega) _ (by have := Cells.row (Hp.set_same H b (.row (byteVals (form l)) 5 (8 * n))) 0 (8 * n); rwa [List.drop_zero, List.take_of_length_le (by rw [byteVals_length, hf]; omega)] at this)) ?_
  try simp only [DI_int', DB_bool, DS_string, DP_pointer, DSl_slice, DM_map, DA_agg, DTup_tuple, DCons_cons, DNil_nil, NN_some, BIf_true, BIf_false, BIf_same, List.toList_toArray, Bool.not_true, Bool.not_false]
  exact ⟨rfl, Hp.le_set hb⟩

theorem sum_123 : sum [49, 50, 51, 52, 53, 54, 55, 56, 57] = 3808858755#32 := by decide +kernel

theorem u32_eq (a b : W32) : ((a.toNat : Int) == (b.toNat : Int)) = (a == b) := by
  by_cases h : a = b
  · subst h; simp
  · have : (a.toNat : Int) ≠ b.toNat := fun e => h (BitVec.eq_of_toNat_eq (by omega))
    rw [beq_false_of_ne h, beq_false_of_ne this]

end Go.Proofs.Ytbnhfcdagoigkaa.CrcP
