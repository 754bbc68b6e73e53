/- The law SuperForms. -/
import Derived.Test.YtbnhfcdagoigkaaSupD
set_option maxRecDepth 100000
set_option linter.unusedSimpArgs false
set_option linter.unusedVariables false
set_option linter.unnecessarySimpa false
set_option linter.unusedSectionVars false
namespace Go.Proofs.Ytbnhfcdagoigkaa.Sup
open Go Go.Hw Go.Form Go.Proofs.Ytbnhfcdagoigkaa.W Go.Proofs.Ytbnhfcdagoigkaa.Lay

theorem p_sup : plain64 Try.prog 23 4 := ⟨by kernel_rfl, by kernel_rfl, by kernel_rfl, by kernel_rfl⟩
theorem p_lay : plain64 Try.prog 149 17 := ⟨by kernel_rfl, by kernel_rfl, by kernel_rfl, by kernel_rfl⟩

def sbL (x : Sb) : List Int := [x.1, x.2.1, x.2.2.1, x.2.2.2]
theorem sbL_eq (x : Sb) : sbV x = ((sbL x).map (Value.int .i64)).toArray := rfl

theorem wrap64_range (x : Int) : -9223372036854775808 ≤ IntKind.i64.wrap x ∧ IntKind.i64.wrap x ≤ 9223372036854775807 := by
  simp only [IntKind.wrap, IntKind.bits, IntKind.signed, Bool.true_and]
  split
  · rename_i h; simp at h; omega
  · rename_i h; simp at h; omega

theorem takeV_range (bs : List UInt8) (hl : bs.length ≤ 1000000000) : ∀ x ∈ sbL (takeV bs).1, -9223372036854775808 ≤ x ∧ x ≤ 9223372036854775807 := by
  have z : ∀ x ∈ sbL (0, 0, 0, 0), -9223372036854775808 ≤ x ∧ x ≤ 9223372036854775807 := by
    intro x hx
    simp [sbL] at hx
    omega
  unfold takeV
  split
  · exact z
  split
  · exact z
  split
  · exact z
  split
  · intro x hx
    have h1 := wrap64_range (wordN bs 8 : Nat)
    have h2 := wrap64_range (wordN bs 16 : Nat)
    simp only [sbL, sbOf, List.mem_cons, List.not_mem_nil, or_false] at hx
    rcases hx with rfl | rfl | rfl | rfl
    · omega
    · exact h1
    · omega
    · exact h2
  · exact z

theorem takeV_supF (k sec s ar : Int) (h : goodB k sec s ar = true) (hsec : sec ≤ 9223372036854775807) : takeV (supF k sec s ar) = ((k, sec, s, ar), 0) := by
  have hg := h
  unfold goodB at hg
  simp only [decide_eq_true_eq] at hg
  obtain ⟨h1, h2, h3, h4, h5, h6⟩ := hg
  obtain ⟨kn, rfl⟩ := Int.eq_ofNat_of_zero_le h1
  have hlen := supF_len kn sec s ar h3
  have hlog := log_per s
  have hll := log_le s
  have hw : ∀ (i : Nat) (hi : i < 4), wordN (supF kn sec s ar) (8 * i) = ((supS kn sec s ar)[i]'(by rw [supS_len]; exact hi)).toNat := fun i hi => wordN_form (by rw [supS_len]; exact hi) _
  have hf64 : firstN kn s < 2 ^ 64 := by unfold firstN; omega
  have w0 : wordN (supF kn sec s ar) 0 = firstN kn s := (hw 0 (by omega)).trans (u64_of hf64)
  have w1 : wordN (supF kn sec s ar) 8 = sec.toNat := (hw 1 (by omega)).trans (u64_of (by omega))
  have w2 : wordN (supF kn sec s ar) 16 = ar.toNat := (hw 2 (by omega)).trans (u64_of (by omega))
  have hcr : crcN (firstN kn s) sec.toNat ar.toNat = (Go.Crc.sum (form (supW kn sec s ar))).toNat := rfl
  have hsum := (Go.Crc.sum (form (supW kn sec s ar))).isLt
  have w3 : wordN (supF kn sec s ar) 24 = crcN (firstN kn s) sec.toNat ar.toNat := (hw 3 (by omega)).trans (by rw [hcr]; exact u64_of (by omega))
  have hz : noughts (supF kn sec s ar) = true := by
    unfold noughts supF
    rw [List.drop_left' (by rw [form_length, supS_len])]
    simp
  have hf1 : firstN kn s / 4294967296 = 1094861123 := by unfold firstN; omega
  have hf2 : firstN kn s / 65536 % 65536 = kn := by unfold firstN; omega
  have hf3 : ((firstN kn s % 65536 : Nat) : Int) = logN s := by unfold firstN; omega
  have hsb : sbOf (supF kn sec s ar) = ((kn : Int), sec, s, ar) := by
    unfold sbOf
    rw [w0, w1, w2, hf2, hlen, i64w (by omega) (by omega), i64w (by omega) (by omega), show ((sec.toNat : Nat) : Int) = sec by omega, show ((ar.toNat : Nat) : Int) = ar by omega]
  unfold takeV
  rw [hlen, hsb, w0, w1, w2, w3, if_neg (by omega), if_neg (by simp [hf1, hz]), if_neg (by simp), if_pos ⟨h, hf3⟩]

theorem awake_ok (H : Hp) : HCalls Try.prog 5 #[] H (RetE (.bool true) H) := by
  apply HCalls.ret
  apply W_abacistlaw18_awake.ok
  unfold W_abacistlaw18_awake
  refine HCalls.use (Put_no 0 0 0 0 (by decide) H) ?_
  simp only [DI_int', DB_bool, DS_string, DP_pointer, DSl_slice, DM_map, DA_agg, DTup_tuple, DCons_cons, DNil_nil, NN_some, BIf_true, BIf_false, BIf_same, List.toList_toArray, Bool.not_true, Bool.not_false]
  refine (Put_ok 3 17 32 64 (by decide) (by omega)).use (Sep.start H) [] rfl rfl ?_
  rintro _ _ H' ⟨b, rfl, rfl⟩ hs
  simp only [DI_int', DB_bool, DS_string, DP_pointer, DSl_slice, DM_map, DA_agg, DTup_tuple, DCons_cons, DNil_nil, NN_some, BIf_true, BIf_false, BIf_same, List.toList_toArray, Bool.not_true, Bool.not_false]
  refine BIf_beqp rfl (BIf_beqp rfl ?_)
  exact hs.fin 1 rfl _

end Go.Proofs.Ytbnhfcdagoigkaa.Sup
