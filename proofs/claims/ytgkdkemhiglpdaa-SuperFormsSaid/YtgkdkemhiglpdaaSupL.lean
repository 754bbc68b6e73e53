/- The law SuperForms. -/
import Derived.Test.YtgkdkemhiglpdaaSupD
set_option maxRecDepth 100000
set_option linter.unusedSimpArgs false
set_option linter.unusedVariables false
set_option linter.unnecessarySimpa false
set_option linter.unusedSectionVars false
namespace Go.Proofs.Ytgkdkemhiglpdaa.Sup
open Go Go.Hw Go.Form Go.Proofs.Ytgkdkemhiglpdaa.W Go.Proofs.Ytgkdkemhiglpdaa.Lay

theorem p_sup : plain64 Try.prog 23 4 := ⟨by kernel_rfl, by kernel_rfl, by kernel_rfl, by kernel_rfl⟩
theorem p_lay : plain64 Try.prog 38 17 := ⟨by kernel_rfl, by kernel_rfl, by kernel_rfl, by kernel_rfl⟩

def sbL (x : Sb) : List Int := [x.1, x.2.1, x.2.2.1, x.2.2.2]
theorem sbL_eq (x : Sb) : sbV x = ((sbL x).map (Value.int .i64)).toArray := rfl

theorem wrap64_range (x : Int) : -9223372036854775808 ≤ IntKind.i64.wrap x ∧ IntKind.i64.wrap x ≤ 9223372036854775807 := by
  simp only [IntKind.wrap, IntKind.bits, IntKind.signed, Bool.true_and]
  split
  · rename_i h; simp at h; omega
  · rename_i h; simp at h; omega

theorem takeV_range (bs : List UInt8) (hl : bs.length ≤ 1000000000) : ∀ x ∈ sbL (takeV bs).1, -9223372036854775808 ≤ x ∧ x ≤ 9223372036854775807 := by
  have z : ∀ x ∈ sbL (0, 0, 0, 0), -9223372036854775808 ≤ x ∧ x ≤ 9223372036854775807 := by
    intro x hx
    simp [sbL] at hx
    omega
  unfold takeV
  split
  · exact z
  split
  · exact z
  split
  · exact z
  split
  · intro x hx
    have h1 := wrap64_range (wordN bs 8 : Nat)
    have h2 := wrap64_range (wordN bs 16 : Nat)
    simp only [sbL, sbOf, List.mem_cons, List.not_mem_nil, or_false] at hx
    rcases hx with rfl | rfl | rfl | rfl
    · omega
    · exact h1
    · omega
    · exact h2
  · exact z

theorem takeV_supF (k sec s ar : Int) (h : goodB k sec s ar = true) (hsec : sec ≤ 9223372036854775807) : takeV (supF k sec s ar) = ((k, sec, s, ar), 0) := by
  have hg := h
  unfold goodB at hg
  simp only [decide_eq_true_eq] at hg
  obtain ⟨h1, h2, h3, h4, h5, h6⟩ := hg
  obtain ⟨kn, rfl⟩ := Int.eq_ofNat_of_zero_le h1
  have hlen := supF_len kn sec s ar h3
  have hlog := log_per s
  have hll := log_le s
  have hw : ∀ (i : Nat) (hi : i < 4), wordN (supF kn sec s ar) (8 * i) = ((supS kn sec s ar)[i]'(by rw [supS_len]; exact hi)).toNat := fun i hi => wordN_form (by rw [supS_len]; exact hi) _
  have hf64 : firstN kn s < 2 ^ 64 := by unfold firstN; omega
  have w0 : wordN (supF kn sec s ar) 0 = firstN kn s := (hw 0 (by omega)).trans (u64_of hf64)
  have w1 : wordN (supF kn sec s ar) 8 = sec.toNat := (hw 1 (by omega)).trans (u64_of (by omega))
  have w2 : wordN (supF kn sec s ar) 16 = ar.toNat := (hw 2 (by omega)).trans (u64_of (by omega))
  have hcr : crcN (firstN kn s) sec.toNat ar.toNat = (Go.Crc.sum (form (supW kn sec s ar))).toNat := rfl
  have hsum := (Go.Crc.sum (form (supW kn sec s ar))).isLt
  have w3 : wordN (supF kn sec s ar) 24 = crcN (firstN kn s) sec.toNat ar.toNat := (hw 3 (by omega)).trans (by rw [hcr]; exact u64_of (by omega))
  have hz : noughts (supF kn sec s ar) = true := by
    unfold noughts supF
    rw [List.drop_left' (by rw [form_length, supS_len])]
    simp
  have hf1 : firstN kn s / 4294967296 = 1094861123 := by unfold firstN; omega
  have hf2 : firstN kn s / 65536 % 65536 = kn := by unfold firstN; omega
  have hf3 : ((firstN kn s % 65536 : Nat) : Int) = logN s := by unfold firstN; omega
  have hsb : sbOf (supF kn sec s ar) = ((kn : Int), sec, s, ar) := by
    unfold sbOf
    rw [w0, w1, w2, hf2, hlen, i64w (by omega) (by omega), i64w (by omega) (by omega), show ((sec.toNat : Nat) : Int) = sec by omega, show ((ar.toNat : Nat) : Int) = ar by omega]
  unfold takeV
  rw [hlen, hsb, w0, w1, w2, w3, if_neg (by omega), if_neg (by simp [hf1, hz]), if_neg (by simp), if_pos ⟨h, hf3⟩]

theorem awake_ok (H : Hp) : HCalls Try.prog 8 #[] H (RetE (.bool true) H) := by
  apply HCalls.ret
  apply W_abacistlaw18_awake.ok
  unfold W_abacistlaw18_awake
  refine HCalls.use (Put_no 0 0 0 0 (by decide) H) ?_
  simp only [DI_int', DB_bool, DS_string, DP_pointer, DSl_slice, DM_map, DA_agg, DTup_tuple, DCons_cons, DNil_nil, NN_some, BIf_true, BIf_false, BIf_same, List.toList_toArray, Bool.not_true, Bool.not_false]
  refine (Put_ok 3 17 32 64 (by decide) (by omega)).use (Sep.start H) [] rfl rfl ?_
  rintro _ _ H' ⟨b, rfl, rfl⟩ hs
  simp only [DI_int', DB_bool, DS_string, DP_pointer, DSl_slice, DM_map, DA_agg, DTup_tuple, DCons_cons, DNil_nil, NN_some, BIf_true, BIf_false, BIf_same, List.toList_toArray, Bool.not_true, Bool.not_false]
  refine BIf_beqp rfl (BIf_beqp rfl ?_)
  exact hs.fin 1 rfl _

set_option maxHeartbeats 1000000 in
theorem SuperForms_ok (k sec s ar : Int) (hk : -9223372036854775808 ≤ k ∧ k ≤ 9223372036854775807) (hsec : -9223372036854775808 ≤ sec ∧ sec ≤ 9223372036854775807) (hsr : -9223372036854775808 ≤ s ∧ s ≤ 9223372036854775807) (har : -9223372036854775808 ≤ ar ∧ ar ≤ 9223372036854775807)
    (A : Option Addr) (n m : Nat) (hnm : n ≤ m) (bs : List UInt8) (hn : n = bs.length) (H : Hp) (hb : Cells H A (byteVals bs)) :
    HCalls Try.prog 3 #[.agg #[.int .i64 k, .int .i64 sec, .int .i64 s, .int .i64 ar], .slice A n m] H (Ret (.bool true) H) := by
  apply W_abacistlaw18_SuperForms.ok
  unfold W_abacistlaw18_SuperForms
  simp only [NN_some, Addr.add_lit', Addr.add_zero, Nat.zero_add, Nat.add_zero]
  refine (Sep.start H).nw fun b1 H' hs => ?_
  refine HCalls.use (awake_ok H') ?_
  try simp only [DI_int', DB_bool, DS_string, DP_pointer, DSl_slice, DM_map, DA_agg, DTup_tuple, DCons_cons, DNil_nil, NN_some, BIf_true, BIf_false, BIf_same, List.toList_toArray, Bool.not_true, Bool.not_false]
  by_cases h42 : n > 4200
  · exact BIf_dpos (by omega) (hs.fin 0 rfl _)
  refine BIf_dneg (by omega) ?_
  have hl9 : bs.length ≤ 1000000000 := by omega
  have hbs : (BsK H A n fun s => s = ⟨bs.toArray⟩) := BsK_of hb hn rfl
  refine hs.ldw 1 rfl rfl ?_
  have tr := takeV_range bs hl9
  -- the two answers of Put
  have put : ∀ (K : Value → Hp → Prop), (goodB k sec s ar = false → ∀ H', Sep [own H, pts b1 (.obj (.cells (supV k sec s ar) 23))] H' → K (.tuple #[.slice none 0 0, .int .i64 1]) H') →
      (goodB k sec s ar = true → ∀ b H', Sep [own H, pts b1 (.obj (.cells (supV k sec s ar) 23)), pts b (.row (byteVals (supF k sec s ar)) 5 s.toNat)] H' → K (.tuple #[.slice (some ⟨b, 0, none⟩) s.toNat s.toNat, .int .i64 0]) H') →
      HCalls Try.prog 9 #[.agg (supV k sec s ar)] H' K := fun K k1 k2 => by
    by_cases hg : goodB k sec s ar = true
    · refine (Put_ok k sec s ar hg hsec.2).use hs [] rfl rfl ?_
      rintro _ _ H' ⟨b, rfl, rfl⟩ hs
      exact k2 hg b H' (hs.re [1, 2, 0] rfl)
    · rw [Bool.not_eq_true] at hg
      exact HCalls.use (Put_no k sec s ar hg H') (k1 hg H' hs)
  refine put _ (fun hg H' hs => ?_) (fun hg b H' hs => ?_)
  · simp only [DI_int', DB_bool, DS_string, DP_pointer, DSl_slice, DM_map, DA_agg, DTup_tuple, DCons_cons, DNil_nil, NN_some, BIf_true, BIf_false, BIf_same, List.toList_toArray, Bool.not_true, Bool.not_false]
    refine HCalls.use (Take_ok A n m hnm (by omega) bs hn H' (hb.le (hs.ow 0 rfl))) ?_
    try simp only [DI_int', DB_bool, DS_string, DP_pointer, DSl_slice, DM_map, DA_agg, DTup_tuple, DCons_cons, DNil_nil, NN_some, BIf_true, BIf_false, BIf_same, List.toList_toArray, Bool.not_true, Bool.not_false]
    refine hs.nw fun b2 H' hs => ?_
    refine hs.stw 2 rfl rfl rfl rfl fun H' hs => ?_
    refine BsK_of (hb.le (hs.ow 0 rfl)) hn ?_
    refine HCalls.use (rTake_ok bs hl9 H') ?_
    try simp only [DI_int', DB_bool, DS_string, DP_pointer, DSl_slice, DM_map, DA_agg, DTup_tuple, DCons_cons, DNil_nil, NN_some, BIf_true, BIf_false, BIf_same, List.toList_toArray, Bool.not_true, Bool.not_false]
    refine hs.nw fun b3 H' hs => ?_
    refine hs.stw 3 rfl rfl rfl rfl fun H' hs => ?_
    refine hs.ldw 1 rfl rfl ?_
    refine QCall.use (Good_ok k sec s ar H') ?_
    try simp only [DI_int', DB_bool, DS_string, DP_pointer, DSl_slice, DM_map, DA_agg, DTup_tuple, DCons_cons, DNil_nil, NN_some, BIf_true, BIf_false, BIf_same, List.toList_toArray, Bool.not_true, Bool.not_false]
    refine hs.ldw 1 rfl rfl ?_
    refine QCall.use (rGood_ok k sec s ar H') ?_
    try simp only [DI_int', DB_bool, DS_string, DP_pointer, DSl_slice, DM_map, DA_agg, DTup_tuple, DCons_cons, DNil_nil, NN_some, BIf_true, BIf_false, BIf_same, List.toList_toArray, Bool.not_true, Bool.not_false]
    refine BIf_neg (by simp) ?_
    refine hs.ldw 2 rfl rfl ?_
    refine hs.ldw 3 rfl rfl ?_
    refine EqI_neq p_sup (a := sbL (takeV bs).1) (b := sbL (takeV bs).1) rfl rfl tr tr rfl rfl ?_
    refine BIf_neg (by simp) (BIf_bnen rfl ?_)
    refine hs.ldw 1 rfl rfl ?_
    refine HCalls.use (Layout_ok k sec s ar H') ?_
    try simp only [DI_int', DB_bool, DS_string, DP_pointer, DSl_slice, DM_map, DA_agg, DTup_tuple, DCons_cons, DNil_nil, NN_some, BIf_true, BIf_false, BIf_same, List.toList_toArray, Bool.not_true, Bool.not_false]
    rw [if_neg (by rw [hg]; simp)]
    simp only [DI_int', DB_bool, DS_string, DP_pointer, DSl_slice, DM_map, DA_agg, DTup_tuple, DCons_cons, DNil_nil, NN_some, BIf_true, BIf_false, BIf_same, List.toList_toArray, Bool.not_true, Bool.not_false]
    refine hs.nw fun b4 H' hs => ?_
    refine hs.stw 4 rfl rfl rfl rfl fun H' hs => ?_
    refine hs.ldw 1 rfl rfl ?_
    refine HCalls.use (rGood_ok k sec s ar H') ?_
    try simp only [DI_int', DB_bool, DS_string, DP_pointer, DSl_slice, DM_map, DA_agg, DTup_tuple, DCons_cons, DNil_nil, NN_some, BIf_true, BIf_false, BIf_same, List.toList_toArray, Bool.not_true, Bool.not_false]
    rw [hg]
    refine BIf_pos rfl (BIf_beqp rfl (BIf_beqp rfl (BIf_beqp rfl ?_)))
    refine hs.ldw 4 rfl rfl ?_
    refine EqI_eql p_lay (a := List.replicate 17 0) (b := List.replicate 17 0) rfl rfl (by intro x hx; simp at hx; omega) (by intro x hx; simp at hx; omega) rfl rfl ?_
    rw [show decide (List.replicate 17 (0 : Int) = List.replicate 17 0) = true by simp]
    exact hs.fin 0 rfl _
  · have hlen := supF_len k sec s ar
    have hgg := hg
    unfold goodB at hgg
    simp only [decide_eq_true_eq] at hgg
    have hlen := hlen hgg.2.2.1
    have hlog := log_per s
    have hper := perN_le s
    simp only [DI_int', DB_bool, DS_string, DP_pointer, DSl_slice, DM_map, DA_agg, DTup_tuple, DCons_cons, DNil_nil, NN_some, BIf_true, BIf_false, BIf_same, List.toList_toArray, Bool.not_true, Bool.not_false]
    refine HCalls.use (Take_ok A n m hnm (by omega) bs hn H' (hb.le (hs.ow 0 rfl))) ?_
    try simp only [DI_int', DB_bool, DS_string, DP_pointer, DSl_slice, DM_map, DA_agg, DTup_tuple, DCons_cons, DNil_nil, NN_some, BIf_true, BIf_false, BIf_same, List.toList_toArray, Bool.not_true, Bool.not_false]
    refine hs.nw fun b2 H' hs => ?_
    refine hs.stw 3 rfl rfl rfl rfl fun H' hs => ?_
    refine BsK_of (hb.le (hs.ow 0 rfl)) hn ?_
    refine HCalls.use (rTake_ok bs hl9 H') ?_
    try simp only [DI_int', DB_bool, DS_string, DP_pointer, DSl_slice, DM_map, DA_agg, DTup_tuple, DCons_cons, DNil_nil, NN_some, BIf_true, BIf_false, BIf_same, List.toList_toArray, Bool.not_true, Bool.not_false]
    refine hs.nw fun b3 H' hs => ?_
    refine hs.stw 4 rfl rfl rfl rfl fun H' hs => ?_
    refine hs.ldw 1 rfl rfl ?_
    refine QCall.use (Good_ok k sec s ar H') ?_
    try simp only [DI_int', DB_bool, DS_string, DP_pointer, DSl_slice, DM_map, DA_agg, DTup_tuple, DCons_cons, DNil_nil, NN_some, BIf_true, BIf_false, BIf_same, List.toList_toArray, Bool.not_true, Bool.not_false]
    refine hs.ldw 1 rfl rfl ?_
    refine QCall.use (rGood_ok k sec s ar H') ?_
    try simp only [DI_int', DB_bool, DS_string, DP_pointer, DSl_slice, DM_map, DA_agg, DTup_tuple, DCons_cons, DNil_nil, NN_some, BIf_true, BIf_false, BIf_same, List.toList_toArray, Bool.not_true, Bool.not_false]
    refine BIf_neg (by simp) ?_
    refine hs.ldw 3 rfl rfl ?_
    refine hs.ldw 4 rfl rfl ?_
    refine EqI_neq p_sup (a := sbL (takeV bs).1) (b := sbL (takeV bs).1) rfl rfl tr tr rfl rfl ?_
    refine BIf_neg (by simp) (BIf_bnen rfl ?_)
    refine hs.ldw 1 rfl rfl ?_
    refine HCalls.use (Layout_ok k sec s ar H') ?_
    try simp only [DI_int', DB_bool, DS_string, DP_pointer, DSl_slice, DM_map, DA_agg, DTup_tuple, DCons_cons, DNil_nil, NN_some, BIf_true, BIf_false, BIf_same, List.toList_toArray, Bool.not_true, Bool.not_false]
    rw [if_pos hg]
    simp only [DI_int', DB_bool, DS_string, DP_pointer, DSl_slice, DM_map, DA_agg, DTup_tuple, DCons_cons, DNil_nil, NN_some, BIf_true, BIf_false, BIf_same, List.toList_toArray, Bool.not_true, Bool.not_false]
    refine hs.nw fun b4 H' hs => ?_
    refine hs.stw 5 rfl rfl rfl rfl fun H' hs => ?_
    refine hs.ldw 1 rfl rfl ?_
    refine HCalls.use (rGood_ok k sec s ar H') ?_
    try simp only [DI_int', DB_bool, DS_string, DP_pointer, DSl_slice, DM_map, DA_agg, DTup_tuple, DCons_cons, DNil_nil, NN_some, BIf_true, BIf_false, BIf_same, List.toList_toArray, Bool.not_true, Bool.not_false]
    rw [hg]
    refine BIf_neg rfl ?_
    have hcf := fun (H' : Hp) (h : H' b = some (.row (byteVals (supF k sec s ar)) 5 s.toNat)) => (Cells.row h 0 s.toNat)
    have hcf : ∀ H' : Hp, H' b = some (.row (byteVals (supF k sec s ar)) 5 s.toNat) → Cells H' (some ⟨b, 0, none⟩) (byteVals (supF k sec s ar)) := fun H' h => by
      have := Cells.row h 0 s.toNat
      rw [List.drop_zero, List.take_of_length_le (by rw [byteVals_length]; omega)] at this
      exact this
    refine HCalls.use (Take_ok (some ⟨b, 0, none⟩) s.toNat s.toNat (Nat.le_refl _) (by omega) (supF k sec s ar) (by omega) H' (hcf H' (hs.get 2 rfl))) ?_
    try simp only [DI_int', DB_bool, DS_string, DP_pointer, DSl_slice, DM_map, DA_agg, DTup_tuple, DCons_cons, DNil_nil, NN_some, BIf_true, BIf_false, BIf_same, List.toList_toArray, Bool.not_true, Bool.not_false]
    rw [takeV_supF k sec s ar hg hsec.2]
    refine hs.nw fun b5 H' hs => ?_
    refine hs.stw 6 rfl rfl rfl rfl fun H' hs => ?_
    refine BIf_beqp rfl ?_
    refine BsK_of (hcf H' (hs.get 2 rfl)) (by omega) ?_
    refine hs.ldw 1 rfl rfl ?_
    refine QCall.use (rPut_ok k sec s ar hg hsec.2 H') ?_
    try simp only [DI_int', DB_bool, DS_string, DP_pointer, DSl_slice, DM_map, DA_agg, DTup_tuple, DCons_cons, DNil_nil, NN_some, BIf_true, BIf_false, BIf_same, List.toList_toArray, Bool.not_true, Bool.not_false]
    refine BIf_pos (by simp) (BIf_beqp rfl ?_)
    refine hs.ldw 6 rfl rfl ?_
    refine hs.ldw 1 rfl rfl ?_
    have rr : ∀ x ∈ sbL (k, sec, s, ar), -9223372036854775808 ≤ x ∧ x ≤ 9223372036854775807 := by
      intro x hx
      simp only [sbL, List.mem_cons, List.not_mem_nil, or_false] at hx
      rcases hx with rfl | rfl | rfl | rfl <;> assumption
    refine EqI_eql p_sup (a := sbL (k, sec, s, ar)) (b := sbL (k, sec, s, ar)) rfl rfl rr rr rfl rfl ?_
    refine BIf_pos (by simp) (BIf_beqp rfl ?_)
    refine hs.ld 5 rfl rfl ?_
    simp only [DI_int', DB_bool, DS_string, DP_pointer, DSl_slice, DM_map, DA_agg, DTup_tuple, DCons_cons, DNil_nil, NN_some, BIf_true, BIf_false, BIf_same, List.toList_toArray, Bool.not_true, Bool.not_false]
    refine hs.ld 1 rfl rfl ?_
    simp only [DI_int', DB_bool, DS_string, DP_pointer, DSl_slice, DM_map, DA_agg, DTup_tuple, DCons_cons, DNil_nil, NN_some, BIf_true, BIf_false, BIf_same, List.toList_toArray, Bool.not_true, Bool.not_false]
    refine BIf_beqp (by omega) ?_
    refine hs.ld 5 rfl rfl ?_
    simp only [DI_int', DB_bool, DS_string, DP_pointer, DSl_slice, DM_map, DA_agg, DTup_tuple, DCons_cons, DNil_nil, NN_some, BIf_true, BIf_false, BIf_same, List.toList_toArray, Bool.not_true, Bool.not_false]
    refine hs.ld 1 rfl rfl ?_
    simp only [DI_int', DB_bool, DS_string, DP_pointer, DSl_slice, DM_map, DA_agg, DTup_tuple, DCons_cons, DNil_nil, NN_some, BIf_true, BIf_false, BIf_same, List.toList_toArray, Bool.not_true, Bool.not_false]
    refine ⟨by decide, by simp, ?_⟩
    have hd : Int.tdiv s 8 = (perN s : Int) := by
      have h8 : s = 8 * (perN s : Int) := by omega
      conv => lhs; rw [h8]
      exact Int.mul_tdiv_cancel_left _ (by omega)
    rw [hd, i64n (by omega)]
    rw [show (((perN s : Int)) == ((perN s : Nat) : Int)) = true by simp]
    exact hs.fin 0 rfl _

end Go.Proofs.Ytgkdkemhiglpdaa.Sup
