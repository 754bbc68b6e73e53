/- super: the document's form, and its superblock of a form; the law SuperForms. -/
import Derived.Test.YtgkdkemhiglpdaaSupC
import Derived.Test.YtgkdkemhiglpdaaHwQ
import Derived.Test.YtgkdkemhiglpdaaWabacistlaw18
set_option maxRecDepth 100000
set_option linter.unusedSimpArgs false
set_option linter.unusedVariables false
set_option linter.unnecessarySimpa false
set_option linter.unusedSectionVars false
namespace Go.Proofs.Ytgkdkemhiglpdaa.Sup
open Go Go.Hw Go.Form Go.Proofs.Ytgkdkemhiglpdaa.W Go.Proofs.Ytgkdkemhiglpdaa.Lay

theorem rtake_round (K : Value → Hp → Prop) (b1 : Nat) (bs : List UInt8) (h32 : 32 ≤ bs.length) (hm : bs.length ≤ 1000000000) (hp : 0 < perN bs.length) (H0 : Hp) (z : Array Value) (hz : z.size = 4) (e1 : TypeId)
    (hK : ∀ (x : Sb) (e : Int) H, takeV bs = (x, e) → H0.le H → K (.tuple #[.agg (sbV x), .int .i64 e]) H) : ∀ (d j : Nat) (H : Hp), 32 + j + d = bs.length → ((bs.drop 32).take j).all (· == 0) = true → Sep [own H0, pts b1 (.obj (.cells z e1))] H →
      W_abacistref18_Take.l5 K (d + 1) ⟨bs.toArray⟩ ⟨b1, 0, none⟩ ((wordN bs 0 : Nat) : Int) ((32 + j : Nat) : Int) H
  | 0, j, H, hj, h0, hs => by
    have hsz : ((⟨bs.toArray⟩ : ByteArray).size) = bs.length := by simp [ByteArray.size]
    have w0 := wordN_lt bs 0
    unfold W_abacistref18_Take.l5
    rw [hsz]
    have hz0 : noughts bs = true := by
      unfold noughts
      rw [List.take_of_length_le (by simp; omega)] at h0; exact h0
    refine BIf_dneg (by omega) ⟨by decide, rfl, ?_⟩
    rw [show Int.tdiv ((wordN bs 0 : Nat) : Int) 4294967296 = ((wordN bs 0 / 4294967296 : Nat) : Int) from rfl, u64n (by omega)]
    by_cases hmg : wordN bs 0 / 4294967296 = 1094861123
    · refine BIf_bnen (by omega) ?_
      refine HCalls.use (FormP.rWord_ok bs 8 (by omega) (by omega) H) ?_
      try simp only [DI_int', DB_bool, DS_string, DP_pointer, DSl_slice, DM_map, DA_agg, DTup_tuple, DCons_cons, DNil_nil, NN_some, BIf_true, BIf_false, BIf_same, List.toList_toArray, Bool.not_true, Bool.not_false]
      refine HCalls.use (FormP.rWord_ok bs 16 (by omega) (by omega) H) ?_
      try simp only [DI_int', DB_bool, DS_string, DP_pointer, DSl_slice, DM_map, DA_agg, DTup_tuple, DCons_cons, DNil_nil, NN_some, BIf_true, BIf_false, BIf_same, List.toList_toArray, Bool.not_true, Bool.not_false]
      refine HCalls.use (FormP.rWord_ok bs 24 (by omega) (by omega) H) ?_
      try simp only [DI_int', DB_bool, DS_string, DP_pointer, DSl_slice, DM_map, DA_agg, DTup_tuple, DCons_cons, DNil_nil, NN_some, BIf_true, BIf_false, BIf_same, List.toList_toArray, Bool.not_true, Bool.not_false]
      rw [wordVals3]
      refine hs.nw fun b2 H hs => ?_
      refine HCalls.use (CrcP.rOfWords_ok (some ⟨b2, 0, none⟩) 3 3 [UInt64.ofNat (wordN bs 0), UInt64.ofNat (wordN bs 8), UInt64.ofNat (wordN bs 16)] rfl (by omega) H (Cells.row (hs.get 2 (b := b2) (o := .row _ _ _) rfl) 0 3)) ?_
      try simp only [DI_int', DB_bool, DS_string, DP_pointer, DSl_slice, DM_map, DA_agg, DTup_tuple, DCons_cons, DNil_nil, NN_some, BIf_true, BIf_false, BIf_same, List.toList_toArray, Bool.not_true, Bool.not_false]
      have hcl := crcN_lt (wordN bs 0) (wordN bs 8) (wordN bs 16)
      rw [show (Go.Crc.sum (form [UInt64.ofNat (wordN bs 0), UInt64.ofNat (wordN bs 8), UInt64.ofNat (wordN bs 16)])).toNat = crcN (wordN bs 0) (wordN bs 8) (wordN bs 16) from rfl, u64n (by omega)]
      by_cases hcr : wordN bs 24 = crcN (wordN bs 0) (wordN bs 8) (wordN bs 16)
      · refine BIf_bnen (by omega) ⟨by decide, by simp, by decide, by simp, ?_⟩
        refine hs.nw fun b3 H hs => ?_
        refine hs.stw 3 rfl rfl rfl rfl fun H hs => ?_
        refine hs.ldw 3 rfl rfl ?_
        rw [show Int.tdiv ((wordN bs 0 : Nat) : Int) 65536 = ((wordN bs 0 / 65536 : Nat) : Int) from rfl, u64n (by omega), show Int.tmod ((wordN bs 0 / 65536 : Nat) : Int) 65536 = ((wordN bs 0 / 65536 % 65536 : Nat) : Int) from rfl, i64n (by omega)] at hs ⊢
        refine HCalls.use (rGood_ok (sbOf bs).1 (sbOf bs).2.1 (sbOf bs).2.2.1 (sbOf bs).2.2.2 H) ?_
        simp only [DI_int', DB_bool, DS_string, DP_pointer, DSl_slice, DM_map, DA_agg, DTup_tuple, DCons_cons, DNil_nil, NN_some, BIf_true, BIf_false, BIf_same, List.toList_toArray, Bool.not_true, Bool.not_false]
        have hb' : takeV bs = if goodB (sbOf bs).1 (sbOf bs).2.1 (sbOf bs).2.2.1 (sbOf bs).2.2.2 = true ∧ ((wordN bs 0 % 65536 : Nat) : Int) = logN bs.length then (sbOf bs, 0) else ((0, 0, 0, 0), 1) := by
          unfold takeV
          rw [if_neg (by omega), if_neg (by simp [hmg, hz0]), if_neg (by simp [hcr])]
        by_cases hg : goodB (sbOf bs).1 (sbOf bs).2.1 (sbOf bs).2.2.1 (sbOf bs).2.2.2 = true
        · refine BIf_neg (by rw [hg]; rfl) ⟨by decide, by simp, ?_⟩
          refine HCalls.use (Log_ok bs.length H) ?_
          try simp only [DI_int', DB_bool, DS_string, DP_pointer, DSl_slice, DM_map, DA_agg, DTup_tuple, DCons_cons, DNil_nil, NN_some, BIf_true, BIf_false, BIf_same, List.toList_toArray, Bool.not_true, Bool.not_false]
          rw [show Int.tmod ((wordN bs 0 : Nat) : Int) 65536 = ((wordN bs 0 % 65536 : Nat) : Int) from rfl, i64n (by omega)]
          by_cases hl : ((wordN bs 0 % 65536 : Nat) : Int) = logN bs.length
          · refine BIf_bnen hl ?_
            refine hs.ldw 3 rfl rfl ?_
            refine ret_err _ hs 1 rfl hz 0 _ rfl rfl fun H hs => hK (sbOf bs) 0 H ?_ (hs.ow 0 rfl)
            rw [hb', if_pos ⟨hg, hl⟩]
          · refine BIf_bnep hl ?_
            refine ret_err _ hs 1 rfl hz 1 _ rfl rfl fun H hs => hK (0, 0, 0, 0) 1 H ?_ (hs.ow 0 rfl)
            rw [hb', if_neg (fun h => hl h.2)]
        · refine BIf_pos (by rw [Bool.not_eq_true] at hg; rw [hg]; rfl) ?_
          refine ret_err _ hs 1 rfl hz 1 _ rfl rfl fun H hs => hK (0, 0, 0, 0) 1 H ?_ (hs.ow 0 rfl)
          rw [hb', if_neg (fun h => hg h.1)]
      · refine BIf_bnep (by omega) ?_
        refine ret_err _ hs 1 rfl hz 9 _ rfl rfl fun H hs => hK (0, 0, 0, 0) 9 H ?_ (hs.ow 0 rfl)
        unfold takeV
        rw [if_neg (by omega), if_neg (by simp [hmg, hz0]), if_pos hcr]
    · refine BIf_bnep (by omega) ?_
      refine ret_err _ hs 1 rfl hz 10 _ rfl rfl fun H hs => hK (0, 0, 0, 0) 10 H ?_ (hs.ow 0 rfl)
      unfold takeV
      rw [if_neg (by omega), if_pos (.inl hmg)]
  | d + 1, j, H, hj, h0, hs => by
    have hsz : ((⟨bs.toArray⟩ : ByteArray).size) = bs.length := by simp [ByteArray.size]
    unfold W_abacistref18_Take.l5
    rw [hsz]
    refine BIf_dpos (by omega) ⟨by omega, ixB_of (by rw [Int.toNat_natCast, hsz]; omega) ?_⟩
    have hlt : 32 + j < bs.length := by omega
    have hg : ((⟨bs.toArray⟩ : ByteArray)[(((32 + j : Nat) : Int)).toNat]'(by rw [Int.toNat_natCast, hsz]; omega)) = bs[32 + j] := by simp only [Int.toNat_natCast]; rfl
    rw [hg, u8_ne]
    have hlt2 : j < (bs.drop 32).length := by simp; omega
    have hd : (bs.drop 32)[j] = bs[32 + j] := by simp
    by_cases h : bs[32 + j] = 0
    · refine BIf_neg (by simp [h]) ?_
      rw [i64w (by omega) (by omega)]
      refine rtake_round K b1 bs h32 hm hp H0 z hz e1 hK d (j + 1) H (by omega) ?_ hs
      rw [List.take_succ_eq_append_getElem hlt2, List.all_append, h0, hd]
      simp [h]
    · refine BIf_pos (by simp [h]) ?_
      refine ret_err _ hs 1 rfl hz 10 _ rfl rfl fun H hs => hK (0, 0, 0, 0) 10 H ?_ (hs.ow 0 rfl)
      have : noughts bs = false := by
        unfold noughts
        rw [List.all_eq_false]
        exact ⟨(bs.drop 32)[j], List.getElem_mem hlt2, by rw [hd]; simpa using h⟩
      unfold takeV
      rw [if_neg (by omega), if_pos (.inr this)]

theorem rTake_ok (bs : List UInt8) (hm : bs.length ≤ 1000000000) (H : Hp) : HCalls Try.prog 11 #[.string ⟨bs.toArray⟩] H (RetE (.tuple #[.agg (sbV (takeV bs).1), .int .i64 (takeV bs).2]) H) := by
  have hsz : ((⟨bs.toArray⟩ : ByteArray).size) = bs.length := by simp [ByteArray.size]
  apply HCalls.ret
  apply W_abacistref18_Take.ok
  unfold W_abacistref18_Take
  rw [hsz]
  refine (Sep.start H).nw fun b1 H' hs => ?_
  refine HCalls.use (Log_ok bs.length H') ?_
  try simp only [DI_int', DB_bool, DS_string, DP_pointer, DSl_slice, DM_map, DA_agg, DTup_tuple, DCons_cons, DNil_nil, NN_some, BIf_true, BIf_false, BIf_same, List.toList_toArray, Bool.not_true, Bool.not_false]
  have hK : ∀ (x : Sb) (e : Int) H', takeV bs = (x, e) → H.le H' → Ret (.tuple #[.agg (sbV (takeV bs).1), .int .i64 (takeV bs).2]) H (.tuple #[.agg (sbV x), .int .i64 e]) H' := fun x e H' he hle => by rw [he]; exact ⟨rfl, hle⟩
  have hlog := log_per bs.length
  by_cases hp : perN (bs.length : Int) = 0
  · refine BIf_dpos (by omega) ?_
    refine ret_err _ hs 1 rfl rfl 15 _ rfl rfl fun H' hs => hK (0, 0, 0, 0) 15 H' ?_ (hs.ow 0 rfl)
    unfold takeV; rw [if_pos hp]
  · refine BIf_dneg (by omega) ?_
    have hp' : 0 < perN (bs.length : Int) := by omega
    have h32 : 32 ≤ bs.length := by
      obtain ⟨h1, h2, h3⟩ := logN_pow hp'
      have : 2 ^ 5 ≤ 2 ^ (logN bs.length).toNat := Nat.pow_le_pow_right (by omega) (by omega)
      omega
    refine HCalls.use (FormP.rWord_ok bs 0 (by omega) (by omega) H') ?_
    try simp only [DI_int', DB_bool, DS_string, DP_pointer, DSl_slice, DM_map, DA_agg, DTup_tuple, DCons_cons, DNil_nil, NN_some, BIf_true, BIf_false, BIf_same, List.toList_toArray, Bool.not_true, Bool.not_false]
    exact ⟨_, rtake_round _ b1 bs h32 hm hp' H _ rfl _ hK (bs.length - 32) 0 H' (by omega) rfl hs⟩

theorem rput_loop (K : Value → Hp → Prop) (b1 : Nat) (k sec s ar : Int) (e : TypeId) (hs8 : s ≤ 4096) (H : Hp) (hb : H b1 = some (.obj (.cells (supV k sec s ar) e))) (pre : List UInt8) (hK : K (.string ⟨(pre ++ List.replicate (s.toNat - pre.length) 0).toArray⟩) H) (hpre : (pre.length : Int) ≤ s) : ∀ (d j : Nat), pre.length + j + d = s.toNat →
    W_abacistref18_Put.l3 K (d + 1) ⟨b1, 0, none⟩ ⟨(pre ++ List.replicate j 0).toArray⟩ H
  | 0, j, hj => by
    unfold W_abacistref18_Put.l3
    simp only [NN_some, Addr.add_lit', Addr.add_zero, Nat.zero_add, Nat.add_zero]
    refine Ld_obj hb (v := .int .i64 s) rfl ?_
    simp only [DI_int', DB_bool, DS_string, DP_pointer, DSl_slice, DM_map, DA_agg, DTup_tuple, DCons_cons, DNil_nil, NN_some, BIf_true, BIf_false, BIf_same, List.toList_toArray, Bool.not_true, Bool.not_false]
    rw [FormP.bsize, List.length_append, List.length_replicate]
    refine BIf_dneg (by omega) ?_
    rw [show s.toNat - pre.length = j by omega] at hK
    exact hK
  | d + 1, j, hj => by
    unfold W_abacistref18_Put.l3
    simp only [NN_some, Addr.add_lit', Addr.add_zero, Nat.zero_add, Nat.add_zero]
    refine Ld_obj hb (v := .int .i64 s) rfl ?_
    simp only [DI_int', DB_bool, DS_string, DP_pointer, DSl_slice, DM_map, DA_agg, DTup_tuple, DCons_cons, DNil_nil, NN_some, BIf_true, BIf_false, BIf_same, List.toList_toArray, Bool.not_true, Bool.not_false]
    rw [FormP.bsize, List.length_append, List.length_replicate]
    refine BIf_dpos (by omega) ⟨by show pre.length + j + 1 ≤ _; omega, ?_⟩
    have := rput_loop K b1 k sec s ar e hs8 H hb pre hK hpre d (j + 1) (by omega)
    rw [List.replicate_succ', ← List.append_assoc] at this
    rw [show (ByteArray.mk #[0]) = ByteArray.mk ([0] : List UInt8).toArray from rfl, FormP.bappend]
    exact this

theorem rPut_ok (k sec s ar : Int) (h : goodB k sec s ar = true) (hsec : sec ≤ 9223372036854775807) (H : Hp) : HCalls Try.prog 15 #[.agg (supV k sec s ar)] H (RetE (.string ⟨(supF k sec s ar).toArray⟩) H) := by
  have hg := h
  unfold goodB at hg
  simp only [decide_eq_true_eq] at hg
  obtain ⟨h1, h2, h3, h4, h5, h6⟩ := hg
  obtain ⟨kn, rfl⟩ := Int.eq_ofNat_of_zero_le h1
  have hp := perN_le s
  have hlog := log_per s
  have hlen := supF_len kn sec s ar h3
  apply HCalls.ret
  apply W_abacistref18_Put.ok
  unfold W_abacistref18_Put
  simp only [NN_some, Addr.add_lit', Addr.add_zero, Nat.zero_add, Nat.add_zero]
  refine (Sep.start H).nw fun b1 H' hs => ?_
  first | refine hs.ld 1 rfl rfl ?_ | refine hs.ld 2 rfl rfl ?_ | refine hs.ld 3 rfl rfl ?_ | refine hs.ld 4 rfl rfl ?_ | refine hs.ld 5 rfl rfl ?_ | refine hs.ld 6 rfl rfl ?_ | refine hs.ld 7 rfl rfl ?_ | refine hs.ld 8 rfl rfl ?_
  try simp only [DI_int', DB_bool, DS_string, DP_pointer, DSl_slice, DM_map, DA_agg, DTup_tuple, DCons_cons, DNil_nil, NN_some, BIf_true, BIf_false, BIf_same, List.toList_toArray, Bool.not_true, Bool.not_false]
  first | refine hs.ld 1 rfl rfl ?_ | refine hs.ld 2 rfl rfl ?_ | refine hs.ld 3 rfl rfl ?_ | refine hs.ld 4 rfl rfl ?_ | refine hs.ld 5 rfl rfl ?_ | refine hs.ld 6 rfl rfl ?_ | refine hs.ld 7 rfl rfl ?_ | refine hs.ld 8 rfl rfl ?_
  try simp only [DI_int', DB_bool, DS_string, DP_pointer, DSl_slice, DM_map, DA_agg, DTup_tuple, DCons_cons, DNil_nil, NN_some, BIf_true, BIf_false, BIf_same, List.toList_toArray, Bool.not_true, Bool.not_false]
  refine QCall.use (Log_ok s H') ?_
  try simp only [DI_int', DB_bool, DS_string, DP_pointer, DSl_slice, DM_map, DA_agg, DTup_tuple, DCons_cons, DNil_nil, NN_some, BIf_true, BIf_false, BIf_same, List.toList_toArray, Bool.not_true, Bool.not_false]
  first | refine hs.ld 1 rfl rfl ?_ | refine hs.ld 2 rfl rfl ?_ | refine hs.ld 3 rfl rfl ?_ | refine hs.ld 4 rfl rfl ?_ | refine hs.ld 5 rfl rfl ?_ | refine hs.ld 6 rfl rfl ?_ | refine hs.ld 7 rfl rfl ?_ | refine hs.ld 8 rfl rfl ?_
  try simp only [DI_int', DB_bool, DS_string, DP_pointer, DSl_slice, DM_map, DA_agg, DTup_tuple, DCons_cons, DNil_nil, NN_some, BIf_true, BIf_false, BIf_same, List.toList_toArray, Bool.not_true, Bool.not_false]
  first | refine hs.ld 1 rfl rfl ?_ | refine hs.ld 2 rfl rfl ?_ | refine hs.ld 3 rfl rfl ?_ | refine hs.ld 4 rfl rfl ?_ | refine hs.ld 5 rfl rfl ?_ | refine hs.ld 6 rfl rfl ?_ | refine hs.ld 7 rfl rfl ?_ | refine hs.ld 8 rfl rfl ?_
  try simp only [DI_int', DB_bool, DS_string, DP_pointer, DSl_slice, DM_map, DA_agg, DTup_tuple, DCons_cons, DNil_nil, NN_some, BIf_true, BIf_false, BIf_same, List.toList_toArray, Bool.not_true, Bool.not_false]
  obtain ⟨g, hgl⟩ := Int.eq_ofNat_of_zero_le (show 0 ≤ logN s by omega)
  have e1 : IntKind.u64.wrap (IntKind.u64.wrap (4702392716946833408 + IntKind.u64.wrap (IntKind.u64.wrap (kn : Int) * 65536)) + IntKind.u64.wrap (logN s)) = ((UInt64.ofNat (firstN kn s)).toNat : Int) := by
    have hf64 : firstN kn s < 2 ^ 64 := by
      have := log_le s
      unfold firstN; omega
    rw [u64_of hf64, hgl, u64n (n := kn) (by omega), u64n (n := g) (by omega), u64w (x := (kn : Int) * 65536) (by omega) (by omega), u64w (x := 4702392716946833408 + (kn : Int) * 65536) (by omega) (by omega), u64w (by omega) (by omega)]
    unfold firstN
    rw [hgl, Int.toNat_natCast]
    omega
  rw [e1, u64w (x := sec) (by omega) (by omega), u64w (x := ar) (by omega) (by omega)]
  have hw : ([.int .u64 ((UInt64.ofNat (firstN kn s)).toNat : Int), .int .u64 sec, .int .u64 ar] : List Value) = wordVals (supW kn sec s ar) := by
    unfold supW wordVals
    simp only [List.map_cons, List.map_nil, Int.toNat_natCast]
    rw [u64_of (x := sec.toNat) (by omega), u64_of (x := ar.toNat) (by omega)]
    rw [show ((sec.toNat : Nat) : Int) = sec by omega, show ((ar.toNat : Nat) : Int) = ar by omega]
  rw [hw]
  refine hs.nw fun b2 H' hs => ?_
  refine HCalls.use (CrcP.rOfWords_ok (some ⟨b2, 0, none⟩) 3 3 (supW kn sec s ar) rfl (by omega) H' (Cells.row (hs.get 2 (b := b2) (o := .row _ _ _) rfl) 0 3)) ?_
  try simp only [DI_int', DB_bool, DS_string, DP_pointer, DSl_slice, DM_map, DA_agg, DTup_tuple, DCons_cons, DNil_nil, NN_some, BIf_true, BIf_false, BIf_same, List.toList_toArray, Bool.not_true, Bool.not_false]
  have hsum := (Go.Crc.sum (form (supW kn sec s ar))).isLt
  rw [u64n (n := (Go.Crc.sum (form (supW kn sec s ar))).toNat) (by omega)]
  have hs : Sep [own _, pts b1 (.obj (.cells (supV kn sec s ar) 23)), Own 94 1 (some ⟨b2, 0, none⟩) 3 3 (wordVals (supW kn sec s ar))] H' := hs.turn 2 rfl fun H1 hH => ⟨rfl, .inr ⟨b2, 3, rfl, hH, by omega⟩⟩
  refine hs.app1 2 (by rfl) cell_u64 (by omega) (by rfl) (by omega) (by omega) fun A' m' H' hs => ?_
  simp only [DI_int', DB_bool, DS_string, DP_pointer, DSl_slice, DM_map, DA_agg, DTup_tuple, DCons_cons, DNil_nil, NN_some, BIf_true, BIf_false, BIf_same, List.toList_toArray, Bool.not_true, Bool.not_false]
  have hw4 : wordVals (supW kn sec s ar) ++ [.int .u64 ((Go.Crc.sum (form (supW kn sec s ar))).toNat : Int)] = wordVals (supS kn sec s ar) := by
    unfold supS wordVals
    rw [List.map_append]
    congr 1
    simp only [List.map_cons, List.map_nil]
    rw [u64_of (by omega)]
  rw [hw4] at hs
  have hc4 : Cells H' A' (wordVals (supS kn sec s ar)) := by
    obtain ⟨_, h7⟩ := hs.own 2 rfl
    rcases h7 with ⟨_, h8, _⟩ | ⟨b, mm, rfl, h8, _⟩
    · omega
    · exact Cells.row h8 0 4
  refine HCalls.use (FormP.rPut_ok A' 4 m' (supS kn sec s ar) rfl (by omega) H' hc4) ?_
  try simp only [DI_int', DB_bool, DS_string, DP_pointer, DSl_slice, DM_map, DA_agg, DTup_tuple, DCons_cons, DNil_nil, NN_some, BIf_true, BIf_false, BIf_same, List.toList_toArray, Bool.not_true, Bool.not_false]
  have hf : (form (supS kn sec s ar)).length = 32 := by rw [form_length]; rfl
  have h4p : 4 ≤ perN s := by
    rcases hlog with h | h
    · rw [h.2.2.2.2]
      have : 2 ^ 2 ≤ 2 ^ (logN s - 3).toNat := Nat.pow_le_pow_right (by omega) (by omega)
      omega
    · omega
  refine ⟨s.toNat - 32 + 1, ?_⟩
  have := rput_loop (Ret (.string ⟨(supF kn sec s ar).toArray⟩) H) b1 kn sec s ar 23 (by omega) H' (hs.get 1 rfl) (form (supS kn sec s ar)) (by rw [hf]; exact hs.fin 0 rfl _) (by omega) (s.toNat - 32) 0 (by omega)
  rw [List.replicate_zero, List.append_nil] at this
  exact this

theorem Layout_ok (k sec s ar : Int) (H : Hp) : HCalls Try.prog 14 #[.agg (supV k sec s ar)] H (RetE (if goodB k sec s ar = true then .tuple #[.agg (layV k.toNat (perN s)), .int .i64 0] else .tuple #[.agg layZ, .int .i64 1]) H) := by
  apply HCalls.ret
  apply W_super_Layout.ok
  unfold W_super_Layout
  simp only [NN_some, Addr.add_lit', Addr.add_zero, Nat.zero_add, Nat.add_zero]
  refine (Sep.start H).nw fun b1 H' hs => ?_
  refine hs.nw fun b2 H' hs => ?_
  first | refine hs.ldw 1 rfl rfl ?_ | refine hs.ldw 2 rfl rfl ?_ | refine hs.ldw 3 rfl rfl ?_ | refine hs.ldw 4 rfl rfl ?_ | refine hs.ldw 5 rfl rfl ?_ | refine hs.ldw 6 rfl rfl ?_ | refine hs.ldw 7 rfl rfl ?_ | refine hs.ldw 8 rfl rfl ?_
  try simp only [DI_int', DB_bool, DS_string, DP_pointer, DSl_slice, DM_map, DA_agg, DTup_tuple, DCons_cons, DNil_nil, NN_some, BIf_true, BIf_false, BIf_same, List.toList_toArray, Bool.not_true, Bool.not_false]
  refine HCalls.use (Good_ok k sec s ar H') ?_
  try simp only [DI_int', DB_bool, DS_string, DP_pointer, DSl_slice, DM_map, DA_agg, DTup_tuple, DCons_cons, DNil_nil, NN_some, BIf_true, BIf_false, BIf_same, List.toList_toArray, Bool.not_true, Bool.not_false]
  by_cases h : goodB k sec s ar = true
  · rw [if_pos h, h]
    simp only [DI_int', DB_bool, DS_string, DP_pointer, DSl_slice, DM_map, DA_agg, DTup_tuple, DCons_cons, DNil_nil, NN_some, BIf_true, BIf_false, BIf_same, List.toList_toArray, Bool.not_true, Bool.not_false]
    have hg := h
    unfold goodB at hg
    simp only [decide_eq_true_eq] at hg
    first | refine hs.ld 1 rfl rfl ?_ | refine hs.ld 2 rfl rfl ?_ | refine hs.ld 3 rfl rfl ?_ | refine hs.ld 4 rfl rfl ?_ | refine hs.ld 5 rfl rfl ?_ | refine hs.ld 6 rfl rfl ?_ | refine hs.ld 7 rfl rfl ?_ | refine hs.ld 8 rfl rfl ?_
    try simp only [DI_int', DB_bool, DS_string, DP_pointer, DSl_slice, DM_map, DA_agg, DTup_tuple, DCons_cons, DNil_nil, NN_some, BIf_true, BIf_false, BIf_same, List.toList_toArray, Bool.not_true, Bool.not_false]
    first | refine hs.ld 1 rfl rfl ?_ | refine hs.ld 2 rfl rfl ?_ | refine hs.ld 3 rfl rfl ?_ | refine hs.ld 4 rfl rfl ?_ | refine hs.ld 5 rfl rfl ?_ | refine hs.ld 6 rfl rfl ?_ | refine hs.ld 7 rfl rfl ?_ | refine hs.ld 8 rfl rfl ?_
    try simp only [DI_int', DB_bool, DS_string, DP_pointer, DSl_slice, DM_map, DA_agg, DTup_tuple, DCons_cons, DNil_nil, NN_some, BIf_true, BIf_false, BIf_same, List.toList_toArray, Bool.not_true, Bool.not_false]
    first | refine hs.ld 1 rfl rfl ?_ | refine hs.ld 2 rfl rfl ?_ | refine hs.ld 3 rfl rfl ?_ | refine hs.ld 4 rfl rfl ?_ | refine hs.ld 5 rfl rfl ?_ | refine hs.ld 6 rfl rfl ?_ | refine hs.ld 7 rfl rfl ?_ | refine hs.ld 8 rfl rfl ?_
    try simp only [DI_int', DB_bool, DS_string, DP_pointer, DSl_slice, DM_map, DA_agg, DTup_tuple, DCons_cons, DNil_nil, NN_some, BIf_true, BIf_false, BIf_same, List.toList_toArray, Bool.not_true, Bool.not_false]
    refine HCalls.use (Of_ok k sec s H') ?_
    try simp only [DI_int', DB_bool, DS_string, DP_pointer, DSl_slice, DM_map, DA_agg, DTup_tuple, DCons_cons, DNil_nil, NN_some, BIf_true, BIf_false, BIf_same, List.toList_toArray, Bool.not_true, Bool.not_false]
    have : OfV k sec s = (layV k.toNat (perN s), 0) := by unfold OfV; rw [if_pos (by omega), if_neg (by omega)]
    rw [this]
    refine hs.stw 2 rfl rfl rfl rfl fun H' hs => ?_
    refine hs.ldw 2 rfl rfl ?_
    exact hs.fin 0 rfl _
  · rw [Bool.not_eq_true] at h
    rw [if_neg (by rw [h]; simp), h]
    simp only [DI_int', DB_bool, DS_string, DP_pointer, DSl_slice, DM_map, DA_agg, DTup_tuple, DCons_cons, DNil_nil, NN_some, BIf_true, BIf_false, BIf_same, List.toList_toArray, Bool.not_true, Bool.not_false]
    refine hs.stw 2 rfl rfl rfl rfl fun H' hs => ?_
    refine hs.ldw 2 rfl rfl ?_
    exact hs.fin 0 rfl _

end Go.Proofs.Ytgkdkemhiglpdaa.Sup
