/- super: the superblock of a form, and the document's. -/
import Derived.Test.YtbnhfcdagoigkaaSupB
set_option maxRecDepth 100000
set_option linter.unusedSimpArgs false
set_option linter.unusedVariables false
set_option linter.unnecessarySimpa false
set_option linter.unusedSectionVars false
namespace Go.Proofs.Ytbnhfcdagoigkaa.Sup
open Go Go.Hw Go.Form Go.Proofs.Ytbnhfcdagoigkaa.W Go.Proofs.Ytbnhfcdagoigkaa.Lay

theorem sector_ok (A : Option Addr) (n m : Nat) (H : Hp) : HCalls Try.prog 62 #[.slice A n m] H (RetE (.bool (decide (0 < perN n))) H) := by
  apply W_super_sector.ok
  unfold W_super_sector
  refine HCalls.use (Need_ok 0 n H) ?_
  try simp only [DI_int', DB_bool, DS_string, DP_pointer, DSl_slice, DM_map, DA_agg, DTup_tuple, DCons_cons, DNil_nil, NN_some, BIf_true, BIf_false, BIf_same, List.toList_toArray, Bool.not_true, Bool.not_false]
  unfold NeedV
  by_cases h : 0 < perN n
  · rw [if_pos (by omega)]
    exact RetE.of (by simp [h])
  · rw [if_neg (by omega)]
    exact RetE.of (by simp [h])

def noughts (bs : List UInt8) : Bool := (bs.drop 32).all (· == 0)

theorem u8_ne (b : UInt8) : ((b.toNat : Int) != 0) = !(b == 0) := by
  by_cases h : b = 0
  · subst h; rfl
  · have : b.toNat ≠ 0 := fun e => h (UInt8.toNat_inj.1 (by rw [e]; rfl))
    have h2 : (b == 0) = false := by simpa using h
    rw [h2]; simp; omega

theorem behind_loop (K : Value → Hp → Prop) (A : Option Addr) (n m : Nat) (bs : List UInt8) (hn : n = bs.length) (hm : n ≤ 9000000000000000000) (H : Hp) (hb : Cells H A (byteVals bs)) (r : Bool) (hK : K (.bool (bs.all (· == 0))) H) : ∀ d j : Nat, j + d = n → (bs.take j).all (· == 0) = true →
    W_super_behind.l2 K (d + 1) A n m (n : Int) (j : Int) H
  | 0, j, hj, h0 => by
    unfold W_super_behind.l2
    refine BIf_dneg (by omega) ?_
    rw [List.take_of_length_le (by omega)] at h0
    rw [h0] at hK; exact hK
  | d + 1, j, hj, h0 => by
    unfold W_super_behind.l2
    refine BIf_dpos (by omega) ?_
    have hlt : j < bs.length := by omega
    refine hb.read (i := j) (v := .int .u8 (bs[j].toNat : Int)) (by rw [byteVals_get, List.getElem?_eq_getElem hlt]; rfl) rfl (by rw [byteVals_length]; omega) ?_
    simp only [DI_int', DB_bool, DS_string, DP_pointer, DSl_slice, DM_map, DA_agg, DTup_tuple, DCons_cons, DNil_nil, NN_some, BIf_true, BIf_false, BIf_same, List.toList_toArray, Bool.not_true, Bool.not_false]
    rw [u8_ne]
    by_cases h : bs[j] = 0
    · refine BIf_neg (by simp [h]) ?_
      rw [i64w (by omega) (by omega)]
      refine behind_loop K A n m bs hn hm H hb r hK d (j + 1) (by omega) ?_
      rw [List.take_succ_eq_append_getElem hlt, List.all_append, h0]
      simp [h]
    · refine BIf_pos (by simp [h]) ?_
      have : bs.all (· == 0) = false := by
        rw [List.all_eq_false]
        exact ⟨bs[j], List.getElem_mem hlt, by simpa using h⟩
      rw [this] at hK; exact hK

theorem behind_ok (A : Option Addr) (n m : Nat) (hnm : n ≤ m) (bs : List UInt8) (hn : n = bs.length) (h32 : 32 ≤ n) (hm : n ≤ 9000000000000000000) (H : Hp) (hb : Cells H A (byteVals bs)) :
    HCalls Try.prog 64 #[.slice A n m] H (RetE (.bool (noughts bs)) H) := by
  apply W_super_behind.ok
  unfold W_super_behind
  refine ⟨by omega, by omega, n - 32 + 1, ?_⟩
  have h1 := hb.shift (m := m) (l := 32) (by rw [byteVals_length]; omega)
  rw [show (byteVals bs).drop 32 = byteVals (bs.drop 32) by unfold byteVals; rw [List.map_drop]] at h1
  exact behind_loop _ _ (n - 32) (m - 32) (bs.drop 32) (by simp; omega) (by omega) H h1 true (RetE.mk _ _) (n - 32) 0 (by omega) rfl

/-- A superblock's numbers, and an error's. -/
abbrev Sb := Int × Int × Int × Int
def sbV (x : Sb) : Array Value := supV x.1 x.2.1 x.2.2.1 x.2.2.2
def crcN (a b c : Nat) : Nat := (Go.Crc.sum (form [UInt64.ofNat a, UInt64.ofNat b, UInt64.ofNat c])).toNat
def sbOf (bs : List UInt8) : Sb := (((wordN bs 0 / 65536 % 65536 : Nat) : Int), IntKind.i64.wrap (wordN bs 8 : Nat), ((bs.length : Nat) : Int), IntKind.i64.wrap (wordN bs 16 : Nat))
def takeV (bs : List UInt8) : Sb × Int :=
  if perN bs.length = 0 then ((0, 0, 0, 0), 15)
  else if wordN bs 0 / 4294967296 ≠ 1094861123 ∨ noughts bs = false then ((0, 0, 0, 0), 10)
  else if wordN bs 24 ≠ crcN (wordN bs 0) (wordN bs 8) (wordN bs 16) then ((0, 0, 0, 0), 9)
  else if goodB (sbOf bs).1 (sbOf bs).2.1 (sbOf bs).2.2.1 (sbOf bs).2.2.2 = true ∧ ((wordN bs 0 % 65536 : Nat) : Int) = logN bs.length then (sbOf bs, 0)
  else ((0, 0, 0, 0), 1)

theorem wordVals3 (bs : List UInt8) : ([.int .u64 (wordN bs 0 : Nat), .int .u64 (wordN bs 8 : Nat), .int .u64 (wordN bs 16 : Nat)] : List Value) = wordVals [UInt64.ofNat (wordN bs 0), UInt64.ofNat (wordN bs 8), UInt64.ofNat (wordN bs 16)] := by
  unfold wordVals
  simp only [List.map_cons, List.map_nil]
  rw [u64_of (wordN_lt bs 0), u64_of (wordN_lt bs 8), u64_of (wordN_lt bs 16)]

theorem crcN_lt (a b c : Nat) : crcN a b c < 2 ^ 32 := (Go.Crc.sum _).isLt

theorem logN_pow {n : Int} (h : 0 < perN n) : n = ((2 ^ (logN n).toNat : Nat) : Int) ∧ 5 ≤ logN n ∧ logN n ≤ 12 := by
  unfold perN at h
  unfold logN
  repeat' split
  all_goals first | (subst_vars; refine ⟨by decide, by decide, by decide⟩) | skip
  repeat' split at h
  all_goals omega

theorem shl_small {t : Nat} (h : t ≤ 62) : shlI .i64 1 (t : Int) = ((2 ^ t : Nat) : Int) := shl_one h

/-- The last test. -/
theorem last_iff {a : Nat} (ha : a < 2 ^ 64) (hm : a / 4294967296 = 1094861123) {sec ar : Int} {n : Int} (hn : 0 < perN n) :
    (goodB ((a / 65536 % 65536 : Nat) : Int) sec (shlI .i64 1 ((a % 64 : Nat) : Int)) ar = true ∧ firstN (a / 65536 % 65536) (shlI .i64 1 ((a % 64 : Nat) : Int)) = a ∧ shlI .i64 1 ((a % 64 : Nat) : Int) = n) ↔
      (goodB ((a / 65536 % 65536 : Nat) : Int) sec n ar = true ∧ ((a % 65536 : Nat) : Int) = logN n) := by
  obtain ⟨h1, h2, h3⟩ := logN_pow hn
  constructor
  · rintro ⟨g1, g2, g3⟩
    rw [g3] at g1 g2
    refine ⟨g1, ?_⟩
    unfold firstN at g2
    omega
  · rintro ⟨g1, g2⟩
    obtain ⟨t, ht⟩ := Int.eq_ofNat_of_zero_le (show 0 ≤ logN n by omega)
    have h64 : a % 64 = t := by omega
    have hv : shlI .i64 1 ((a % 64 : Nat) : Int) = n := by
      rw [h64, shl_small (by omega), h1, ht]; rfl
    rw [hv]
    refine ⟨g1, ?_, rfl⟩
    unfold firstN
    rw [ht] at g2 ⊢
    have : (Int.toNat (t : Int)) = t := Int.toNat_natCast t
    rw [this]
    omega

theorem take_round (K : Value → Hp → Prop) (d b1 b2 : Nat) (A : Option Addr) (n m : Nat) (hnm : n ≤ m) (hm : n ≤ 9000000000000000000) (bs : List UInt8) (hn : n = bs.length) (h32 : 32 ≤ n) (H0 H : Hp) (hb : Cells H0 A (byteVals bs)) (c : Array Value) (hc : c.size = 4) (z : Array Value) (e1 e2 : TypeId) (i : Nat) (hi : i < 4)
    (hs : Sep [own H0, pts b1 (.obj (.cells z e1)), pts b2 (.obj (.cells c e2))] H)
    (k : ∀ H, Sep [own H0, pts b1 (.obj (.cells z e1)), pts b2 (.obj (.cells (c.setIfInBounds i (.int .u64 (wordN bs (8 * i) : Nat))) e2))] H → W_super_Take.l5 K d A n m ⟨b1, 0, none⟩ ⟨b2, 0, none⟩ ((i + 1 : Nat) : Int) H) :
    W_super_Take.l5 K (d + 1) A n m ⟨b1, 0, none⟩ ⟨b2, 0, none⟩ (i : Int) H := by
  conv => unfold W_super_Take.l5
  refine BIf_dpos (by omega) ?_
  refine HCalls.use (FormP.Word_ok A n m hnm hm bs hn i (by omega) H (hb.le (hs.ow 0 rfl))) ?_
  try simp only [DI_int', DB_bool, DS_string, DP_pointer, DSl_slice, DM_map, DA_agg, DTup_tuple, DCons_cons, DNil_nil, NN_some, BIf_true, BIf_false, BIf_same, List.toList_toArray, Bool.not_true, Bool.not_false]
  refine hs.stx 2 rfl (j := i) rfl hi (by omega) rfl fun H hs => ?_
  rw [i64w (x := (i : Int) + 1) (by omega) (by omega)]
  exact k H hs

theorem ret_err (K : Value → Hp → Prop) {L : List As} {H : Hp} (hs : Sep L H) {b1 : Nat} {z : Array Value} {e1 : TypeId} (i : Nat) (hi : L[i]? = some (pts b1 (.obj (.cells z e1)))) (hz : z.size = 4) (e : Int) (y : Array Value) (hy : y.size = 4) (hv : y.toList.all (fun v => v.oneCell') = true)
    (hK : ∀ H, Sep (L.set i (pts b1 (.obj (.cells y e1)))) H → K (.tuple #[.agg y, .int .i64 e]) H) : StA H (⟨b1, 0, none⟩ : Addr) y 4 fun H3 => LdA H3 (⟨b1, 0, none⟩ : Addr) 4 fun l7 => K (.tuple #[.agg l7.toArray, .int .i64 e]) H3 := by
  refine hs.stw i hi hz hy hv fun H hs => ?_
  have hlt := (List.getElem?_eq_some_iff.1 hi).1
  refine hs.ldw i (b := b1) (c := y) (e := e1) (by rw [List.getElem?_set]; simp [hlt]) hy ?_
  rw [Array.toArray_toList]
  exact hK H hs

theorem Take_ok (A : Option Addr) (n m : Nat) (hnm : n ≤ m) (hm : n ≤ 9000000000000000000) (bs : List UInt8) (hn : n = bs.length) (H : Hp) (hb : Cells H A (byteVals bs)) :
    HCalls Try.prog 30 #[.slice A n m] H (RetE (.tuple #[.agg (sbV (takeV bs).1), .int .i64 (takeV bs).2]) H) := by
  apply HCalls.ret
  apply W_super_Take.ok
  unfold W_super_Take
  refine (Sep.start H).nw fun b1 H' hs => ?_
  have fin : ∀ {L : List As} {H' : Hp} (x : Sb) (e : Int), Sep L H' → L[0]? = some (own H) → takeV bs = (x, e) → Ret (.tuple #[.agg (sbV (takeV bs).1), .int .i64 (takeV bs).2]) H (.tuple #[.agg (sbV x), .int .i64 e]) H' := fun x e hs h0 he => by
    rw [he]; exact hs.fin 0 h0 _
  refine HCalls.use (sector_ok A n m H') ?_
  try simp only [DI_int', DB_bool, DS_string, DP_pointer, DSl_slice, DM_map, DA_agg, DTup_tuple, DCons_cons, DNil_nil, NN_some, BIf_true, BIf_false, BIf_same, List.toList_toArray, Bool.not_true, Bool.not_false]
  by_cases hp : perN (n : Int) = 0
  · refine BIf_pos (by simp; omega) ?_
    refine ret_err _ hs 1 rfl rfl 15 _ rfl rfl fun H' hs => fin (0, 0, 0, 0) 15 hs rfl ?_
    unfold takeV; rw [← hn, if_pos hp]
  refine BIf_neg (by simp; omega) ?_
  refine hs.nw fun b2 H' hs => ?_
  have hp' : 0 < perN (n : Int) := by omega
  have h32 : 32 ≤ n := by
    obtain ⟨h1, h2, h3⟩ := logN_pow hp'
    have : 2 ^ 5 ≤ 2 ^ (logN n).toNat := Nat.pow_le_pow_right (by omega) (by omega)
    omega
  refine ⟨5, ?_⟩
  refine take_round _ 4 b1 b2 A n m hnm hm bs hn h32 H H' hb _ rfl _ _ _ 0 (by omega) hs fun H' hs => ?_
  refine take_round _ 3 b1 b2 A n m hnm hm bs hn h32 H H' hb _ rfl _ _ _ 1 (by omega) hs fun H' hs => ?_
  refine take_round _ 2 b1 b2 A n m hnm hm bs hn h32 H H' hb _ rfl _ _ _ 2 (by omega) hs fun H' hs => ?_
  refine take_round _ 1 b1 b2 A n m hnm hm bs hn h32 H H' hb _ rfl _ _ _ 3 (by omega) hs fun H' hs => ?_
  have hs : Sep [own H, pts b1 (.obj (.cells #[.int .i64 0, .int .i64 0, .int .i64 0, .int .i64 0] 23)), pts b2 (.obj (.cells #[.int .u64 (wordN bs 0 : Nat), .int .u64 (wordN bs 8 : Nat), .int .u64 (wordN bs 16 : Nat), .int .u64 (wordN bs 24 : Nat)] 130))] H' := hs
  have w0 := wordN_lt bs 0
  unfold W_super_Take.l5
  refine BIf_dneg (by omega) ?_
  refine hs.ldx 2 rfl (j := 0) rfl (by omega) rfl ?_
  simp only [DI_int', DB_bool, DS_string, DP_pointer, DSl_slice, DM_map, DA_agg, DTup_tuple, DCons_cons, DNil_nil, NN_some, BIf_true, BIf_false, BIf_same, List.toList_toArray, Bool.not_true, Bool.not_false]
  refine ⟨by omega, ?_⟩
  refine hs.ldx 2 rfl (j := 0) rfl (by omega) rfl ?_
  simp only [DI_int', DB_bool, DS_string, DP_pointer, DSl_slice, DM_map, DA_agg, DTup_tuple, DCons_cons, DNil_nil, NN_some, BIf_true, BIf_false, BIf_same, List.toList_toArray, Bool.not_true, Bool.not_false]
  rw [show bAnd .u64 ((wordN bs 0 : Nat) : Int) 63 = ((wordN bs 0 % 64 : Nat) : Int) by rw [show (63 : Int) = ((63 : Nat) : Int) from rfl, andN w0 (by omega), Nat.and_two_pow_sub_one_eq_mod _ 6]]
  refine ⟨by omega, ?_⟩
  refine hs.ldx 2 rfl (j := 1) rfl (by omega) rfl ?_
  simp only [DI_int', DB_bool, DS_string, DP_pointer, DSl_slice, DM_map, DA_agg, DTup_tuple, DCons_cons, DNil_nil, NN_some, BIf_true, BIf_false, BIf_same, List.toList_toArray, Bool.not_true, Bool.not_false]
  refine hs.ldx 2 rfl (j := 2) rfl (by omega) rfl ?_
  simp only [DI_int', DB_bool, DS_string, DP_pointer, DSl_slice, DM_map, DA_agg, DTup_tuple, DCons_cons, DNil_nil, NN_some, BIf_true, BIf_false, BIf_same, List.toList_toArray, Bool.not_true, Bool.not_false]
  refine hs.nw fun b3 H' hs => ?_
  refine hs.stw 3 rfl rfl rfl rfl fun H' hs => ?_
  have e16 : IntKind.i64.wrap (bAnd .u64 (shrI .u64 ((wordN bs 0 : Nat) : Int) 16) 65535) = ((wordN bs 0 / 65536 % 65536 : Nat) : Int) := by
    rw [shrN (i := (16 : Int)) (n := 16) rfl (by decide), show (65535 : Int) = ((65535 : Nat) : Int) from rfl, andN (by omega) (by omega), Nat.and_two_pow_sub_one_eq_mod _ 16, i64n (by omega)]
  rw [e16] at hs
  refine hs.ldx 2 rfl (j := 0) rfl (by omega) rfl ?_
  simp only [DI_int', DB_bool, DS_string, DP_pointer, DSl_slice, DM_map, DA_agg, DTup_tuple, DCons_cons, DNil_nil, NN_some, BIf_true, BIf_false, BIf_same, List.toList_toArray, Bool.not_true, Bool.not_false]
  refine ⟨by omega, ?_⟩
  rw [shrN (i := (32 : Int)) (n := 32) rfl (by decide)]
  by_cases hmg : wordN bs 0 / 4294967296 = 1094861123
  · refine BIf_bnen (by omega) ?_
    refine HCalls.use (behind_ok A n m hnm bs hn h32 (by omega) H' (hb.le (hs.ow 0 rfl))) ?_
    try simp only [DI_int', DB_bool, DS_string, DP_pointer, DSl_slice, DM_map, DA_agg, DTup_tuple, DCons_cons, DNil_nil, NN_some, BIf_true, BIf_false, BIf_same, List.toList_toArray, Bool.not_true, Bool.not_false]
    by_cases hz : noughts bs = true
    · refine BIf_neg (by simp [hz]) ?_
      refine hs.ldx 2 rfl (j := 3) rfl (by omega) rfl ?_
      simp only [DI_int', DB_bool, DS_string, DP_pointer, DSl_slice, DM_map, DA_agg, DTup_tuple, DCons_cons, DNil_nil, NN_some, BIf_true, BIf_false, BIf_same, List.toList_toArray, Bool.not_true, Bool.not_false]
      refine ⟨by omega, by omega, ?_⟩
      have hc3 := Cells.obj (hs.get 2 (b := b2) (o := .obj (.cells #[.int .u64 (wordN bs 0 : Nat), .int .u64 (wordN bs 8 : Nat), .int .u64 (wordN bs 16 : Nat), .int .u64 (wordN bs 24 : Nat)] 130)) rfl) 3
      have hc3 : Cells H' (some ⟨b2, 0, none⟩) (wordVals [UInt64.ofNat (wordN bs 0), UInt64.ofNat (wordN bs 8), UInt64.ofNat (wordN bs 16)]) := by
        rw [← wordVals3]; exact hc3
      refine QCall.use (CrcP.OfWords_ok (some ⟨b2, 0, none⟩) 3 4 _ rfl (by omega) H' hc3) ?_
      simp only [DI_int', DB_bool, DS_string, DP_pointer, DSl_slice, DM_map, DA_agg, DTup_tuple, DCons_cons, DNil_nil, NN_some, BIf_true, BIf_false, BIf_same, List.toList_toArray, Bool.not_true, Bool.not_false]
      have hcl := crcN_lt (wordN bs 0) (wordN bs 8) (wordN bs 16)
      rw [show (Go.Crc.sum (form [UInt64.ofNat (wordN bs 0), UInt64.ofNat (wordN bs 8), UInt64.ofNat (wordN bs 16)])).toNat = crcN (wordN bs 0) (wordN bs 8) (wordN bs 16) from rfl, u64n (by omega)]
      by_cases hcr : wordN bs 24 = crcN (wordN bs 0) (wordN bs 8) (wordN bs 16)
      · refine BIf_bnen (by omega) ?_
        refine hs.ldw 3 rfl rfl ?_
        have hiff := last_iff w0 hmg (sec := IntKind.i64.wrap (wordN bs 8 : Nat)) (ar := IntKind.i64.wrap (wordN bs 16 : Nat)) hp'
        have hno : ¬ (goodB (sbOf bs).1 (sbOf bs).2.1 (sbOf bs).2.2.1 (sbOf bs).2.2.2 = true ∧ ((wordN bs 0 % 65536 : Nat) : Int) = logN bs.length) → takeV bs = ((0, 0, 0, 0), 1) := fun h => by
          unfold takeV
          rw [← hn, if_neg (by omega), if_neg (by simp [hmg, hz]), if_neg (by simp [hcr]), if_neg (by rw [hn]; exact h)]
        have hyes : (goodB (sbOf bs).1 (sbOf bs).2.1 (sbOf bs).2.2.1 (sbOf bs).2.2.2 = true ∧ ((wordN bs 0 % 65536 : Nat) : Int) = logN bs.length) → takeV bs = (sbOf bs, 0) := fun h => by
          unfold takeV
          rw [← hn, if_neg (by omega), if_neg (by simp [hmg, hz]), if_neg (by simp [hcr]), if_pos (by rw [hn]; exact h)]
        have hsb : sbOf bs = (((wordN bs 0 / 65536 % 65536 : Nat) : Int), IntKind.i64.wrap (wordN bs 8 : Nat), (n : Int), IntKind.i64.wrap (wordN bs 16 : Nat)) := by unfold sbOf; rw [hn]
        rw [hsb] at hno hyes
        simp only at hno hyes
        rw [← hn] at hno hyes
        rw [← hiff] at hno hyes
        refine QCall.use (Good_ok ((wordN bs 0 / 65536 % 65536 : Nat) : Int) (IntKind.i64.wrap (wordN bs 8 : Nat)) (shlI .i64 1 ((wordN bs 0 % 64 : Nat) : Int)) (IntKind.i64.wrap (wordN bs 16 : Nat)) H') ?_
        simp only [DI_int', DB_bool, DS_string, DP_pointer, DSl_slice, DM_map, DA_agg, DTup_tuple, DCons_cons, DNil_nil, NN_some, BIf_true, BIf_false, BIf_same, List.toList_toArray, Bool.not_true, Bool.not_false]
        by_cases hg : goodB ((wordN bs 0 / 65536 % 65536 : Nat) : Int) (IntKind.i64.wrap (wordN bs 8 : Nat)) (shlI .i64 1 ((wordN bs 0 % 64 : Nat) : Int)) (IntKind.i64.wrap (wordN bs 16 : Nat)) = true
        · refine BIf_neg (by rw [hg]; rfl) ?_
          refine hs.ldw 3 rfl rfl ?_
          have hg2 := hg
          unfold goodB at hg2
          simp only [decide_eq_true_eq] at hg2
          refine QCall.use (first_ok (wordN bs 0 / 65536 % 65536) (IntKind.i64.wrap (wordN bs 8 : Nat)) (shlI .i64 1 ((wordN bs 0 % 64 : Nat) : Int)) (IntKind.i64.wrap (wordN bs 16 : Nat)) (by omega) hg2.2.2.1 H') ?_
          simp only [DI_int', DB_bool, DS_string, DP_pointer, DSl_slice, DM_map, DA_agg, DTup_tuple, DCons_cons, DNil_nil, NN_some, BIf_true, BIf_false, BIf_same, List.toList_toArray, Bool.not_true, Bool.not_false]
          have hf64 : firstN (wordN bs 0 / 65536 % 65536) (shlI .i64 1 ((wordN bs 0 % 64 : Nat) : Int)) < 2 ^ 64 := by
            have := log_le (shlI .i64 1 ((wordN bs 0 % 64 : Nat) : Int))
            unfold firstN; omega
          rw [u64_of hf64]
          refine hs.ldx 2 rfl (j := 0) rfl (by omega) rfl ?_
          simp only [DI_int', DB_bool, DS_string, DP_pointer, DSl_slice, DM_map, DA_agg, DTup_tuple, DCons_cons, DNil_nil, NN_some, BIf_true, BIf_false, BIf_same, List.toList_toArray, Bool.not_true, Bool.not_false]
          by_cases hf : firstN (wordN bs 0 / 65536 % 65536) (shlI .i64 1 ((wordN bs 0 % 64 : Nat) : Int)) = wordN bs 0
          · refine BIf_bnen (by omega) ?_
            simp only [NN_some, Addr.add_lit', Addr.add_zero, Nat.zero_add, Nat.add_zero]
            refine hs.ld 3 rfl rfl ?_
            simp only [DI_int', DB_bool, DS_string, DP_pointer, DSl_slice, DM_map, DA_agg, DTup_tuple, DCons_cons, DNil_nil, NN_some, BIf_true, BIf_false, BIf_same, List.toList_toArray, Bool.not_true, Bool.not_false]
            by_cases hv : shlI .i64 1 ((wordN bs 0 % 64 : Nat) : Int) = (n : Int)
            · refine BIf_bnen hv ?_
              refine hs.ldw 3 rfl rfl ?_
              have hy := hyes ⟨hg, hf, hv⟩
              rw [hv]
              refine ret_err _ hs 1 rfl rfl 0 _ rfl rfl fun H' hs => fin _ 0 hs rfl hy
            · refine BIf_bnep hv ?_
              refine ret_err _ hs 1 rfl rfl 1 _ rfl rfl fun H' hs => fin (0, 0, 0, 0) 1 hs rfl (hno fun h => hv h.2.2)
          · refine BIf_bnep (by omega) ?_
            refine ret_err _ hs 1 rfl rfl 1 _ rfl rfl fun H' hs => fin (0, 0, 0, 0) 1 hs rfl (hno fun h => hf h.2.1)
        · refine BIf_pos (by rw [Bool.not_eq_true] at hg; rw [hg]; rfl) ?_
          refine ret_err _ hs 1 rfl rfl 1 _ rfl rfl fun H' hs => fin (0, 0, 0, 0) 1 hs rfl (hno fun h => hg h.1)
      · refine BIf_bnep (by omega) ?_
        refine ret_err _ hs 1 rfl rfl 9 _ rfl rfl fun H' hs => fin (0, 0, 0, 0) 9 hs rfl ?_
        unfold takeV
        rw [← hn, if_neg (by omega), if_neg (by simp [hmg, hz]), if_pos hcr]
    · refine BIf_pos (by simp [hz]) ?_
      refine ret_err _ hs 1 rfl rfl 10 _ rfl rfl fun H' hs => fin (0, 0, 0, 0) 10 hs rfl ?_
      unfold takeV
      rw [← hn, if_neg (by omega), if_pos (.inr (by simpa using hz))]
  · refine BIf_bnep (by omega) ?_
    refine ret_err _ hs 1 rfl rfl 10 _ rfl rfl fun H' hs => fin (0, 0, 0, 0) 10 hs rfl ?_
    unfold takeV
    rw [← hn, if_neg (by omega), if_pos (.inl hmg)]

end Go.Proofs.Ytbnhfcdagoigkaa.Sup
