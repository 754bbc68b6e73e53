/- super: forms. -/
import Derived.Test.YtbnhfcdagoigkaaSupA
import Derived.Test.YtbnhfcdagoigkaaWlbits
set_option maxRecDepth 100000
set_option linter.unusedSimpArgs false
set_option linter.unusedVariables false
set_option linter.unnecessarySimpa false
set_option linter.unusedSectionVars false
namespace Go.Proofs.Ytbnhfcdagoigkaa.Sup
open Go Go.Hw Go.Form Go.Proofs.Ytbnhfcdagoigkaa.W Go.Proofs.Ytbnhfcdagoigkaa.Lay

theorem Len_ok (s : Int) (hs : 0 < perN s) (H : Hp) : HCalls Try.prog 77 #[.int .u64 s] H (RetE (.int .i64 (logN s + 1)) H) := by
  apply W_math_bits_Len.ok
  unfold W_math_bits_Len
  refine HCalls.use (v := .int .i64 (logN s + 1)) ?_ (RetE.mk _ _)
  apply W_math_bits_Len64.ok
  have : s = 32 ∨ s = 64 ∨ s = 128 ∨ s = 256 ∨ s = 512 ∨ s = 1024 ∨ s = 2048 ∨ s = 4096 := by
    unfold perN at hs
    repeat' split at hs
    all_goals omega
  unfold W_math_bits_Len64
  rcases this with rfl | rfl | rfl | rfl | rfl | rfl | rfl | rfl
  all_goals
    refine BIf_neg rfl ?_
    unfold W_math_bits_Len64.j4
    refine BIf_neg rfl ?_
    unfold W_math_bits_Len64.j7
    first
      | (refine BIf_pos rfl ⟨by decide, by decide, ?_⟩; refine ixB_of (by decide) ?_; exact RetE.of rfl)
      | (refine BIf_neg rfl ⟨by decide, ?_⟩; refine ixB_of (by decide) ?_; exact RetE.of rfl)

def firstN (k : Nat) (s : Int) : Nat := 4702392716946833408 + k * 65536 + (logN s).toNat
def supW (k sec s ar : Int) : List UInt64 := [UInt64.ofNat (firstN k.toNat s), UInt64.ofNat sec.toNat, UInt64.ofNat ar.toNat]
def supS (k sec s ar : Int) : List UInt64 := supW k sec s ar ++ [UInt64.ofNat (Go.Crc.sum (form (supW k sec s ar))).toNat]
def supF (k sec s ar : Int) : List UInt8 := form (supS k sec s ar) ++ List.replicate (s.toNat - 32) 0

theorem log_le (s : Int) : logN s ≤ 12 := by
  rcases log_per s with h | h <;> omega

theorem first_ok (k : Nat) (sec s ar : Int) (hk : k ≤ 65535) (hs : 0 < perN s) (H : Hp) : HCalls Try.prog 56 #[.agg (supV k sec s ar)] H (RetE (.int .u64 ((UInt64.ofNat (firstN k s)).toNat : Int)) H) := by
  apply HCalls.ret
  apply W_super_first.ok
  unfold W_super_first
  simp only [NN_some, Addr.add_lit', Addr.add_zero, Nat.zero_add, Nat.add_zero]
  refine (Sep.start H).nw fun b1 H hs' => ?_
  have hs0 := hs
  have hs := hs'
  have h1 := log_per s
  have h2 := perN_le s
  first | refine hs.ld 1 rfl rfl ?_ | refine hs.ld 2 rfl rfl ?_ | refine hs.ld 3 rfl rfl ?_ | refine hs.ld 4 rfl rfl ?_ | refine hs.ld 5 rfl rfl ?_ | refine hs.ld 6 rfl rfl ?_ | refine hs.ld 7 rfl rfl ?_ | refine hs.ld 8 rfl rfl ?_
  try simp only [DI_int', DB_bool, DS_string, DP_pointer, DSl_slice, DM_map, DA_agg, DTup_tuple, DCons_cons, DNil_nil, NN_some, BIf_true, BIf_false, BIf_same, List.toList_toArray, Bool.not_true, Bool.not_false]
  refine ⟨by omega, ?_⟩
  first | refine hs.ld 1 rfl rfl ?_ | refine hs.ld 2 rfl rfl ?_ | refine hs.ld 3 rfl rfl ?_ | refine hs.ld 4 rfl rfl ?_ | refine hs.ld 5 rfl rfl ?_ | refine hs.ld 6 rfl rfl ?_ | refine hs.ld 7 rfl rfl ?_ | refine hs.ld 8 rfl rfl ?_
  try simp only [DI_int', DB_bool, DS_string, DP_pointer, DSl_slice, DM_map, DA_agg, DTup_tuple, DCons_cons, DNil_nil, NN_some, BIf_true, BIf_false, BIf_same, List.toList_toArray, Bool.not_true, Bool.not_false]
  rw [u64w (x := s) (by omega) (by omega)]
  refine QCall.use (Len_ok s hs0 H) ?_
  try simp only [DI_int', DB_bool, DS_string, DP_pointer, DSl_slice, DM_map, DA_agg, DTup_tuple, DCons_cons, DNil_nil, NN_some, BIf_true, BIf_false, BIf_same, List.toList_toArray, Bool.not_true, Bool.not_false]
  have h3 : firstN k s < 2 ^ 64 := by unfold firstN; omega
  rw [show logN s + 1 - 1 = logN s by omega, i64w (x := logN s) (by omega) (by omega), u64w (x := logN s) (by omega) (by omega), u64n (n := k) (by omega)]
  rw [shlN (i := (16 : Int)) (n := 16) rfl (by omega), Nat.mod_eq_of_lt (by omega)]
  obtain ⟨g, hg⟩ := Int.eq_ofNat_of_zero_le (show 0 ≤ logN s by omega)
  have h4 : k * 2 ^ 16 < 2 ^ 64 := by omega
  rw [show (4702392716946833408 : Int) = ((4702392716946833408 : Nat) : Int) from rfl, orN (by omega) h4, hg, orN (or_lt (by omega) h4) (by omega)]
  have e1 : ∀ q, q = 4702392716946833408 → q ||| k * 2 ^ 16 = q + k * 2 ^ 16 := fun q hq => by
    have h5 : ∀ p, p = 1094861123 → p * 2 ^ 32 = q := fun p hp => by omega
    have := Nat.shiftLeft_add_eq_or_of_lt (show k * 2 ^ 16 < 2 ^ 32 by omega) 1094861123
    rw [Nat.shiftLeft_eq, h5 _ rfl] at this
    exact this.symm
  have e2 : ∀ q, q = 4702392716946833408 + k * 2 ^ 16 → q ||| g = q + g := fun q hq => by
    have h5 : ∀ p, p = 1094861123 * 2 ^ 16 + k → p * 2 ^ 16 = q := fun p hp => by omega
    have := Nat.shiftLeft_add_eq_or_of_lt (show g < 2 ^ 16 by omega) (1094861123 * 2 ^ 16 + k)
    rw [Nat.shiftLeft_eq, h5 _ rfl] at this
    exact this.symm
  have e3 : 4702392716946833408 + k * 2 ^ 16 + g = firstN k s := by unfold firstN; rw [hg]; rfl
  rw [e1 _ rfl, e2 _ rfl, e3]
  rw [show (UInt64.ofNat (firstN k s)).toNat = firstN k s from UInt64.toNat_ofNat_of_lt' h3]
  exact hs.fin 0 rfl _

theorem supS_len (k sec s ar : Int) : (supS k sec s ar).length = 4 := rfl
theorem supF_len (k sec s ar : Int) (hs : 0 < perN s) : ((supF k sec s ar).length : Int) = s := by
  have h1 := log_per s
  unfold supF
  rw [List.length_append, form_length, supS_len, List.length_replicate]
  have : 4 ≤ perN s := by
    rcases h1 with h | h
    · rw [h.2.2.2.2]
      have : 2 ^ 2 ≤ 2 ^ (logN s - 3).toNat := Nat.pow_le_pow_right (by omega) (by omega)
      omega
    · omega
  omega

theorem cell_u64 : cellInfo Try.prog 62 = some (1, 8, some #[.int .u64 0]) := by kernel_rfl

theorem cell_u8' : cellInfo Try.prog 5 = some (1, 1, some #[.int .u8 0]) := by kernel_rfl

theorem Put_no (k sec s ar : Int) (h : goodB k sec s ar = false) (H : Hp) : HCalls Try.prog 28 #[.agg (supV k sec s ar)] H (RetE (.tuple #[.slice none 0 0, .int .i64 1]) H) := by
  apply HCalls.ret
  apply W_super_Put.ok
  unfold W_super_Put
  refine (Sep.start H).nw fun b1 H hs => ?_
  first | refine hs.ldw 1 rfl rfl ?_ | refine hs.ldw 2 rfl rfl ?_ | refine hs.ldw 3 rfl rfl ?_ | refine hs.ldw 4 rfl rfl ?_ | refine hs.ldw 5 rfl rfl ?_ | refine hs.ldw 6 rfl rfl ?_ | refine hs.ldw 7 rfl rfl ?_ | refine hs.ldw 8 rfl rfl ?_
  try simp only [DI_int', DB_bool, DS_string, DP_pointer, DSl_slice, DM_map, DA_agg, DTup_tuple, DCons_cons, DNil_nil, NN_some, BIf_true, BIf_false, BIf_same, List.toList_toArray, Bool.not_true, Bool.not_false]
  refine HCalls.use (Good_ok k sec s ar H) ?_
  try simp only [DI_int', DB_bool, DS_string, DP_pointer, DSl_slice, DM_map, DA_agg, DTup_tuple, DCons_cons, DNil_nil, NN_some, BIf_true, BIf_false, BIf_same, List.toList_toArray, Bool.not_true, Bool.not_false]
  rw [h]
  exact hs.fin 0 rfl _

theorem u64_of {x : Nat} (h : x < 2 ^ 64) : (UInt64.ofNat x).toNat = x := UInt64.toNat_ofNat_of_lt' h

theorem Put_ok (k sec s ar : Int) (h : goodB k sec s ar = true) (hsec : sec ≤ 9223372036854775807) : Tr Try.prog 28 #[.agg (supV k sec s ar)] [] fun v M => ∃ b, v = .tuple #[.slice (some ⟨b, 0, none⟩) s.toNat s.toNat, .int .i64 0] ∧ M = [pts b (.row (byteVals (supF k sec s ar)) 5 s.toNat)] := fun H _ => by
  have hg := h
  unfold goodB at hg
  simp only [decide_eq_true_eq] at hg
  obtain ⟨h1, h2, h3, h4, h5, h6⟩ := hg
  obtain ⟨kn, rfl⟩ := Int.eq_ofNat_of_zero_le h1
  have hp := perN_le s
  have hlog := log_per s
  have hlen := supF_len kn sec s ar h3
  apply W_super_Put.ok
  unfold W_super_Put
  simp only [NN_some, Addr.add_lit', Addr.add_zero, Nat.zero_add, Nat.add_zero]
  refine (Sep.start H).nw fun b1 H hs => ?_
  first | refine hs.ldw 1 rfl rfl ?_ | refine hs.ldw 2 rfl rfl ?_ | refine hs.ldw 3 rfl rfl ?_ | refine hs.ldw 4 rfl rfl ?_ | refine hs.ldw 5 rfl rfl ?_ | refine hs.ldw 6 rfl rfl ?_ | refine hs.ldw 7 rfl rfl ?_ | refine hs.ldw 8 rfl rfl ?_
  try simp only [DI_int', DB_bool, DS_string, DP_pointer, DSl_slice, DM_map, DA_agg, DTup_tuple, DCons_cons, DNil_nil, NN_some, BIf_true, BIf_false, BIf_same, List.toList_toArray, Bool.not_true, Bool.not_false]
  refine HCalls.use (Good_ok kn sec s ar H) ?_
  try simp only [DI_int', DB_bool, DS_string, DP_pointer, DSl_slice, DM_map, DA_agg, DTup_tuple, DCons_cons, DNil_nil, NN_some, BIf_true, BIf_false, BIf_same, List.toList_toArray, Bool.not_true, Bool.not_false]
  rw [h]
  simp only [DI_int', DB_bool, DS_string, DP_pointer, DSl_slice, DM_map, DA_agg, DTup_tuple, DCons_cons, DNil_nil, NN_some, BIf_true, BIf_false, BIf_same, List.toList_toArray, Bool.not_true, Bool.not_false]
  first | refine hs.ldw 1 rfl rfl ?_ | refine hs.ldw 2 rfl rfl ?_ | refine hs.ldw 3 rfl rfl ?_ | refine hs.ldw 4 rfl rfl ?_ | refine hs.ldw 5 rfl rfl ?_ | refine hs.ldw 6 rfl rfl ?_ | refine hs.ldw 7 rfl rfl ?_ | refine hs.ldw 8 rfl rfl ?_
  try simp only [DI_int', DB_bool, DS_string, DP_pointer, DSl_slice, DM_map, DA_agg, DTup_tuple, DCons_cons, DNil_nil, NN_some, BIf_true, BIf_false, BIf_same, List.toList_toArray, Bool.not_true, Bool.not_false]
  refine QCall.use (first_ok kn sec s ar (by omega) h3 H) ?_
  try simp only [DI_int', DB_bool, DS_string, DP_pointer, DSl_slice, DM_map, DA_agg, DTup_tuple, DCons_cons, DNil_nil, NN_some, BIf_true, BIf_false, BIf_same, List.toList_toArray, Bool.not_true, Bool.not_false]
  first | refine hs.ld 1 rfl rfl ?_ | refine hs.ld 2 rfl rfl ?_ | refine hs.ld 3 rfl rfl ?_ | refine hs.ld 4 rfl rfl ?_ | refine hs.ld 5 rfl rfl ?_ | refine hs.ld 6 rfl rfl ?_ | refine hs.ld 7 rfl rfl ?_ | refine hs.ld 8 rfl rfl ?_
  try simp only [DI_int', DB_bool, DS_string, DP_pointer, DSl_slice, DM_map, DA_agg, DTup_tuple, DCons_cons, DNil_nil, NN_some, BIf_true, BIf_false, BIf_same, List.toList_toArray, Bool.not_true, Bool.not_false]
  first | refine hs.ld 1 rfl rfl ?_ | refine hs.ld 2 rfl rfl ?_ | refine hs.ld 3 rfl rfl ?_ | refine hs.ld 4 rfl rfl ?_ | refine hs.ld 5 rfl rfl ?_ | refine hs.ld 6 rfl rfl ?_ | refine hs.ld 7 rfl rfl ?_ | refine hs.ld 8 rfl rfl ?_
  try simp only [DI_int', DB_bool, DS_string, DP_pointer, DSl_slice, DM_map, DA_agg, DTup_tuple, DCons_cons, DNil_nil, NN_some, BIf_true, BIf_false, BIf_same, List.toList_toArray, Bool.not_true, Bool.not_false]
  rw [u64w (x := sec) (by omega) (by omega), u64w (x := ar) (by omega) (by omega)]
  have hw : ([.int .u64 ((UInt64.ofNat (firstN kn s)).toNat : Int), .int .u64 sec, .int .u64 ar] : List Value) = wordVals (supW kn sec s ar) := by
    unfold supW wordVals
    simp only [List.map_cons, List.map_nil, Int.toNat_natCast]
    rw [u64_of (x := sec.toNat) (by omega), u64_of (x := ar.toNat) (by omega)]
    rw [show ((sec.toNat : Nat) : Int) = sec by omega, show ((ar.toNat : Nat) : Int) = ar by omega]
  rw [hw]
  refine hs.nw fun b2 H hs => ?_
  first | refine hs.ld 1 rfl rfl ?_ | refine hs.ld 2 rfl rfl ?_ | refine hs.ld 3 rfl rfl ?_ | refine hs.ld 4 rfl rfl ?_ | refine hs.ld 5 rfl rfl ?_ | refine hs.ld 6 rfl rfl ?_ | refine hs.ld 7 rfl rfl ?_ | refine hs.ld 8 rfl rfl ?_
  try simp only [DI_int', DB_bool, DS_string, DP_pointer, DSl_slice, DM_map, DA_agg, DTup_tuple, DCons_cons, DNil_nil, NN_some, BIf_true, BIf_false, BIf_same, List.toList_toArray, Bool.not_true, Bool.not_false]
  refine hs.mks cell_u8' rfl (n := s.toNat) (m := s.toNat) (by omega) (by omega) (Nat.le_refl _) (by omega) (by omega) fun bo H hs => ?_
  simp only [DI_int', DB_bool, DS_string, DP_pointer, DSl_slice, DM_map, DA_agg, DTup_tuple, DCons_cons, DNil_nil, NN_some, BIf_true, BIf_false, BIf_same, List.toList_toArray, Bool.not_true, Bool.not_false]
  have hc2 : ∀ H, H b2 = some (.row (wordVals (supW kn sec s ar)) 62 3) → Cells H (some ⟨b2, 0, none⟩) (wordVals (supW kn sec s ar)) := fun H hb => Cells.row hb 0 3
  refine HCalls.use (CrcP.OfWords_ok (some ⟨b2, 0, none⟩) 3 3 (supW kn sec s ar) rfl (by omega) H (hc2 H (hs.get 2 rfl))) ?_
  try simp only [DI_int', DB_bool, DS_string, DP_pointer, DSl_slice, DM_map, DA_agg, DTup_tuple, DCons_cons, DNil_nil, NN_some, BIf_true, BIf_false, BIf_same, List.toList_toArray, Bool.not_true, Bool.not_false]
  have hsum := (Go.Crc.sum (form (supW kn sec s ar))).isLt
  rw [u64n (n := (Go.Crc.sum (form (supW kn sec s ar))).toNat) (by omega)]
  have hs : Sep [own _, pts b1 _, Own 62 1 (some ⟨b2, 0, none⟩) 3 3 (wordVals (supW kn sec s ar)), pts bo (.row (zeroRow [.int .u8 0] s.toNat) 5 (s.toNat * 1))] H := hs.turn 2 rfl fun H1 hH => ⟨rfl, .inr ⟨b2, 3, rfl, hH, by omega⟩⟩
  refine hs.app1 2 (by rfl) cell_u64 (by omega) (by rfl) (by omega) (by omega) fun A' m' H hs => ?_
  simp only [DI_int', DB_bool, DS_string, DP_pointer, DSl_slice, DM_map, DA_agg, DTup_tuple, DCons_cons, DNil_nil, NN_some, BIf_true, BIf_false, BIf_same, List.toList_toArray, Bool.not_true, Bool.not_false]
  have hw4 : wordVals (supW kn sec s ar) ++ [.int .u64 ((Go.Crc.sum (form (supW kn sec s ar))).toNat : Int)] = wordVals (supS kn sec s ar) := by
    unfold supS wordVals
    rw [List.map_append]
    congr 1
    simp only [List.map_cons, List.map_nil]
    rw [u64_of (by omega)]
  rw [hw4] at hs
  have hc4 : Cells H A' (wordVals (supS kn sec s ar)) := by
    obtain ⟨_, h7⟩ := hs.own 2 rfl
    rcases h7 with ⟨_, h8, _⟩ | ⟨b, mm, rfl, h8, _⟩
    · omega
    · exact Cells.row h8 0 4
  refine (FormP.Put_ok A' 4 m' (supS kn sec s ar) rfl (by omega) H hc4).mono ?_
  rintro v H' ⟨b4, hb4, rfl, rfl⟩
  have hs := hs.new hb4 (.row (byteVals (form (supS kn sec s ar))) 5 (8 * 4))
  simp only [DI_int', DB_bool, DS_string, DP_pointer, DSl_slice, DM_map, DA_agg, DTup_tuple, DCons_cons, DNil_nil, NN_some, BIf_true, BIf_false, BIf_same, List.toList_toArray, Bool.not_true, Bool.not_false]
  have hf : (form (supS kn sec s ar)).length = 32 := by rw [form_length]; rfl
  have hmin : Nat.min 32 s.toNat = 32 := by
    have : 4 ≤ perN s := by
      rcases hlog with h | h
      · rw [h.2.2.2.2]
        have : 2 ^ 2 ≤ 2 ^ (logN s - 3).toNat := Nat.pow_le_pow_right (by omega) (by omega)
        omega
      · omega
    exact Nat.min_eq_left (by omega)
  refine hs.cp 3 (k := 32) (n := s.toNat) (ys := byteVals (form (supS kn sec s ar))) (by rfl) cell_u8' rfl ?_ ?_ (fun y hy => ?_) fun H hs => ?_
  · rw [hmin]
    refine src_of ?_ (by rw [byteVals_length, hf])
    have := Cells.row (hs.get 4 (b := b4) (o := .row (byteVals (form (supS kn sec s ar))) 5 (8 * 4)) rfl) 0 32
    rw [List.drop_zero, List.take_of_length_le (by rw [byteVals_length, hf]; exact Nat.le_refl _)] at this
    exact this
  · rw [byteVals_length, hf, zeroRow_length]
    rw [← hmin]
    simp
    exact Nat.min_le_right _ _
  · obtain ⟨x, _, rfl⟩ := List.mem_map.1 hy; rfl
  simp only [DI_int', DB_bool, DS_string, DP_pointer, DSl_slice, DM_map, DA_agg, DTup_tuple, DCons_cons, DNil_nil, NN_some, BIf_true, BIf_false, BIf_same, List.toList_toArray, Bool.not_true, Bool.not_false]
  refine ⟨_, ⟨bo, rfl, rfl⟩, ?_⟩
  have hs := hs.re [3] rfl
  have e : setAt (zeroRow [.int .u8 0] s.toNat) 0 (byteVals (form (supS kn sec s ar))) = byteVals (supF kn sec s ar) := by
    unfold supF
    rw [byteVals_append, zeroRow_one]
    unfold setAt
    rw [byteVals_length, hf]
    simp [byteVals]
  rw [e, Nat.mul_one] at hs
  exact hs

end Go.Proofs.Ytbnhfcdagoigkaa.Sup
