/- layout, and its law's helpers: what they answer. -/
import Derived.Test.YtbnhfcdagoigkaaHwL
import Derived.Test.YtbnhfcdagoigkaaWlayout
set_option maxRecDepth 100000
set_option linter.unusedSimpArgs false
set_option linter.unnecessarySimpa false
set_option linter.unusedSectionVars false

set_option linter.unusedVariables false
namespace Go.Proofs.Ytbnhfcdagoigkaa.Lay
open Go Go.Hw Go.Proofs.Ytbnhfcdagoigkaa.W

def perN (s : Int) : Nat := if s = 32 then 4 else if s = 64 then 8 else if s = 128 then 16 else if s = 256 then 32 else if s = 512 then 64 else if s = 1024 then 128 else if s = 2048 then 256 else if s = 4096 then 512 else 0

theorem bAnd_nat {x y : Nat} (hx : x < 2 ^ 63) (hy : y < 2 ^ 63) : bAnd .i64 (x : Int) (y : Int) = ((x &&& y : Nat) : Int) := by
  have hle : x &&& y ≤ x := Nat.and_le_left
  have h1 : (BitVec.ofInt 64 (x : Int) &&& BitVec.ofInt 64 (y : Int)).toNat = x &&& y := by
    simp only [BitVec.toNat_and, BitVec.ofInt_natCast, BitVec.toNat_ofNat]
    rw [Nat.mod_eq_of_lt (by omega), Nat.mod_eq_of_lt (by omega)]
  unfold bAnd
  rw [show IntKind.i64.bits = 64 from rfl, h1]
  exact i64w (by omega) (by omega)

theorem pow_table : (List.range 4097).all (fun n => if 32 ≤ n then (if n &&& (n - 1) == 0 then perN n != 0 && n / 8 == perN n else perN n == 0) else true) = true := by kernel_rfl

theorem perN_small {s : Int} (h : s < 32) : perN s = 0 := by
  unfold perN
  repeat (rw [if_neg (by omega)])
theorem perN_great {s : Int} (h : 4096 < s) : perN s = 0 := by
  unfold perN
  repeat (rw [if_neg (by omega)])

theorem per_ok (s : Int) (H : Hp) : HCalls Try.prog 88 #[.int .i64 s] H (RetE (.int .i64 (perN s)) H) := by
  apply W_layout_per.ok
  unfold W_layout_per
  rw [BIf_decide, BIf_decide, BIf_if]
  by_cases h1 : s < 32
  · rw [if_pos h1, perN_small h1]; exact RetE.mk _ _
  rw [if_neg h1]
  by_cases h2 : s > 4096
  · rw [if_pos h2, perN_great h2]; exact RetE.mk _ _
  rw [if_neg h2]
  obtain ⟨n, rfl⟩ := Int.eq_ofNat_of_zero_le (show 0 ≤ s by omega)
  have ht := List.all_eq_true.1 pow_table n (by simp; omega)
  rw [if_pos (by omega)] at ht
  rw [show ((n : Int) - 1) = ((n - 1 : Nat) : Int) by omega, i64w (by omega) (by omega), bAnd_nat (by omega) (by omega)]
  split at ht
  · rename_i h3
    simp only [Bool.and_eq_true, bne_iff_ne, beq_iff_eq] at ht h3
    rw [h3, if_neg (by simp)]
    refine ⟨by omega, rfl, RetE.of ?_⟩
    rw [show Int.tdiv (n : Int) 8 = ((n / 8 : Nat) : Int) from rfl, ht.2, i64w (by omega) (by have := ht.2; omega)]
  · rename_i h3
    simp only [beq_iff_eq] at ht h3
    rw [if_pos (by simp; omega), ht]
    exact RetE.mk _ _

/-- How many sectors 2^k words need. -/
def roomN (k p : Nat) : Nat := (2 ^ k - 1) / p + 1

theorem roomN_le {k p : Nat} (hk : k ≤ 33) : roomN k p ≤ 8589934592 := by
  unfold roomN
  have h1 : 2 ^ k ≤ 2 ^ 33 := Nat.pow_le_pow_right (by omega) hk
  have h2 : (2 ^ k - 1) / p ≤ 2 ^ k - 1 := Nat.div_le_self _ _
  have h3 : 1 ≤ 2 ^ k := Nat.one_le_two_pow
  omega

theorem pow_i64 {k : Nat} (h : k ≤ 62) : (2 : Nat) ^ k ≤ 4611686018427387904 := Nat.pow_le_pow_right (n := 2) (by omega) h

theorem shl_one {k : Nat} (h : k ≤ 62) : shlI .i64 1 (k : Int) = ((2 ^ k : Nat) : Int) := by
  unfold shlI
  rw [Int.toNat_natCast, show IntKind.i64.bits = 64 from rfl, Nat.min_eq_left (by omega), Int.one_mul]
  have := pow_i64 h
  rw [show ((2 : Int) ^ k) = ((2 ^ k : Nat) : Int) by simp]
  exact i64n (by omega)

theorem room_ok {k p : Nat} (hk : k ≤ 62) (hp : 0 < p) (hp2 : p < 2 ^ 62) (H : Hp) : HCalls Try.prog 103 #[.int .i64 k, .int .i64 p] H (RetE (.int .i64 (roomN k p)) H) := by
  apply W_layout_room.ok
  unfold W_layout_room
  have h1 := pow_i64 hk
  have h2 : 1 ≤ 2 ^ k := Nat.one_le_two_pow
  have h3 : (2 ^ k - 1) / p ≤ 2 ^ k - 1 := Nat.div_le_self _ _
  rw [u64w (by omega) (by omega), shl_one hk, i64w (x := ((2 ^ k : Nat) : Int) - 1) (by omega) (by omega)]
  rw [show (((2 ^ k : Nat) : Int) - 1) = ((2 ^ k - 1 : Nat) : Int) by omega, show Int.tdiv ((2 ^ k - 1 : Nat) : Int) (p : Int) = (((2 ^ k - 1) / p : Nat) : Int) from rfl]
  refine ⟨by omega, by omega, rfl, RetE.of ?_⟩
  rw [i64n (by omega), show ((((2 ^ k - 1) / p : Nat) : Int) + 1) = (((2 ^ k - 1) / p + 1 : Nat) : Int) by rfl, i64n (by omega)]
  rfl

theorem good_ok (k : Int) (p : Int) (H : Hp) : HCalls Try.prog 91 #[.int .i64 k, .int .i64 p] H (RetE (.bool (decide (0 ≤ k ∧ k ≤ 32 ∧ 0 < p))) H) := by
  apply W_layout_good.ok
  unfold W_layout_good
  rw [BIf_decide, BIf_decide]
  by_cases h1 : k ≥ 0
  · rw [if_pos h1]
    by_cases h2 : k ≤ 32
    · rw [if_pos h2]; refine RetE.of ?_; congr 2; simp; omega
    · rw [if_neg h2]; refine RetE.of ?_; congr 1; simp; omega
  · rw [if_neg h1]; refine RetE.of ?_; congr 1; simp; omega

/-- How many sectors a layout has. -/
def needN (k p : Nat) : Nat := 9 + 4 * roomN k p

theorem need_ok {k p : Nat} (hk : k ≤ 32) (hp : 0 < p) (hp2 : p < 2 ^ 62) (H : Hp) : HCalls Try.prog 92 #[.int .i64 k, .int .i64 p] H (RetE (.int .i64 (needN k p)) H) := by
  apply W_layout_need.ok
  unfold W_layout_need
  refine HCalls.use (room_ok (by omega) hp hp2 H) ?_
  try simp only [DI_int', DB_bool, DS_string, DP_pointer, DSl_slice, DM_map, DA_agg, DTup_tuple, DCons_cons, DNil_nil, NN_some, BIf_true, BIf_false, BIf_same, List.toList_toArray, Bool.not_true, Bool.not_false]
  have := roomN_le (k := k) (p := p) (by omega)
  refine RetE.of ?_
  rw [i64w (x := 4 * (roomN k p : Int)) (by omega) (by omega), i64w (by omega) (by omega)]
  unfold needN; simp

theorem perN_le (s : Int) : perN s ≤ 512 := by
  unfold perN
  repeat' split
  all_goals omega

/-- Need's answer. -/
def NeedV (k s : Int) : Int × Int := if 0 ≤ k ∧ k ≤ 32 ∧ 0 < perN s then (needN k.toNat (perN s), 0) else (0, 1)

theorem Need_ok (k s : Int) (H : Hp) : HCalls Try.prog 80 #[.int .i64 k, .int .i64 s] H (RetE (.tuple #[.int .i64 (NeedV k s).1, .int .i64 (NeedV k s).2]) H) := by
  apply W_layout_Need.ok
  unfold W_layout_Need
  refine HCalls.use (per_ok s H) ?_
  try simp only [DI_int', DB_bool, DS_string, DP_pointer, DSl_slice, DM_map, DA_agg, DTup_tuple, DCons_cons, DNil_nil, NN_some, BIf_true, BIf_false, BIf_same, List.toList_toArray, Bool.not_true, Bool.not_false]
  refine HCalls.use (good_ok k _ H) ?_
  try simp only [DI_int', DB_bool, DS_string, DP_pointer, DSl_slice, DM_map, DA_agg, DTup_tuple, DCons_cons, DNil_nil, NN_some, BIf_true, BIf_false, BIf_same, List.toList_toArray, Bool.not_true, Bool.not_false]
  unfold NeedV
  have hle := perN_le s
  by_cases h : 0 ≤ k ∧ k ≤ 32 ∧ 0 < perN s
  · rw [if_pos h]
    refine BIf_neg (by simp; omega) ?_
    refine HCalls.use (per_ok s H) ?_
    try simp only [DI_int', DB_bool, DS_string, DP_pointer, DSl_slice, DM_map, DA_agg, DTup_tuple, DCons_cons, DNil_nil, NN_some, BIf_true, BIf_false, BIf_same, List.toList_toArray, Bool.not_true, Bool.not_false]
    obtain ⟨n, rfl⟩ := Int.eq_ofNat_of_zero_le h.1
    refine HCalls.use (need_ok (by omega) h.2.2 (by omega) H) ?_
    try simp only [DI_int', DB_bool, DS_string, DP_pointer, DSl_slice, DM_map, DA_agg, DTup_tuple, DCons_cons, DNil_nil, NN_some, BIf_true, BIf_false, BIf_same, List.toList_toArray, Bool.not_true, Bool.not_false]
    exact RetE.mk _ _
  · rw [if_neg h]
    exact BIf_pos (by simp; omega) (RetE.mk _ _)

/-- The greatest exponent below k that fits. -/
def mostN (sec : Int) (p : Nat) : Nat → Option Nat
  | 0 => none
  | k + 1 => if (needN k p : Int) ≤ sec then some k else mostN sec p k

def MostV (sec s : Int) : Int × Bool := if perN s = 0 then (0, false) else match mostN sec (perN s) 33 with | some k => (k, true) | none => (0, false)

/-! ## The law's own -/

def lroomN (k p : Nat) : Nat := if 2 ^ k ≤ p then 1 else 2 ^ k / p

theorem perN_cases (s : Int) (h : perN s ≠ 0) : ∃ m, 2 ≤ m ∧ m ≤ 9 ∧ perN s = 2 ^ m := by
  unfold perN at h ⊢
  repeat' split
  all_goals first | exact ⟨2, by omega⟩ | exact ⟨3, by omega⟩ | exact ⟨4, by omega⟩ | exact ⟨5, by omega⟩ | exact ⟨6, by omega⟩ | exact ⟨7, by omega⟩ | exact ⟨8, by omega⟩ | exact ⟨9, by omega⟩ | skip
  exfalso
  repeat (rw [if_neg (by assumption)] at h)
  exact h rfl

theorem lroomN_eq {k m : Nat} : lroomN k (2 ^ m) = roomN k (2 ^ m) := by
  unfold lroomN roomN
  have h0 : 1 ≤ 2 ^ k := Nat.one_le_two_pow
  have h1 : 1 ≤ 2 ^ m := Nat.one_le_two_pow
  by_cases h : 2 ^ k ≤ 2 ^ m
  · rw [if_pos h, Nat.div_eq_of_lt (by omega)]
  · rw [if_neg h]
    have hm : m < k := by
      rcases Nat.lt_or_ge m k with h2 | h2
      · exact h2
      · exact absurd (Nat.pow_le_pow_right (by omega) h2) h
    obtain ⟨d, rfl⟩ : ∃ d, k = m + d := ⟨k - m, by omega⟩
    rw [Nat.pow_add, Nat.mul_div_cancel_left _ (by omega)]
    have h2 : 1 ≤ 2 ^ d := Nat.one_le_two_pow
    have : ∀ a b : Nat, 1 ≤ a → 1 ≤ b → (a * b - 1) / a = b - 1 := by
      intro a b ha hb
      have hab := Nat.mul_le_mul ha hb
      have hs : (b - 1) * a = a * b - a := by rw [Nat.sub_mul, Nat.mul_comm b a, Nat.one_mul]
      apply Nat.div_eq_of_lt_le
      · rw [hs]; omega
      · rw [show b - 1 + 1 = b by omega, Nat.mul_comm b a]; omega
    rw [this _ _ h1 h2]
    omega

theorem mostN_none {sec : Int} {p : Nat} : ∀ n, mostN sec p n = none → ∀ k, k < n → sec < needN k p
  | 0, _, k, hk => by omega
  | n + 1, h, k, hk => by
    unfold mostN at h
    split at h
    · cases h
    · rcases Nat.lt_succ_iff_lt_or_eq.1 hk with h1 | rfl
      · exact mostN_none n h k h1
      · omega

theorem mostN_some {sec : Int} {p : Nat} : ∀ n k, mostN sec p n = some k → k < n ∧ (needN k p : Int) ≤ sec ∧ (k + 1 < n → sec < needN (k + 1) p)
  | 0, k, h => by cases h
  | n + 1, k, h => by
    unfold mostN at h
    split at h
    · cases h
      exact ⟨by omega, by assumption, by omega⟩
    · obtain ⟨h1, h2, h3⟩ := mostN_some n k h
      refine ⟨by omega, h2, fun h4 => ?_⟩
      rcases Nat.lt_succ_iff_lt_or_eq.1 h4 with h5 | h5
      · exact h3 h5
      · rw [h5]; omega

end Go.Proofs.Ytbnhfcdagoigkaa.Lay
