/- super, and the document's superblock: what their functions answer. -/
import Derived.Test.YtbnhfcdagoigkaaLayB
import Derived.Test.YtbnhfcdagoigkaaCrcB
import Derived.Test.YtbnhfcdagoigkaaFormB
import Derived.Test.YtbnhfcdagoigkaaHwV
import Derived.Test.YtbnhfcdagoigkaaWsuper
import Derived.Test.YtbnhfcdagoigkaaWabacistref18
set_option maxRecDepth 100000
set_option linter.unusedSimpArgs false
set_option linter.unusedVariables false
set_option linter.unnecessarySimpa false
set_option linter.unusedSectionVars false
namespace Go.Proofs.Ytbnhfcdagoigkaa.Sup
open Go Go.Hw Go.Form Go.Proofs.Ytbnhfcdagoigkaa.W Go.Proofs.Ytbnhfcdagoigkaa.Lay

def supV (k sec s ar : Int) : Array Value := #[.int .i64 k, .int .i64 sec, .int .i64 s, .int .i64 ar]
def goodB (k sec s ar : Int) : Bool := decide (0 ≤ k ∧ k ≤ 32 ∧ 0 < perN s ∧ (needN k.toNat (perN s) : Int) ≤ sec ∧ 1 ≤ ar ∧ ar ≤ 16777216)

theorem layV_size (k p : Nat) : (layV k p).size = 17 := rfl
theorem OfV_size (k sec s : Int) : (OfV k sec s).1.size = 17 := by
  unfold OfV
  split
  · split <;> rfl
  · rfl
theorem OfV_one (k sec s : Int) : (OfV k sec s).1.toList.all (fun v => v.oneCell') = true := by
  unfold OfV
  split
  · split <;> rfl
  · rfl

theorem Good_ok (k sec s ar : Int) (H : Hp) : HCalls Try.prog 55 #[.agg (supV k sec s ar)] H (RetE (.bool (goodB k sec s ar)) H) := by
  apply HCalls.ret
  apply W_super_Good.ok
  unfold W_super_Good
  simp only [NN_some, Addr.add_lit', Addr.add_zero, Nat.zero_add, Nat.add_zero]
  refine (Sep.start H).nw fun b1 H hs => ?_
  first | refine hs.ld 1 rfl rfl ?_ | refine hs.ld 2 rfl rfl ?_ | refine hs.ld 3 rfl rfl ?_ | refine hs.ld 4 rfl rfl ?_ | refine hs.ld 5 rfl rfl ?_ | refine hs.ld 6 rfl rfl ?_ | refine hs.ld 7 rfl rfl ?_ | refine hs.ld 8 rfl rfl ?_
  try simp only [DI_int', DB_bool, DS_string, DP_pointer, DSl_slice, DM_map, DA_agg, DTup_tuple, DCons_cons, DNil_nil, NN_some, BIf_true, BIf_false, BIf_same, List.toList_toArray, Bool.not_true, Bool.not_false]
  first | refine hs.ld 1 rfl rfl ?_ | refine hs.ld 2 rfl rfl ?_ | refine hs.ld 3 rfl rfl ?_ | refine hs.ld 4 rfl rfl ?_ | refine hs.ld 5 rfl rfl ?_ | refine hs.ld 6 rfl rfl ?_ | refine hs.ld 7 rfl rfl ?_ | refine hs.ld 8 rfl rfl ?_
  try simp only [DI_int', DB_bool, DS_string, DP_pointer, DSl_slice, DM_map, DA_agg, DTup_tuple, DCons_cons, DNil_nil, NN_some, BIf_true, BIf_false, BIf_same, List.toList_toArray, Bool.not_true, Bool.not_false]
  first | refine hs.ld 1 rfl rfl ?_ | refine hs.ld 2 rfl rfl ?_ | refine hs.ld 3 rfl rfl ?_ | refine hs.ld 4 rfl rfl ?_ | refine hs.ld 5 rfl rfl ?_ | refine hs.ld 6 rfl rfl ?_ | refine hs.ld 7 rfl rfl ?_ | refine hs.ld 8 rfl rfl ?_
  try simp only [DI_int', DB_bool, DS_string, DP_pointer, DSl_slice, DM_map, DA_agg, DTup_tuple, DCons_cons, DNil_nil, NN_some, BIf_true, BIf_false, BIf_same, List.toList_toArray, Bool.not_true, Bool.not_false]
  refine HCalls.use (Of_ok k sec s H) ?_
  try simp only [DI_int', DB_bool, DS_string, DP_pointer, DSl_slice, DM_map, DA_agg, DTup_tuple, DCons_cons, DNil_nil, NN_some, BIf_true, BIf_false, BIf_same, List.toList_toArray, Bool.not_true, Bool.not_false]
  refine hs.nw fun b2 H hs => ?_
  refine hs.stw 2 rfl rfl (OfV_size _ _ _) (OfV_one _ _ _) fun H hs => ?_
  have hr := hs.fin 0 rfl (.bool (goodB k sec s ar))
  by_cases h : 0 ≤ k ∧ k ≤ 32 ∧ 0 < perN s ∧ (needN k.toNat (perN s) : Int) ≤ sec
  · have : (OfV k sec s).2 = 0 := by unfold OfV; rw [if_pos (by omega), if_neg (by omega)]
    rw [this]
    refine BIf_pos rfl ?_
    first | refine hs.ld 1 rfl rfl ?_ | refine hs.ld 2 rfl rfl ?_ | refine hs.ld 3 rfl rfl ?_ | refine hs.ld 4 rfl rfl ?_ | refine hs.ld 5 rfl rfl ?_ | refine hs.ld 6 rfl rfl ?_ | refine hs.ld 7 rfl rfl ?_ | refine hs.ld 8 rfl rfl ?_
    try simp only [DI_int', DB_bool, DS_string, DP_pointer, DSl_slice, DM_map, DA_agg, DTup_tuple, DCons_cons, DNil_nil, NN_some, BIf_true, BIf_false, BIf_same, List.toList_toArray, Bool.not_true, Bool.not_false]
    by_cases h2 : ar ≥ 1
    · refine BIf_dpos h2 ?_
      first | refine hs.ld 1 rfl rfl ?_ | refine hs.ld 2 rfl rfl ?_ | refine hs.ld 3 rfl rfl ?_ | refine hs.ld 4 rfl rfl ?_ | refine hs.ld 5 rfl rfl ?_ | refine hs.ld 6 rfl rfl ?_ | refine hs.ld 7 rfl rfl ?_ | refine hs.ld 8 rfl rfl ?_
      try simp only [DI_int', DB_bool, DS_string, DP_pointer, DSl_slice, DM_map, DA_agg, DTup_tuple, DCons_cons, DNil_nil, NN_some, BIf_true, BIf_false, BIf_same, List.toList_toArray, Bool.not_true, Bool.not_false]
      have : decide (ar ≤ 16777216) = goodB k sec s ar := by unfold goodB; simp only [decide_eq_decide]; omega
      rw [this]
      exact hr
    · refine BIf_dneg h2 ?_
      have : false = goodB k sec s ar := by unfold goodB; symm; simp only [decide_eq_false_iff_not]; omega
      rw [this]; exact hr
  · refine BIf_neg ?_ ?_
    · have : (OfV k sec s).2 = 1 ∨ (OfV k sec s).2 = 7 := by
        unfold OfV
        split
        · rw [if_pos (by omega)]; exact .inr rfl
        · exact .inl rfl
      rcases this with e | e <;> rw [e] <;> rfl
    · have : false = goodB k sec s ar := by unfold goodB; symm; simp only [decide_eq_false_iff_not]; omega
      rw [this]; exact hr

/-- The exponent of a sector's size. -/
def logN (s : Int) : Int := if s = 32 then 5 else if s = 64 then 6 else if s = 128 then 7 else if s = 256 then 8 else if s = 512 then 9 else if s = 1024 then 10 else if s = 2048 then 11 else if s = 4096 then 12 else -1

theorem log_loop (s : Int) (H : Hp) (K : Value → Hp → Prop) (hK : K (.int .i64 (logN s)) H) : W_abacistref18_Log.l3 K 9 s 32 5 H := by
  unfold logN at hK
  unfold W_abacistref18_Log.l3
  refine BIf_dpos (by decide) ?_
  split at hK
  · rename_i h
    subst h
    exact BIf_pos rfl hK
  rename_i h
  refine BIf_neg (beq_false_of_ne h) ?_
  unfold W_abacistref18_Log.l3
  refine BIf_dpos (by decide) ?_
  split at hK
  · rename_i h
    subst h
    exact BIf_pos rfl hK
  rename_i h
  refine BIf_neg (beq_false_of_ne h) ?_
  unfold W_abacistref18_Log.l3
  refine BIf_dpos (by decide) ?_
  split at hK
  · rename_i h
    subst h
    exact BIf_pos rfl hK
  rename_i h
  refine BIf_neg (beq_false_of_ne h) ?_
  unfold W_abacistref18_Log.l3
  refine BIf_dpos (by decide) ?_
  split at hK
  · rename_i h
    subst h
    exact BIf_pos rfl hK
  rename_i h
  refine BIf_neg (beq_false_of_ne h) ?_
  unfold W_abacistref18_Log.l3
  refine BIf_dpos (by decide) ?_
  split at hK
  · rename_i h
    subst h
    exact BIf_pos rfl hK
  rename_i h
  refine BIf_neg (beq_false_of_ne h) ?_
  unfold W_abacistref18_Log.l3
  refine BIf_dpos (by decide) ?_
  split at hK
  · rename_i h
    subst h
    exact BIf_pos rfl hK
  rename_i h
  refine BIf_neg (beq_false_of_ne h) ?_
  unfold W_abacistref18_Log.l3
  refine BIf_dpos (by decide) ?_
  split at hK
  · rename_i h
    subst h
    exact BIf_pos rfl hK
  rename_i h
  refine BIf_neg (beq_false_of_ne h) ?_
  unfold W_abacistref18_Log.l3
  refine BIf_dpos (by decide) ?_
  split at hK
  · rename_i h
    subst h
    exact BIf_pos rfl hK
  rename_i h
  refine BIf_neg (beq_false_of_ne h) ?_
  unfold W_abacistref18_Log.l3
  exact BIf_dneg (by decide) hK
theorem Log_ok (s : Int) (H : Hp) : HCalls Try.prog 34 #[.int .i64 s] H (RetE (.int .i64 (logN s)) H) := by
  apply W_abacistref18_Log.ok
  exact ⟨9, log_loop s H _ (RetE.mk _ _)⟩

theorem log_per (s : Int) : (0 < perN s ∧ s = 8 * perN s ∧ 5 ≤ logN s ∧ logN s ≤ 12 ∧ perN s = 2 ^ (logN s - 3).toNat) ∨ (perN s = 0 ∧ logN s = -1) := by
  unfold perN logN
  repeat' split
  all_goals first | (subst_vars; left; decide) | (right; exact ⟨rfl, rfl⟩)

theorem need_loop (K : Value → Hp → Prop) (k : Nat) (hk : k ≤ 32) (s : Int) (hs : 0 < perN s) (H : Hp) (hK : K (.int .i64 (needN k (perN s))) H) : ∀ d j : Nat, j + d = k → W_abacistref18_Need.l3 K (d + 1) (k : Int) s ((2 ^ j : Nat) : Int) (j : Int) H
  | 0, j, hj => by
    obtain rfl : j = k := by omega
    unfold W_abacistref18_Need.l3
    refine BIf_dneg (by omega) ⟨by decide, rfl, ?_⟩
    obtain ⟨_, h1, h2, h3, h4⟩ : 0 < perN s ∧ s = 8 * perN s ∧ 5 ≤ logN s ∧ logN s ≤ 12 ∧ perN s = 2 ^ (logN s - 3).toNat := by
      rcases log_per s with h | h
      · exact h
      · omega
    have hle := perN_le s
    have hp := pow_i64 (k := j) (by omega)
    have e1 : IntKind.i64.wrap (Int.tdiv s 8) = (perN s : Int) := by
      have : Int.tdiv s 8 = (perN s : Int) := by
        conv => lhs; rw [h1]
        exact Int.mul_tdiv_cancel_left _ (by omega)
      rw [this]
      exact i64n (by omega)
    rw [e1]
    have h2j : 1 ≤ 2 ^ j := Nat.one_le_two_pow
    by_cases hc : (2 ^ j : Nat) ≤ perN s
    · refine BIf_dpos (Int.ofNat_le.2 hc) ?_
      have : needN j (perN s) = 13 := by
        unfold needN roomN
        rw [Nat.div_eq_of_lt (by omega)]
      rw [this] at hK
      exact hK
    · refine BIf_dneg (fun h => hc (Int.ofNat_le.1 h)) ⟨by omega, rfl, ?_⟩
      have hd : perN s ∣ 2 ^ j := by
        rw [h4]
        refine Nat.pow_dvd_pow 2 ?_
        rw [h4] at hc
        have := (Nat.pow_lt_pow_iff_right (a := 2) (by omega)).1 (Nat.lt_of_not_le hc)
        omega
      obtain ⟨q, hq⟩ := hd
      have hq1 : 1 ≤ q := by
        cases q with
        | zero => rw [hq] at h2j; omega
        | succ q => omega
      have hdiv : 2 ^ j / perN s = q := by rw [hq]; exact Nat.mul_div_cancel_left q hs
      have hroom : roomN j (perN s) = q := by
        unfold roomN
        have : 2 ^ j - 1 = perN s * (q - 1) + (perN s - 1) := by
          rw [hq]
          have : perN s * q = perN s * (q - 1) + perN s := by
            rw [← Nat.mul_succ]; congr 1; omega
          omega
        rw [this, Nat.mul_add_div hs, Nat.div_eq_of_lt (by omega)]
        omega
      have hqle : q ≤ 2 ^ j := by rw [← hdiv]; exact Nat.div_le_self _ _
      have hp32 : 2 ^ j ≤ 2 ^ 32 := Nat.pow_le_pow_right (by omega) hk
      rw [show Int.tdiv ((2 ^ j : Nat) : Int) (perN s : Int) = ((2 ^ j / perN s : Nat) : Int) from rfl, hdiv, i64n (n := q) (by omega), i64w (x := 4 * (q : Int)) (by omega) (by omega), i64w (x := 9 + 4 * (q : Int)) (by omega) (by omega)]
      unfold needN at hK
      rw [hroom] at hK
      rw [show ((9 : Int) + 4 * (q : Int)) = ((9 + 4 * q : Nat) : Int) by omega]
      exact hK
  | d + 1, j, hj => by
    unfold W_abacistref18_Need.l3
    have hp : 2 ^ j ≤ 4294967296 := (Nat.pow_le_pow_right (by omega) (by omega) : 2 ^ j ≤ 2 ^ 32)
    have hnn := Int.natCast_nonneg (2 ^ j)
    have hp' : ((2 ^ j : Nat) : Int) ≤ 4294967296 := by exact Int.ofNat_le.2 hp
    refine BIf_dpos (by omega) ?_
    rw [i64w (x := 2 * ((2 ^ j : Nat) : Int)) (by omega) (by omega), i64w (x := (j : Int) + 1) (by omega) (by omega)]
    have := need_loop K k hk s hs H hK d (j + 1) (by omega)
    rw [show (2 : Int) * ((2 ^ j : Nat) : Int) = ((2 ^ (j + 1) : Nat) : Int) by rw [Nat.pow_succ]; omega]
    exact this
theorem Need18_ok (k : Nat) (hk : k ≤ 32) (s : Int) (hs : 0 < perN s) (H : Hp) : HCalls Try.prog 35 #[.int .i64 k, .int .i64 s] H (RetE (.int .i64 (needN k (perN s))) H) := by
  apply W_abacistref18_Need.ok
  exact ⟨k + 1, need_loop _ k hk s hs H (RetE.mk _ _) k 0 (by omega)⟩

theorem rGood_ok (k sec s ar : Int) (H : Hp) : HCalls Try.prog 10 #[.agg (supV k sec s ar)] H (RetE (.bool (goodB k sec s ar)) H) := by
  apply HCalls.ret
  apply W_abacistref18_Good.ok
  unfold W_abacistref18_Good
  simp only [NN_some, Addr.add_lit', Addr.add_zero, Nat.zero_add, Nat.add_zero]
  refine (Sep.start H).nw fun b1 H hs => ?_
  have hr := hs.fin 0 rfl (.bool (goodB k sec s ar))
  have hl := log_per s
  have no : ¬ (0 ≤ k ∧ k ≤ 32 ∧ 0 < perN s ∧ (needN k.toNat (perN s) : Int) ≤ sec ∧ 1 ≤ ar ∧ ar ≤ 16777216) → false = goodB k sec s ar := fun h => by unfold goodB; symm; simp only [decide_eq_false_iff_not]; exact h
  first | refine hs.ld 1 rfl rfl ?_ | refine hs.ld 2 rfl rfl ?_ | refine hs.ld 3 rfl rfl ?_ | refine hs.ld 4 rfl rfl ?_ | refine hs.ld 5 rfl rfl ?_ | refine hs.ld 6 rfl rfl ?_ | refine hs.ld 7 rfl rfl ?_ | refine hs.ld 8 rfl rfl ?_
  try simp only [DI_int', DB_bool, DS_string, DP_pointer, DSl_slice, DM_map, DA_agg, DTup_tuple, DCons_cons, DNil_nil, NN_some, BIf_true, BIf_false, BIf_same, List.toList_toArray, Bool.not_true, Bool.not_false]
  refine QCall.use (Log_ok s H) ?_
  try simp only [DI_int', DB_bool, DS_string, DP_pointer, DSl_slice, DM_map, DA_agg, DTup_tuple, DCons_cons, DNil_nil, NN_some, BIf_true, BIf_false, BIf_same, List.toList_toArray, Bool.not_true, Bool.not_false]
  by_cases h1 : logN s ≥ 0
  · refine BIf_dpos h1 ?_
    first | refine hs.ld 1 rfl rfl ?_ | refine hs.ld 2 rfl rfl ?_ | refine hs.ld 3 rfl rfl ?_ | refine hs.ld 4 rfl rfl ?_ | refine hs.ld 5 rfl rfl ?_ | refine hs.ld 6 rfl rfl ?_ | refine hs.ld 7 rfl rfl ?_ | refine hs.ld 8 rfl rfl ?_
    try simp only [DI_int', DB_bool, DS_string, DP_pointer, DSl_slice, DM_map, DA_agg, DTup_tuple, DCons_cons, DNil_nil, NN_some, BIf_true, BIf_false, BIf_same, List.toList_toArray, Bool.not_true, Bool.not_false]
    by_cases h2 : k ≥ 0
    · refine BIf_dpos h2 ?_
      first | refine hs.ld 1 rfl rfl ?_ | refine hs.ld 2 rfl rfl ?_ | refine hs.ld 3 rfl rfl ?_ | refine hs.ld 4 rfl rfl ?_ | refine hs.ld 5 rfl rfl ?_ | refine hs.ld 6 rfl rfl ?_ | refine hs.ld 7 rfl rfl ?_ | refine hs.ld 8 rfl rfl ?_
      try simp only [DI_int', DB_bool, DS_string, DP_pointer, DSl_slice, DM_map, DA_agg, DTup_tuple, DCons_cons, DNil_nil, NN_some, BIf_true, BIf_false, BIf_same, List.toList_toArray, Bool.not_true, Bool.not_false]
      by_cases h3 : k ≤ 32
      · refine BIf_dpos h3 ?_
        first | refine hs.ld 1 rfl rfl ?_ | refine hs.ld 2 rfl rfl ?_ | refine hs.ld 3 rfl rfl ?_ | refine hs.ld 4 rfl rfl ?_ | refine hs.ld 5 rfl rfl ?_ | refine hs.ld 6 rfl rfl ?_ | refine hs.ld 7 rfl rfl ?_ | refine hs.ld 8 rfl rfl ?_
        try simp only [DI_int', DB_bool, DS_string, DP_pointer, DSl_slice, DM_map, DA_agg, DTup_tuple, DCons_cons, DNil_nil, NN_some, BIf_true, BIf_false, BIf_same, List.toList_toArray, Bool.not_true, Bool.not_false]
        first | refine hs.ld 1 rfl rfl ?_ | refine hs.ld 2 rfl rfl ?_ | refine hs.ld 3 rfl rfl ?_ | refine hs.ld 4 rfl rfl ?_ | refine hs.ld 5 rfl rfl ?_ | refine hs.ld 6 rfl rfl ?_ | refine hs.ld 7 rfl rfl ?_ | refine hs.ld 8 rfl rfl ?_
        try simp only [DI_int', DB_bool, DS_string, DP_pointer, DSl_slice, DM_map, DA_agg, DTup_tuple, DCons_cons, DNil_nil, NN_some, BIf_true, BIf_false, BIf_same, List.toList_toArray, Bool.not_true, Bool.not_false]
        first | refine hs.ld 1 rfl rfl ?_ | refine hs.ld 2 rfl rfl ?_ | refine hs.ld 3 rfl rfl ?_ | refine hs.ld 4 rfl rfl ?_ | refine hs.ld 5 rfl rfl ?_ | refine hs.ld 6 rfl rfl ?_ | refine hs.ld 7 rfl rfl ?_ | refine hs.ld 8 rfl rfl ?_
        try simp only [DI_int', DB_bool, DS_string, DP_pointer, DSl_slice, DM_map, DA_agg, DTup_tuple, DCons_cons, DNil_nil, NN_some, BIf_true, BIf_false, BIf_same, List.toList_toArray, Bool.not_true, Bool.not_false]
        obtain ⟨n, rfl⟩ := Int.eq_ofNat_of_zero_le h2
        refine QCall.use (Need18_ok n (by omega) s (by omega) H) ?_
        try simp only [DI_int', DB_bool, DS_string, DP_pointer, DSl_slice, DM_map, DA_agg, DTup_tuple, DCons_cons, DNil_nil, NN_some, BIf_true, BIf_false, BIf_same, List.toList_toArray, Bool.not_true, Bool.not_false]
        by_cases h4 : sec ≥ (needN n (perN s) : Int)
        · refine BIf_dpos h4 ?_
          first | refine hs.ld 1 rfl rfl ?_ | refine hs.ld 2 rfl rfl ?_ | refine hs.ld 3 rfl rfl ?_ | refine hs.ld 4 rfl rfl ?_ | refine hs.ld 5 rfl rfl ?_ | refine hs.ld 6 rfl rfl ?_ | refine hs.ld 7 rfl rfl ?_ | refine hs.ld 8 rfl rfl ?_
          try simp only [DI_int', DB_bool, DS_string, DP_pointer, DSl_slice, DM_map, DA_agg, DTup_tuple, DCons_cons, DNil_nil, NN_some, BIf_true, BIf_false, BIf_same, List.toList_toArray, Bool.not_true, Bool.not_false]
          by_cases h5 : ar ≥ 1
          · refine BIf_dpos h5 ?_
            first | refine hs.ld 1 rfl rfl ?_ | refine hs.ld 2 rfl rfl ?_ | refine hs.ld 3 rfl rfl ?_ | refine hs.ld 4 rfl rfl ?_ | refine hs.ld 5 rfl rfl ?_ | refine hs.ld 6 rfl rfl ?_ | refine hs.ld 7 rfl rfl ?_ | refine hs.ld 8 rfl rfl ?_
            try simp only [DI_int', DB_bool, DS_string, DP_pointer, DSl_slice, DM_map, DA_agg, DTup_tuple, DCons_cons, DNil_nil, NN_some, BIf_true, BIf_false, BIf_same, List.toList_toArray, Bool.not_true, Bool.not_false]
            have : decide (ar ≤ 16777216) = goodB n sec s ar := by unfold goodB; simp only [decide_eq_decide, Int.toNat_natCast]; omega
            rw [this]
            exact hr
          · refine BIf_dneg h5 ?_
            rw [no (by omega)]; exact hr
        · refine BIf_dneg h4 ?_
          rw [no (by rw [Int.toNat_natCast]; omega)]; exact hr
      · refine BIf_dneg h3 ?_
        rw [no (by omega)]; exact hr
    · refine BIf_dneg h2 ?_
      rw [no (by omega)]; exact hr
  · refine BIf_dneg h1 ?_
    rw [no (by omega)]; exact hr

end Go.Proofs.Ytbnhfcdagoigkaa.Sup
