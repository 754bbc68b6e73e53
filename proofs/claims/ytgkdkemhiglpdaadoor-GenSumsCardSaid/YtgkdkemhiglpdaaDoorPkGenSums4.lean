import Derived.Test.YtgkdkemhiglpdaaDoorPkGenSums3
section
/-! GenI -/
/- gen.Sum; the law GenSums. -/
set_option maxRecDepth 100000
set_option linter.unusedSimpArgs false
set_option linter.unusedVariables false
set_option linter.unnecessarySimpa false
set_option linter.unusedSectionVars false
namespace Go.Proofs.YtgkdkemhiglpdaaDoor.Gen
open Go Go.Hw Go.Proofs.YtgkdkemhiglpdaaDoor.W Go.Proofs.YtgkdkemhiglpdaaDoor.Gol

theorem triangle_ok {n : Nat} (hn : n ≤ 4294967296) (H : Hp) : HCalls Tryd.prog 66 #[.int .i64 (n : Int)] H (RetE (.int .u64 ((tri n % 18446744069414584321 : Nat) : Int)) H) := by
  apply W_gen_triangle.ok
  unfold W_gen_triangle
  refine ⟨by decide, by simp, ?_⟩
  rw [show Int.tmod (n : Int) 2 = ((n % 2 : Nat) : Int) from rfl, show Int.tdiv (n : Int) 2 = ((n / 2 : Nat) : Int) from rfl, i64n (n := n / 2) (by omega), u64n (n := n / 2) (by omega), u64n (n := n) (by omega), i64w (x := (n : Int) - 1) (by omega) (by omega)]
  have em : (if (0 : Int) > (n : Int) - 1 then 0 else (n : Int) - 1) = ((n - 1 : Nat) : Int) := by split <;> omega
  rw [em, u64n (n := n - 1) (by omega)]
  by_cases h : n % 2 = 0
  · refine BIf_beqp (by omega) ⟨by decide, by simp, ?_⟩
    refine HCalls.use (Mul_ok (a := n / 2) (b := n - 1) (by omega) (by omega) H) ?_
    simp only [DI_int', DB_bool, DS_string, DP_pointer, DSl_slice, DM_map, DA_agg, DTup_tuple, DCons_cons, DNil_nil, NN_some, BIf_true, BIf_false, BIf_same, List.toList_toArray, Bool.not_true, Bool.not_false]
    have := (tri_two (n / 2)).1
    rw [show 2 * (n / 2) = n by omega] at this
    rw [this]
    exact RetE.mk _ _
  · refine BIf_beqn (by omega) ⟨by decide, by simp, ?_⟩
    refine HCalls.use (Mul_ok (a := n) (b := n / 2) (by omega) (by omega) H) ?_
    simp only [DI_int', DB_bool, DS_string, DP_pointer, DSl_slice, DM_map, DA_agg, DTup_tuple, DCons_cons, DNil_nil, NN_some, BIf_true, BIf_false, BIf_same, List.toList_toArray, Bool.not_true, Bool.not_false]
    have := (tri_two (n / 2)).2
    rw [show 2 * (n / 2) + 1 = n by omega] at this
    rw [this]
    exact RetE.mk _ _

theorem pulsed_ok (k : Int) {a b c n : Nat} (hb : b < 4294967296) (hc : c < 4294967296) (hn : n ≤ 4294967296) (H : Hp) : HCalls Tryd.prog 69 #[.agg #[.int .i64 k, .int .u64 (a : Int), .int .u64 (b : Int), .int .u64 (c : Int)], .int .i64 (n : Int)] H (RetE (.int .u64 ((cnt b c n : Nat) : Int)) H) := HCalls.ret (by
  apply W_gen_pulsed.ok
  unfold W_gen_pulsed
  refine (Sep.start H).nw fun b1 H1 hs => ?_
  first | refine hs.ldf 1 rfl rfl ?_ | refine hs.ldg 1 rfl rfl ?_
  try simp only [DI_int', DB_bool, DS_string, DP_pointer, DSl_slice, DM_map, DA_agg, DTup_tuple, DCons_cons, DNil_nil, NN_some, BIf_true, BIf_false, BIf_same, List.toList_toArray, Bool.not_true, Bool.not_false]
  rw [u64n (n := n) (by omega)]
  by_cases h : c = 0
  · subst h
    rw [cnt_0]
    refine BIf_beqp rfl ?_
    first | refine hs.ldf 1 rfl rfl ?_ | refine hs.ldg 1 rfl rfl ?_
    try simp only [DI_int', DB_bool, DS_string, DP_pointer, DSl_slice, DM_map, DA_agg, DTup_tuple, DCons_cons, DNil_nil, NN_some, BIf_true, BIf_false, BIf_same, List.toList_toArray, Bool.not_true, Bool.not_false]
    by_cases h2 : b < n
    · rw [if_pos h2]
      exact BIf_dpos (by omega) (hs.fin 0 rfl _)
    · rw [if_neg h2]
      exact BIf_dneg (by omega) (hs.fin 0 rfl _)
  · rw [cnt_c b (by omega)]
    refine BIf_beqn (by omega) ?_
    first | refine hs.ldf 1 rfl rfl ?_ | refine hs.ldg 1 rfl rfl ?_
    try simp only [DI_int', DB_bool, DS_string, DP_pointer, DSl_slice, DM_map, DA_agg, DTup_tuple, DCons_cons, DNil_nil, NN_some, BIf_true, BIf_false, BIf_same, List.toList_toArray, Bool.not_true, Bool.not_false]
    first | refine hs.ldf 1 rfl rfl ?_ | refine hs.ldg 1 rfl rfl ?_
    try simp only [DI_int', DB_bool, DS_string, DP_pointer, DSl_slice, DM_map, DA_agg, DTup_tuple, DCons_cons, DNil_nil, NN_some, BIf_true, BIf_false, BIf_same, List.toList_toArray, Bool.not_true, Bool.not_false]
    refine ⟨by omega, by simp, ?_⟩
    rw [show Int.tmod (b : Int) (c : Int) = ((b % c : Nat) : Int) from rfl]
    have hf := Nat.mod_lt b (show 0 < c by omega)
    generalize b % c = f at *
    by_cases h2 : n ≤ f
    · rw [if_pos h2]
      exact BIf_dpos (by omega) (hs.fin 0 rfl _)
    · rw [if_neg h2]
      refine BIf_dneg (by omega) ?_
      first | refine hs.ldf 1 rfl rfl ?_ | refine hs.ldg 1 rfl rfl ?_
      try simp only [DI_int', DB_bool, DS_string, DP_pointer, DSl_slice, DM_map, DA_agg, DTup_tuple, DCons_cons, DNil_nil, NN_some, BIf_true, BIf_false, BIf_same, List.toList_toArray, Bool.not_true, Bool.not_false]
      refine ⟨by omega, by simp, ?_⟩
      rw [u64w (x := (n : Int) - 1) (by omega) (by omega), u64w (x := (n : Int) - 1 - (f : Int)) (by omega) (by omega), show (n : Int) - 1 - (f : Int) = ((n - 1 - f : Nat) : Int) by omega,
        show Int.tdiv ((n - 1 - f : Nat) : Int) (c : Int) = (((n - 1 - f) / c : Nat) : Int) from rfl]
      have hd := Nat.div_le_self (n - 1 - f) c
      generalize (n - 1 - f) / c = q at *
      rw [u64n (n := q) (by omega), u64w (by omega) (by omega)]
      have := hs.fin 0 rfl (.int .u64 ((q + 1 : Nat) : Int))
      exact this)

theorem chained_ok (k : Int) {a b c n : Nat} (ha : a < 18446744069414584321) (hb : b < 18446744069414584321) (hc : c < 18446744069414584321) (hn : n ≤ 4294967296) (H : Hp) : HCalls Tryd.prog 68 #[.agg #[.int .i64 k, .int .u64 (a : Int), .int .u64 (b : Int), .int .u64 (c : Int)], .int .i64 (n : Int)] H (RetE (.int .u64 (((a * geo b n + c * gsum b n) % 18446744069414584321 : Nat) : Int)) H) := HCalls.ret (by
  have hpos : ∀ x, x % 18446744069414584321 < 18446744069414584321 := fun x => Nat.mod_lt x (Nat.zero_lt_succ _)
  apply W_gen_chained.ok
  unfold W_gen_chained
  refine (Sep.start H).nw fun b1 H1 hs => ?_
  first | refine hs.ldf 1 rfl rfl ?_ | refine hs.ldg 1 rfl rfl ?_
  try simp only [DI_int', DB_bool, DS_string, DP_pointer, DSl_slice, DM_map, DA_agg, DTup_tuple, DCons_cons, DNil_nil, NN_some, BIf_true, BIf_false, BIf_same, List.toList_toArray, Bool.not_true, Bool.not_false]
  refine HCalls.use (Of_ok (a := b) (by omega) H1) ?_
  simp only [DI_int', DB_bool, DS_string, DP_pointer, DSl_slice, DM_map, DA_agg, DTup_tuple, DCons_cons, DNil_nil, NN_some, BIf_true, BIf_false, BIf_same, List.toList_toArray, Bool.not_true, Bool.not_false]
  rw [u64n (n := n) (by omega)]
  by_cases h1 : b = 1
  · subst h1
    refine BIf_beqp (by decide) ?_
    first | refine hs.ldf 1 rfl rfl ?_ | refine hs.ldg 1 rfl rfl ?_
    try simp only [DI_int', DB_bool, DS_string, DP_pointer, DSl_slice, DM_map, DA_agg, DTup_tuple, DCons_cons, DNil_nil, NN_some, BIf_true, BIf_false, BIf_same, List.toList_toArray, Bool.not_true, Bool.not_false]
    refine QCall.use (Mul_ok (a := a) (b := n) (by omega) (by omega) H1) ?_
    simp only [DI_int', DB_bool, DS_string, DP_pointer, DSl_slice, DM_map, DA_agg, DTup_tuple, DCons_cons, DNil_nil, NN_some, BIf_true, BIf_false, BIf_same, List.toList_toArray, Bool.not_true, Bool.not_false]
    first | refine hs.ldf 1 rfl rfl ?_ | refine hs.ldg 1 rfl rfl ?_
    try simp only [DI_int', DB_bool, DS_string, DP_pointer, DSl_slice, DM_map, DA_agg, DTup_tuple, DCons_cons, DNil_nil, NN_some, BIf_true, BIf_false, BIf_same, List.toList_toArray, Bool.not_true, Bool.not_false]
    refine QCall.use (triangle_ok hn H1) ?_
    simp only [DI_int', DB_bool, DS_string, DP_pointer, DSl_slice, DM_map, DA_agg, DTup_tuple, DCons_cons, DNil_nil, NN_some, BIf_true, BIf_false, BIf_same, List.toList_toArray, Bool.not_true, Bool.not_false]
    have q1 := hpos (tri n)
    have q2 := hpos (a * n)
    have q3 := hpos (c * (tri n % 18446744069414584321))
    refine QCall.use (Mul_ok (a := c) (b := tri n % 18446744069414584321) (by omega) (by omega) H1) ?_
    simp only [DI_int', DB_bool, DS_string, DP_pointer, DSl_slice, DM_map, DA_agg, DTup_tuple, DCons_cons, DNil_nil, NN_some, BIf_true, BIf_false, BIf_same, List.toList_toArray, Bool.not_true, Bool.not_false]
    refine QCall.use (Add_ok (a := a * n % 18446744069414584321) (b := c * (tri n % 18446744069414584321) % 18446744069414584321) (by omega) (by omega) H1) ?_
    simp only [DI_int', DB_bool, DS_string, DP_pointer, DSl_slice, DM_map, DA_agg, DTup_tuple, DCons_cons, DNil_nil, NN_some, BIf_true, BIf_false, BIf_same, List.toList_toArray, Bool.not_true, Bool.not_false]
    rw [mod_mul_r, ← Nat.add_mod, geo_1, gsum_1]
    exact hs.fin 0 rfl _
  · refine BIf_beqn (by omega) ?_
    first | refine hs.ldf 1 rfl rfl ?_ | refine hs.ldg 1 rfl rfl ?_
    try simp only [DI_int', DB_bool, DS_string, DP_pointer, DSl_slice, DM_map, DA_agg, DTup_tuple, DCons_cons, DNil_nil, NN_some, BIf_true, BIf_false, BIf_same, List.toList_toArray, Bool.not_true, Bool.not_false]
    refine HCalls.use (ladder_ok (b := b) (n := n) (by omega) (by omega) H1) ?_
    simp only [DI_int', DB_bool, DS_string, DP_pointer, DSl_slice, DM_map, DA_agg, DTup_tuple, DCons_cons, DNil_nil, NN_some, BIf_true, BIf_false, BIf_same, List.toList_toArray, Bool.not_true, Bool.not_false]
    have q1 := hpos (geo b n)
    refine QCall.use (Sub_ok (a := geo b n % 18446744069414584321) (b := n) (by omega) (by omega) H1) ?_
    simp only [DI_int', DB_bool, DS_string, DP_pointer, DSl_slice, DM_map, DA_agg, DTup_tuple, DCons_cons, DNil_nil, NN_some, BIf_true, BIf_false, BIf_same, List.toList_toArray, Bool.not_true, Bool.not_false]
    first | refine hs.ldf 1 rfl rfl ?_ | refine hs.ldg 1 rfl rfl ?_
    try simp only [DI_int', DB_bool, DS_string, DP_pointer, DSl_slice, DM_map, DA_agg, DTup_tuple, DCons_cons, DNil_nil, NN_some, BIf_true, BIf_false, BIf_same, List.toList_toArray, Bool.not_true, Bool.not_false]
    refine QCall.use (Sub_ok (a := b) (b := 1) (by omega) (by omega) H1) ?_
    simp only [DI_int', DB_bool, DS_string, DP_pointer, DSl_slice, DM_map, DA_agg, DTup_tuple, DCons_cons, DNil_nil, NN_some, BIf_true, BIf_false, BIf_same, List.toList_toArray, Bool.not_true, Bool.not_false]
    have s1 : sub (geo b n % 18446744069414584321) n < 18446744069414584321 := hpos _
    have s2 : sub b 1 < 18446744069414584321 := hpos _
    refine QCall.use (Div_ok (a := sub (geo b n % 18446744069414584321) n) (b := sub b 1) (by omega) (by omega) (by unfold sub neg; omega) H1) ?_
    simp only [DI_int', DB_bool, DS_string, DP_pointer, DSl_slice, DM_map, DA_agg, DTup_tuple, DCons_cons, DNil_nil, NN_some, BIf_true, BIf_false, BIf_same, List.toList_toArray, Bool.not_true, Bool.not_false]
    rw [below_is hb h1]
    have q2 := hpos (gsum b n)
    first | refine hs.ldf 1 rfl rfl ?_ | refine hs.ldg 1 rfl rfl ?_
    try simp only [DI_int', DB_bool, DS_string, DP_pointer, DSl_slice, DM_map, DA_agg, DTup_tuple, DCons_cons, DNil_nil, NN_some, BIf_true, BIf_false, BIf_same, List.toList_toArray, Bool.not_true, Bool.not_false]
    refine QCall.use (Mul_ok (a := a) (b := geo b n % 18446744069414584321) (by omega) (by omega) H1) ?_
    simp only [DI_int', DB_bool, DS_string, DP_pointer, DSl_slice, DM_map, DA_agg, DTup_tuple, DCons_cons, DNil_nil, NN_some, BIf_true, BIf_false, BIf_same, List.toList_toArray, Bool.not_true, Bool.not_false]
    first | refine hs.ldf 1 rfl rfl ?_ | refine hs.ldg 1 rfl rfl ?_
    try simp only [DI_int', DB_bool, DS_string, DP_pointer, DSl_slice, DM_map, DA_agg, DTup_tuple, DCons_cons, DNil_nil, NN_some, BIf_true, BIf_false, BIf_same, List.toList_toArray, Bool.not_true, Bool.not_false]
    refine QCall.use (Mul_ok (a := c) (b := gsum b n % 18446744069414584321) (by omega) (by omega) H1) ?_
    simp only [DI_int', DB_bool, DS_string, DP_pointer, DSl_slice, DM_map, DA_agg, DTup_tuple, DCons_cons, DNil_nil, NN_some, BIf_true, BIf_false, BIf_same, List.toList_toArray, Bool.not_true, Bool.not_false]
    have q3 := hpos (a * (geo b n % 18446744069414584321))
    have q4 := hpos (c * (gsum b n % 18446744069414584321))
    refine QCall.use (Add_ok (a := a * (geo b n % 18446744069414584321) % 18446744069414584321) (b := c * (gsum b n % 18446744069414584321) % 18446744069414584321) (by omega) (by omega) H1) ?_
    simp only [DI_int', DB_bool, DS_string, DP_pointer, DSl_slice, DM_map, DA_agg, DTup_tuple, DCons_cons, DNil_nil, NN_some, BIf_true, BIf_false, BIf_same, List.toList_toArray, Bool.not_true, Bool.not_false]
    rw [mod_mul_add]
    exact hs.fin 0 rfl _)

theorem cnt_le (b c : Nat) : ∀ n, cnt b c n ≤ n
  | 0 => Nat.le_refl _
  | n + 1 => by
    show cnt b c n + _ ≤ n + 1
    have := cnt_le b c n
    split <;> omega

theorem Sum_ok {k : Int} {a b c n : Nat} (hg : goodR k a b c = true) (hn : n ≤ 4294967296) (H : Hp) : HCalls Tryd.prog 35 #[.agg #[.int .i64 k, .int .u64 (a : Int), .int .u64 (b : Int), .int .u64 (c : Int)], .int .i64 (n : Int)] H (RetE (.tuple #[.int .u64 ((sumV k a b c n % 18446744069414584321 : Nat) : Int), .int .i64 0]) H) := HCalls.ret (by
  obtain ⟨h1, h5, ha, hb, hc, hp⟩ := goodR_of hg
  have hpos : ∀ x, x % 18446744069414584321 < 18446744069414584321 := fun x => Nat.mod_lt x (Nat.zero_lt_succ _)
  apply W_gen_Sum.ok
  unfold W_gen_Sum
  refine (Sep.start H).nw fun b1 H1 hs => ?_
  refine hs.ldw 1 rfl rfl ?_
  refine HCalls.use (Good_ok k a b c H1) ?_
  rw [hg]
  simp only [DI_int', DB_bool, DS_string, DP_pointer, DSl_slice, DM_map, DA_agg, DTup_tuple, DCons_cons, DNil_nil, NN_some, BIf_true, BIf_false, BIf_same, List.toList_toArray, Bool.not_true, Bool.not_false]
  refine BIf_dneg (by omega) (BIf_dneg (by omega) ?_)
  first | refine hs.ldf 1 rfl rfl ?_ | refine hs.ldg 1 rfl rfl ?_
  try simp only [DI_int', DB_bool, DS_string, DP_pointer, DSl_slice, DM_map, DA_agg, DTup_tuple, DCons_cons, DNil_nil, NN_some, BIf_true, BIf_false, BIf_same, List.toList_toArray, Bool.not_true, Bool.not_false]
  rw [u64n (n := n) (by omega)]
  by_cases k1 : k = 1
  · refine BIf_beqp k1 ?_
    first | refine hs.ldf 1 rfl rfl ?_ | refine hs.ldg 1 rfl rfl ?_
    try simp only [DI_int', DB_bool, DS_string, DP_pointer, DSl_slice, DM_map, DA_agg, DTup_tuple, DCons_cons, DNil_nil, NN_some, BIf_true, BIf_false, BIf_same, List.toList_toArray, Bool.not_true, Bool.not_false]
    refine HCalls.use (Mul_ok (a := a) (b := n) (by omega) (by omega) H1) ?_
    simp only [DI_int', DB_bool, DS_string, DP_pointer, DSl_slice, DM_map, DA_agg, DTup_tuple, DCons_cons, DNil_nil, NN_some, BIf_true, BIf_false, BIf_same, List.toList_toArray, Bool.not_true, Bool.not_false]
    rw [sum_1 k1]
    exact hs.fin 0 rfl _
  refine BIf_beqn k1 ?_
  by_cases k2 : k = 2
  · refine BIf_beqp k2 ?_
    first | refine hs.ldf 1 rfl rfl ?_ | refine hs.ldg 1 rfl rfl ?_
    try simp only [DI_int', DB_bool, DS_string, DP_pointer, DSl_slice, DM_map, DA_agg, DTup_tuple, DCons_cons, DNil_nil, NN_some, BIf_true, BIf_false, BIf_same, List.toList_toArray, Bool.not_true, Bool.not_false]
    refine QCall.use (Mul_ok (a := a) (b := n) (by omega) (by omega) H1) ?_
    simp only [DI_int', DB_bool, DS_string, DP_pointer, DSl_slice, DM_map, DA_agg, DTup_tuple, DCons_cons, DNil_nil, NN_some, BIf_true, BIf_false, BIf_same, List.toList_toArray, Bool.not_true, Bool.not_false]
    first | refine hs.ldf 1 rfl rfl ?_ | refine hs.ldg 1 rfl rfl ?_
    try simp only [DI_int', DB_bool, DS_string, DP_pointer, DSl_slice, DM_map, DA_agg, DTup_tuple, DCons_cons, DNil_nil, NN_some, BIf_true, BIf_false, BIf_same, List.toList_toArray, Bool.not_true, Bool.not_false]
    refine QCall.use (triangle_ok hn H1) ?_
    simp only [DI_int', DB_bool, DS_string, DP_pointer, DSl_slice, DM_map, DA_agg, DTup_tuple, DCons_cons, DNil_nil, NN_some, BIf_true, BIf_false, BIf_same, List.toList_toArray, Bool.not_true, Bool.not_false]
    have q1 := hpos (tri n)
    have q2 := hpos (a * n)
    have q3 := hpos (b * (tri n % 18446744069414584321))
    refine QCall.use (Mul_ok (a := b) (b := tri n % 18446744069414584321) (by omega) (by omega) H1) ?_
    simp only [DI_int', DB_bool, DS_string, DP_pointer, DSl_slice, DM_map, DA_agg, DTup_tuple, DCons_cons, DNil_nil, NN_some, BIf_true, BIf_false, BIf_same, List.toList_toArray, Bool.not_true, Bool.not_false]
    refine QCall.use (Add_ok (a := a * n % 18446744069414584321) (b := b * (tri n % 18446744069414584321) % 18446744069414584321) (by omega) (by omega) H1) ?_
    simp only [DI_int', DB_bool, DS_string, DP_pointer, DSl_slice, DM_map, DA_agg, DTup_tuple, DCons_cons, DNil_nil, NN_some, BIf_true, BIf_false, BIf_same, List.toList_toArray, Bool.not_true, Bool.not_false]
    rw [mod_mul_r, ← Nat.add_mod, ← sum_2 k2 a b c]
    exact hs.fin 0 rfl _
  refine BIf_beqn k2 ?_
  by_cases k3 : k = 3
  · refine BIf_beqp k3 ?_
    first | refine hs.ldf 1 rfl rfl ?_ | refine hs.ldg 1 rfl rfl ?_
    try simp only [DI_int', DB_bool, DS_string, DP_pointer, DSl_slice, DM_map, DA_agg, DTup_tuple, DCons_cons, DNil_nil, NN_some, BIf_true, BIf_false, BIf_same, List.toList_toArray, Bool.not_true, Bool.not_false]
    refine HCalls.use (ladder_ok (b := b) (n := n) (by omega) (by omega) H1) ?_
    simp only [DI_int', DB_bool, DS_string, DP_pointer, DSl_slice, DM_map, DA_agg, DTup_tuple, DCons_cons, DNil_nil, NN_some, BIf_true, BIf_false, BIf_same, List.toList_toArray, Bool.not_true, Bool.not_false]
    first | refine hs.ldf 1 rfl rfl ?_ | refine hs.ldg 1 rfl rfl ?_
    try simp only [DI_int', DB_bool, DS_string, DP_pointer, DSl_slice, DM_map, DA_agg, DTup_tuple, DCons_cons, DNil_nil, NN_some, BIf_true, BIf_false, BIf_same, List.toList_toArray, Bool.not_true, Bool.not_false]
    have q1 := hpos (geo b n)
    refine HCalls.use (Mul_ok (a := a) (b := geo b n % 18446744069414584321) (by omega) (by omega) H1) ?_
    simp only [DI_int', DB_bool, DS_string, DP_pointer, DSl_slice, DM_map, DA_agg, DTup_tuple, DCons_cons, DNil_nil, NN_some, BIf_true, BIf_false, BIf_same, List.toList_toArray, Bool.not_true, Bool.not_false]
    rw [mod_mul_r, ← sum_3 k3 a b c]
    exact hs.fin 0 rfl _
  refine BIf_beqn k3 ?_
  by_cases k4 : k = 4
  · refine BIf_beqp k4 ?_
    refine hs.ldw 1 rfl rfl ?_
    refine HCalls.use (chained_ok k (a := a) (b := b) (c := c) (n := n) ha hb hc hn H1) ?_
    simp only [DI_int', DB_bool, DS_string, DP_pointer, DSl_slice, DM_map, DA_agg, DTup_tuple, DCons_cons, DNil_nil, NN_some, BIf_true, BIf_false, BIf_same, List.toList_toArray, Bool.not_true, Bool.not_false]
    rw [← sum_4 k4 a b c]
    exact hs.fin 0 rfl _
  refine BIf_beqn k4 ?_
  have k5 : k = 5 := by omega
  obtain ⟨hb2, hc2⟩ := hp k5
  first | refine hs.ldf 1 rfl rfl ?_ | refine hs.ldg 1 rfl rfl ?_
  try simp only [DI_int', DB_bool, DS_string, DP_pointer, DSl_slice, DM_map, DA_agg, DTup_tuple, DCons_cons, DNil_nil, NN_some, BIf_true, BIf_false, BIf_same, List.toList_toArray, Bool.not_true, Bool.not_false]
  refine hs.ldw 1 rfl rfl ?_
  refine QCall.use (pulsed_ok k (a := a) (b := b) (c := c) (n := n) hb2 hc2 hn H1) ?_
  simp only [DI_int', DB_bool, DS_string, DP_pointer, DSl_slice, DM_map, DA_agg, DTup_tuple, DCons_cons, DNil_nil, NN_some, BIf_true, BIf_false, BIf_same, List.toList_toArray, Bool.not_true, Bool.not_false]
  have hcl := cnt_le b c n
  refine QCall.use (Mul_ok (a := a) (b := cnt b c n) (by omega) (by omega) H1) ?_
  simp only [DI_int', DB_bool, DS_string, DP_pointer, DSl_slice, DM_map, DA_agg, DTup_tuple, DCons_cons, DNil_nil, NN_some, BIf_true, BIf_false, BIf_same, List.toList_toArray, Bool.not_true, Bool.not_false]
  rw [sum_5 k5]
  exact hs.fin 0 rfl _)

theorem Sum_no (k : Int) (a b c : Nat) (n : Int) (H : Hp) (h : ¬ (goodR k a b c = true ∧ 0 ≤ n ∧ n ≤ 4294967296)) : HCalls Tryd.prog 35 #[.agg #[.int .i64 k, .int .u64 (a : Int), .int .u64 (b : Int), .int .u64 (c : Int)], .int .i64 n] H (RetE (.tuple #[.int .u64 0, .int .i64 (if goodR k a b c = true then 2 else 18)]) H) := HCalls.ret (by
  apply W_gen_Sum.ok
  unfold W_gen_Sum
  refine (Sep.start H).nw fun b1 H1 hs => ?_
  refine hs.ldw 1 rfl rfl ?_
  refine HCalls.use (Good_ok k a b c H1) ?_
  simp only [DI_int', DB_bool, DS_string, DP_pointer, DSl_slice, DM_map, DA_agg, DTup_tuple, DCons_cons, DNil_nil, NN_some, BIf_true, BIf_false, BIf_same, List.toList_toArray, Bool.not_true, Bool.not_false]
  cases hg : goodR k a b c with
  | false => exact BIf_pos rfl (hs.fin 0 rfl _)
  | true =>
    refine BIf_neg rfl ?_
    by_cases h0 : n < 0
    · exact BIf_dpos h0 (hs.fin 0 rfl _)
    refine BIf_dneg h0 ?_
    exact BIf_dpos (by
      have : ¬ n ≤ 4294967296 := fun h1 => h ⟨hg, by omega, h1⟩
      omega) (hs.fin 0 rfl _))

theorem sums_loop (H0 H : Hp) (A : Option Addr) {k : Int} {a b c n m : Nat} (ha : a < 18446744069414584321) (hn : n ≤ 60) (hc : Cells H A (natV (vals k a b c 0 n))) (hle : H0.le H) :
    ∀ (t i : Nat), i + t = n → W_abacistlaw38_GenSums.l14 (Ret (.bool true) H0) (t + 1) ((sumV k a b c n % 18446744069414584321 : Nat) : Int) A n m ((sumV k a b c i % 18446744069414584321 : Nat) : Int) (i : Int) H
  | 0, i, hi => by
    obtain rfl : i = n := by omega
    unfold W_abacistlaw38_GenSums.l14
    refine BIf_dneg (by omega) ?_
    rw [beq_self_eq_true]
    exact ⟨rfl, hle⟩
  | t + 1, i, hi => by
    unfold W_abacistlaw38_GenSums.l14
    refine BIf_dpos (by omega) ?_
    refine hc.read (i := i) (v := .int .u64 ((val k a b c i : Nat) : Int)) (by rw [natV_get, vals_get (by omega), Nat.zero_add]; rfl) rfl (by rw [natV_length, vals_len]; exact Nat.le_refl _) ?_
    simp only [DI_int', DB_bool, DS_string, DP_pointer, DSl_slice, DM_map, DA_agg, DTup_tuple, DCons_cons, DNil_nil, NN_some, BIf_true, BIf_false, BIf_same, List.toList_toArray, Bool.not_true, Bool.not_false]
    refine HCalls.use (rAdd_ok (a := sumV k a b c i % 18446744069414584321) (b := val k a b c i) H) ?_
    simp only [DI_int', DB_bool, DS_string, DP_pointer, DSl_slice, DM_map, DA_agg, DTup_tuple, DCons_cons, DNil_nil, NN_some, BIf_true, BIf_false, BIf_same, List.toList_toArray, Bool.not_true, Bool.not_false]
    rw [mod_add_l, i64w (x := (i : Int) + 1) (by omega) (by omega), show (i : Int) + 1 = ((i + 1 : Nat) : Int) by omega]
    exact sums_loop H0 H A ha hn hc hle t (i + 1) (by omega)

theorem GenSums_ok (k : Int) (a b c : Nat) (n : Int) (hn : -9223372036854775808 ≤ n ∧ n ≤ 9223372036854775807) (H : Hp) (hK : Kinds H) :
    HCalls Tryd.prog 9 #[.agg #[.int .i64 k, .int .u64 (a : Int), .int .u64 (b : Int), .int .u64 (c : Int)], .int .i64 n] H (Ret (.bool true) H) := by
  apply W_abacistlaw38_GenSums.ok
  unfold W_abacistlaw38_GenSums
  refine (Sep.start H).nw fun b1 H1 hs => ?_
  refine HCalls.use (awake_ok H1 (hK.le (hs.ow 0 rfl))) ?_
  simp only [DI_int', DB_bool, DS_string, DP_pointer, DSl_slice, DM_map, DA_agg, DTup_tuple, DCons_cons, DNil_nil, NN_some, BIf_true, BIf_false, BIf_same, List.toList_toArray, Bool.not_true, Bool.not_false]
  refine hs.ldw 1 rfl rfl ?_
  by_cases hok : goodR k a b c = true ∧ 0 ≤ n ∧ n ≤ 4294967296
  · obtain ⟨hg, h0, h1⟩ := hok
    obtain ⟨n, rfl⟩ := Int.eq_ofNat_of_zero_le h0
    have ha := (goodR_of hg).2.2.1
    refine HCalls.use (Sum_ok hg (n := n) (by omega) H1) ?_
    simp only [DI_int', DB_bool, DS_string, DP_pointer, DSl_slice, DM_map, DA_agg, DTup_tuple, DCons_cons, DNil_nil, NN_some, BIf_true, BIf_false, BIf_same, List.toList_toArray, Bool.not_true, Bool.not_false]
    refine hs.ldw 1 rfl rfl ?_
    refine HCalls.use (rGood_ok k a b c H1) ?_
    rw [hg]
    simp only [DI_int', DB_bool, DS_string, DP_pointer, DSl_slice, DM_map, DA_agg, DTup_tuple, DCons_cons, DNil_nil, NN_some, BIf_true, BIf_false, BIf_same, List.toList_toArray, Bool.not_true, Bool.not_false]
    refine BIf_dneg (by omega) (BIf_dneg (by omega) (BIf_bnen rfl ?_))
    by_cases h60 : (n : Int) ≤ 60
    · refine BIf_dpos h60 ?_
      refine hs.ldw 1 rfl rfl ?_
      refine (rRow_tr (k := k) (a := a) (b := b) (c := c) (n := n) hg (by omega)).use hs [] rfl rfl ?_
      rintro _ _ H1 ⟨A, m, hm, rfl, rfl⟩ hs
      simp only [DI_int', DB_bool, DS_string, DP_pointer, DSl_slice, DM_map, DA_agg, DTup_tuple, DCons_cons, DNil_nil, NN_some, BIf_true, BIf_false, BIf_same, List.toList_toArray, Bool.not_true, Bool.not_false]
      refine ⟨n + 1, ?_⟩
      exact sums_loop H H1 A ha (by omega) (own_cells (hs.own 0 rfl)) (hs.ow 1 rfl) n 0 (by omega)
    · refine BIf_dneg h60 ?_
      refine hs.ldw 1 rfl rfl ?_
      obtain ⟨m, rfl⟩ : ∃ m, n = m + 1 := ⟨n - 1, by omega⟩
      rw [i64w (x := ((m + 1 : Nat) : Int) - 1) (by omega) (by omega), show ((m + 1 : Nat) : Int) - 1 = (m : Int) by omega]
      refine HCalls.use (Sum_ok hg (n := m) (by omega) H1) ?_
      simp only [DI_int', DB_bool, DS_string, DP_pointer, DSl_slice, DM_map, DA_agg, DTup_tuple, DCons_cons, DNil_nil, NN_some, BIf_true, BIf_false, BIf_same, List.toList_toArray, Bool.not_true, Bool.not_false]
      refine hs.ldw 1 rfl rfl ?_
      refine HCalls.use (At_ok hg (i := m) (by omega) H1) ?_
      simp only [DI_int', DB_bool, DS_string, DP_pointer, DSl_slice, DM_map, DA_agg, DTup_tuple, DCons_cons, DNil_nil, NN_some, BIf_true, BIf_false, BIf_same, List.toList_toArray, Bool.not_true, Bool.not_false]
      refine BIf_beqp rfl (BIf_beqp rfl ?_)
      refine HCalls.use (rAdd_ok (a := sumV k a b c m % 18446744069414584321) (b := val k a b c m) H1) ?_
      simp only [DI_int', DB_bool, DS_string, DP_pointer, DSl_slice, DM_map, DA_agg, DTup_tuple, DCons_cons, DNil_nil, NN_some, BIf_true, BIf_false, BIf_same, List.toList_toArray, Bool.not_true, Bool.not_false]
      rw [mod_add_l]
      show Ret (.bool true) H (.bool ((((sumV k a b c m + val k a b c m) % 18446744069414584321 : Nat) : Int) == (((sumV k a b c m + val k a b c m) % 18446744069414584321 : Nat) : Int))) H1
      rw [beq_self_eq_true]
      exact hs.fin 0 rfl _
  · refine HCalls.use (Sum_no k a b c n H1 hok) ?_
    simp only [DI_int', DB_bool, DS_string, DP_pointer, DSl_slice, DM_map, DA_agg, DTup_tuple, DCons_cons, DNil_nil, NN_some, BIf_true, BIf_false, BIf_same, List.toList_toArray, Bool.not_true, Bool.not_false]
    refine hs.ldw 1 rfl rfl ?_
    refine HCalls.use (rGood_ok k a b c H1) ?_
    simp only [DI_int', DB_bool, DS_string, DP_pointer, DSl_slice, DM_map, DA_agg, DTup_tuple, DCons_cons, DNil_nil, NN_some, BIf_true, BIf_false, BIf_same, List.toList_toArray, Bool.not_true, Bool.not_false]
    cases hg : goodR k a b c with
    | false => exact BIf_pos rfl (BIf_beqp rfl (hs.fin 0 rfl _))
    | true =>
      refine BIf_neg rfl ?_
      by_cases h0 : n < 0
      · exact BIf_dpos h0 (BIf_beqp rfl (hs.fin 0 rfl _))
      · refine BIf_dneg h0 (BIf_dpos ?_ (BIf_beqp rfl (hs.fin 0 rfl _)))
        have : ¬ n ≤ 4294967296 := fun h1 => hok ⟨hg, by omega, h1⟩
        omega

end Go.Proofs.YtgkdkemhiglpdaaDoor.Gen

end
