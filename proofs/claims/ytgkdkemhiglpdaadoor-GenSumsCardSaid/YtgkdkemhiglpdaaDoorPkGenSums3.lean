import Derived.Test.YtgkdkemhiglpdaaDoorProg
import Derived.Shelf.Strings.OnBuilder
import Derived.Test.YtgkdkemhiglpdaaDoorPkGenSums2
section
/-! GenA -/
/- gen: rules: are they good; words by themselves. -/
set_option maxRecDepth 100000
set_option linter.unusedSimpArgs false
set_option linter.unusedVariables false
set_option linter.unnecessarySimpa false
set_option linter.unusedSectionVars false
namespace Go.Proofs.YtgkdkemhiglpdaaDoor.Gen
open Go Go.Hw Go.Proofs.YtgkdkemhiglpdaaDoor.W Go.Proofs.YtgkdkemhiglpdaaDoor.Gol

def natV (xs : List Nat) : List Value := List.map (fun (x : Nat) => Value.int .u64 (x : Int)) xs

theorem BIf_d {p : Prop} [Decidable p] {X Y : Prop} (h1 : p → X) (h2 : ¬ p → Y) : BIf (decide p) X Y := by
  by_cases h : p
  · exact BIf_dpos h (h1 h)
  · exact BIf_dneg h (h2 h)
theorem BIf_nd {p : Prop} [Decidable p] {X Y : Prop} (h1 : p → Y) (h2 : ¬ p → X) : BIf (!decide p) X Y := by
  by_cases h : p
  · rw [decide_eq_true h]; exact BIf_neg rfl (h1 h)
  · rw [decide_eq_false h]; exact BIf_pos rfl (h2 h)

theorem Index_loop (H : Hp) (A : Option Addr) (n m : Nat) (xs : List Nat) (hn : n = xs.length) (hl : n ≤ 1000000000) (hc : Cells H A (natV xs)) :
    ∀ (t j : Nat), j + t = n → (∀ k x, k < j → xs[k]? = some x → x < 18446744069414584321) →
      W_slices_IndexFunc_uint64_uint64.l2 (fun v H' => (∃ i : Int, v = .int .i64 i ∧ (i < 0 ↔ ∀ x ∈ xs, x < 18446744069414584321)) ∧ H' = H) (t + 1) A n m 90 #[] #[] (n : Int) (j : Int) H
  | 0, j, hj, hall => by
    unfold W_slices_IndexFunc_uint64_uint64.l2
    refine BIf_dneg (by omega) ⟨⟨-1, rfl, fun _ x hx => ?_, fun _ => by decide⟩, rfl⟩
    obtain ⟨k, hk, rfl⟩ := List.getElem_of_mem hx
    exact hall k _ (by omega) (List.getElem?_eq_getElem hk)
  | t + 1, j, hj, hall => by
    unfold W_slices_IndexFunc_uint64_uint64.l2
    refine BIf_dpos (by omega) ?_
    have hg : xs[j]? = some (xs[j]'(by omega)) := List.getElem?_eq_getElem (by omega)
    have hg2 : (natV xs)[j]? = some (.int .u64 ((xs[j]'(by omega) : Nat) : Int)) := by unfold natV; rw [List.getElem?_map, hg]; rfl
    refine hc.read hg2 rfl (by unfold natV; rw [List.length_map]; omega) ?_
    simp only [DI_int', DB_bool, DS_string, DP_pointer, DSl_slice, DM_map, DA_agg, DTup_tuple, DCons_cons, DNil_nil, NN_some, BIf_true, BIf_false, BIf_same, List.toList_toArray, Bool.not_true, Bool.not_false]
    refine BIf_pos (by kernel_rfl) ?_
    have hv : HCalls Tryd.prog 90 #[.int .u64 ((xs[j]'(by omega) : Nat) : Int)] H (RetE (.bool (!(decide (((xs[j]'(by omega) : Nat) : Int) < 18446744069414584321)))) H) := by
      apply W_codec_Check_1.ok
      unfold W_codec_Check_1
      have hg : HCalls Tryd.prog 91 #[.int .u64 ((xs[j]'(by omega) : Nat) : Int)] H (RetE (.bool (decide (((xs[j]'(by omega) : Nat) : Int) < 18446744069414584321))) H) := by
        apply W_gold_Good.ok
        unfold W_gold_Good
        exact RetE.mk _ _
      refine HCalls.use hg ?_
      simp only [DI_int', DB_bool, DS_string, DP_pointer, DSl_slice, DM_map, DA_agg, DTup_tuple, DCons_cons, DNil_nil, NN_some, BIf_true, BIf_false, BIf_same, List.toList_toArray, Bool.not_true, Bool.not_false]
      exact RetE.mk _ _
    refine HCalls.use hv ?_
    have hr : resTypes Tryd.prog 90 = [4] := by kernel_rfl
    rw [hr]
    have hdt : ∀ (b : Bool) (K : Value → Prop), K (.bool b) → DR Tryd.prog [4] (.bool b) K := fun b K k => by
      show DT Tryd.prog 4 (.bool b) K
      unfold DT
      rw [show Tryd.prog.underlying 4 = some .bool by kernel_rfl]
      exact k
    refine hdt _ _ ?_
    simp only [DI_int', DB_bool, DS_string, DP_pointer, DSl_slice, DM_map, DA_agg, DTup_tuple, DCons_cons, DNil_nil, NN_some, BIf_true, BIf_false, BIf_same, List.toList_toArray, Bool.not_true, Bool.not_false]
    generalize hz : ((xs[j]'(by omega) : Nat) : Int) = z at *
    refine BIf_nd (fun hx => ?_) (fun hx => ?_)
    · rw [i64w (x := (j : Int) + 1) (by omega) (by omega)]
      refine Index_loop H A n m xs hn hl hc t (j + 1) (by omega) fun k x hk hkx => ?_
      by_cases e : k = j
      · subst e; rw [hg] at hkx
        have := Option.some.inj hkx
        omega
      · exact hall k x (by omega) hkx
    · refine ⟨⟨j, rfl, fun h => by omega, fun h => ?_⟩, by trivial⟩
      have := h _ (List.getElem_mem (show j < xs.length by omega))
      omega

theorem Check_ok (A : Option Addr) (n m : Nat) (xs : List Nat) (hn : n = xs.length) (hl : n ≤ 1000000000) (H : Hp) (hc : Cells H A (natV xs)) :
    HCalls Tryd.prog 61 #[.slice A n m] H fun v H' => (∃ i : Int, v = .tuple #[.int .i64 i, .bool (decide (∀ x ∈ xs, x < 18446744069414584321))]) ∧ H' = H := by
  apply W_codec_Check.ok
  unfold W_codec_Check
  have hI : HCalls Tryd.prog 89 #[.slice A n m, .func (.func 90) #[] #[]] H (fun v H' => (∃ i : Int, v = .int .i64 i ∧ (i < 0 ↔ ∀ x ∈ xs, x < 18446744069414584321)) ∧ H' = H) := by
    apply W_slices_IndexFunc_uint64_uint64.ok
    unfold W_slices_IndexFunc_uint64_uint64
    exact ⟨n + 1, Index_loop H A n m xs hn hl hc n 0 (by omega) fun k x hk => absurd hk (by omega)⟩
  refine HCalls.mono hI ?_
  rintro _ _ ⟨⟨i, rfl, hi⟩, rfl⟩
  simp only [DI_int', DB_bool, DS_string, DP_pointer, DSl_slice, DM_map, DA_agg, DTup_tuple, DCons_cons, DNil_nil, NN_some, BIf_true, BIf_false, BIf_same, List.toList_toArray, Bool.not_true, Bool.not_false]
  refine ⟨⟨if 0 > i then 0 else i, ?_⟩, by trivial⟩
  have : decide (i < 0) = decide (∀ x ∈ xs, x < 18446744069414584321) := decide_eq_decide.2 hi
  rw [this]

/-- Is a rule good? -/
def goodR (k : Int) (a b c : Nat) : Bool := decide (1 ≤ k ∧ k ≤ 5 ∧ a < 18446744069414584321 ∧ b < 18446744069414584321 ∧ c < 18446744069414584321 ∧ (k = 5 → b < 4294967296 ∧ c < 4294967296))

theorem goodR_no {k : Int} {a b c : Nat} (h : ¬ (1 ≤ k ∧ k ≤ 5 ∧ a < 18446744069414584321 ∧ b < 18446744069414584321 ∧ c < 18446744069414584321 ∧ (k = 5 → b < 4294967296 ∧ c < 4294967296))) : goodR k a b c = false := by unfold goodR; exact decide_eq_false h
theorem goodR_yes {k : Int} {a b c : Nat} (h : 1 ≤ k ∧ k ≤ 5 ∧ a < 18446744069414584321 ∧ b < 18446744069414584321 ∧ c < 18446744069414584321 ∧ (k = 5 → b < 4294967296 ∧ c < 4294967296)) : goodR k a b c = true := by unfold goodR; exact decide_eq_true h
theorem goodR_of {k : Int} {a b c : Nat} (h : goodR k a b c = true) : 1 ≤ k ∧ k ≤ 5 ∧ a < 18446744069414584321 ∧ b < 18446744069414584321 ∧ c < 18446744069414584321 ∧ (k = 5 → b < 4294967296 ∧ c < 4294967296) := by unfold goodR at h; exact of_decide_eq_true h

theorem good5 {k : Int} {a b c : Nat} (hk : k = 5) (ha : a < 18446744069414584321) (hb : (b : Int) < 4294967296) : goodR k a b c = decide ((c : Int) < 4294967296) := by
  unfold goodR
  exact decide_eq_decide.2 ⟨fun h => by have := (h.2.2.2.2.2 hk).2; omega, fun h => ⟨by omega, by omega, ha, by omega, by omega, fun _ => ⟨by omega, by omega⟩⟩⟩

theorem Good_ok (k : Int) (a b c : Nat) (H : Hp) : HCalls Tryd.prog 29 #[.agg #[.int .i64 k, .int .u64 (a : Int), .int .u64 (b : Int), .int .u64 (c : Int)]] H (RetE (.bool (goodR k a b c)) H) := HCalls.ret (by
  apply W_gen_Good.ok
  unfold W_gen_Good
  refine (Sep.start H).nw fun b1 H1 hs => ?_
  first | refine hs.ldf 1 rfl rfl ?_ | refine hs.ldg 1 rfl rfl ?_
  try simp only [DI_int', DB_bool, DS_string, DP_pointer, DSl_slice, DM_map, DA_agg, DTup_tuple, DCons_cons, DNil_nil, NN_some, BIf_true, BIf_false, BIf_same, List.toList_toArray, Bool.not_true, Bool.not_false]
  by_cases h1 : k < 1
  · refine BIf_dpos h1 ?_
    rw [show goodR k a b c = false from goodR_no (fun h => by omega)]
    exact hs.fin 0 rfl _
  refine BIf_dneg h1 ?_
  first | refine hs.ldf 1 rfl rfl ?_ | refine hs.ldg 1 rfl rfl ?_
  try simp only [DI_int', DB_bool, DS_string, DP_pointer, DSl_slice, DM_map, DA_agg, DTup_tuple, DCons_cons, DNil_nil, NN_some, BIf_true, BIf_false, BIf_same, List.toList_toArray, Bool.not_true, Bool.not_false]
  by_cases h5 : k > 5
  · refine BIf_dpos h5 ?_
    rw [show goodR k a b c = false from goodR_no (fun h => by omega)]
    exact hs.fin 0 rfl _
  refine BIf_dneg h5 ?_
  first | refine hs.ldf 1 rfl rfl ?_ | refine hs.ldg 1 rfl rfl ?_
  try simp only [DI_int', DB_bool, DS_string, DP_pointer, DSl_slice, DM_map, DA_agg, DTup_tuple, DCons_cons, DNil_nil, NN_some, BIf_true, BIf_false, BIf_same, List.toList_toArray, Bool.not_true, Bool.not_false]
  first | refine hs.ldf 1 rfl rfl ?_ | refine hs.ldg 1 rfl rfl ?_
  try simp only [DI_int', DB_bool, DS_string, DP_pointer, DSl_slice, DM_map, DA_agg, DTup_tuple, DCons_cons, DNil_nil, NN_some, BIf_true, BIf_false, BIf_same, List.toList_toArray, Bool.not_true, Bool.not_false]
  first | refine hs.ldf 1 rfl rfl ?_ | refine hs.ldg 1 rfl rfl ?_
  try simp only [DI_int', DB_bool, DS_string, DP_pointer, DSl_slice, DM_map, DA_agg, DTup_tuple, DCons_cons, DNil_nil, NN_some, BIf_true, BIf_false, BIf_same, List.toList_toArray, Bool.not_true, Bool.not_false]
  refine hs.nw fun b2 H1 hs => ?_
  have hc : Cells H1 (some ⟨b2, 0, none⟩) (natV [a, b, c]) := by
    have := Cells.row (hs.get 2 rfl) 0 3
    exact this
  refine HCalls.mono (Check_ok (some ⟨b2, 0, none⟩) 3 3 [a, b, c] rfl (by omega) H1 hc) ?_
  rintro _ _ ⟨⟨i, rfl⟩, rfl⟩
  simp only [DI_int', DB_bool, DS_string, DP_pointer, DSl_slice, DM_map, DA_agg, DTup_tuple, DCons_cons, DNil_nil, NN_some, BIf_true, BIf_false, BIf_same, List.toList_toArray, Bool.not_true, Bool.not_false]
  by_cases hall : ∀ x ∈ [a, b, c], x < 18446744069414584321
  · rw [decide_eq_true hall]
    have ha := hall a (by simp)
    have hb := hall b (by simp)
    have hcc := hall c (by simp)
    refine BIf_pos rfl ?_
    first | refine hs.ldf 1 rfl rfl ?_ | refine hs.ldg 1 rfl rfl ?_
    try simp only [DI_int', DB_bool, DS_string, DP_pointer, DSl_slice, DM_map, DA_agg, DTup_tuple, DCons_cons, DNil_nil, NN_some, BIf_true, BIf_false, BIf_same, List.toList_toArray, Bool.not_true, Bool.not_false]
    by_cases hk : k = 5
    · refine BIf_bnen hk ?_
      first | refine hs.ldf 1 rfl rfl ?_ | refine hs.ldg 1 rfl rfl ?_
      try simp only [DI_int', DB_bool, DS_string, DP_pointer, DSl_slice, DM_map, DA_agg, DTup_tuple, DCons_cons, DNil_nil, NN_some, BIf_true, BIf_false, BIf_same, List.toList_toArray, Bool.not_true, Bool.not_false]
      generalize hz : (b : Int) = z at *
      refine BIf_d (fun hb2 => ?_) (fun hb2 => ?_)
      · first | refine hs.ldf 1 rfl rfl ?_ | refine hs.ldg 1 rfl rfl ?_
        try simp only [DI_int', DB_bool, DS_string, DP_pointer, DSl_slice, DM_map, DA_agg, DTup_tuple, DCons_cons, DNil_nil, NN_some, BIf_true, BIf_false, BIf_same, List.toList_toArray, Bool.not_true, Bool.not_false]
        rw [good5 hk ha (by rw [hz]; exact hb2)]
        exact hs.fin 0 rfl _
      · rw [show goodR k a b c = false from goodR_no (fun h => by have := (h.2.2.2.2.2 hk).1; omega)]
        exact hs.fin 0 rfl _
    · refine BIf_bnep hk ?_
      rw [show goodR k a b c = true from goodR_yes ⟨by omega, by omega, ha, hb, hcc, fun h => absurd h hk⟩]
      exact hs.fin 0 rfl _
  · rw [decide_eq_false hall]
    refine BIf_neg rfl ?_
    rw [show goodR k a b c = false from goodR_no (fun h => hall (fun x hx => by
      simp only [List.mem_cons, List.not_mem_nil, or_false] at hx
      rcases hx with rfl | rfl | rfl
      · exact h.2.2.1
      · exact h.2.2.2.1
      · exact h.2.2.2.2.1))]
    exact hs.fin 0 rfl _)

theorem rGood_ok (k : Int) (a b c : Nat) (H : Hp) : HCalls Tryd.prog 30 #[.agg #[.int .i64 k, .int .u64 (a : Int), .int .u64 (b : Int), .int .u64 (c : Int)]] H (RetE (.bool (goodR k a b c)) H) := HCalls.ret (by
  apply W_abacistref38_Good.ok
  unfold W_abacistref38_Good
  refine (Sep.start H).nw fun b1 H1 hs => ?_
  have no : ∀ {H1}, Sep [own H, pts b1 (.obj (.cells #[.int .i64 k, .int .u64 (a : Int), .int .u64 (b : Int), .int .u64 (c : Int)] 75))] H1 → goodR k a b c = false → Ret (.bool (goodR k a b c)) H (.bool false) H1 := fun hs h => by rw [h]; exact hs.fin 0 rfl _
  first | refine hs.ldf 1 rfl rfl ?_ | refine hs.ldg 1 rfl rfl ?_
  try simp only [DI_int', DB_bool, DS_string, DP_pointer, DSl_slice, DM_map, DA_agg, DTup_tuple, DCons_cons, DNil_nil, NN_some, BIf_true, BIf_false, BIf_same, List.toList_toArray, Bool.not_true, Bool.not_false]
  by_cases ha : (a : Int) ≥ 18446744069414584321
  · exact BIf_dpos ha (no hs (goodR_no (fun h => by omega)))
  refine BIf_dneg ha ?_
  first | refine hs.ldf 1 rfl rfl ?_ | refine hs.ldg 1 rfl rfl ?_
  try simp only [DI_int', DB_bool, DS_string, DP_pointer, DSl_slice, DM_map, DA_agg, DTup_tuple, DCons_cons, DNil_nil, NN_some, BIf_true, BIf_false, BIf_same, List.toList_toArray, Bool.not_true, Bool.not_false]
  by_cases hb : (b : Int) ≥ 18446744069414584321
  · exact BIf_dpos hb (no hs (goodR_no (fun h => by omega)))
  refine BIf_dneg hb ?_
  first | refine hs.ldf 1 rfl rfl ?_ | refine hs.ldg 1 rfl rfl ?_
  try simp only [DI_int', DB_bool, DS_string, DP_pointer, DSl_slice, DM_map, DA_agg, DTup_tuple, DCons_cons, DNil_nil, NN_some, BIf_true, BIf_false, BIf_same, List.toList_toArray, Bool.not_true, Bool.not_false]
  by_cases hc : (c : Int) ≥ 18446744069414584321
  · exact BIf_dpos hc (no hs (goodR_no (fun h => by omega)))
  refine BIf_dneg hc ?_
  first | refine hs.ldf 1 rfl rfl ?_ | refine hs.ldg 1 rfl rfl ?_
  try simp only [DI_int', DB_bool, DS_string, DP_pointer, DSl_slice, DM_map, DA_agg, DTup_tuple, DCons_cons, DNil_nil, NN_some, BIf_true, BIf_false, BIf_same, List.toList_toArray, Bool.not_true, Bool.not_false]
  by_cases hk : k = 5
  · refine BIf_beqp hk ?_
    first | refine hs.ldf 1 rfl rfl ?_ | refine hs.ldg 1 rfl rfl ?_
    try simp only [DI_int', DB_bool, DS_string, DP_pointer, DSl_slice, DM_map, DA_agg, DTup_tuple, DCons_cons, DNil_nil, NN_some, BIf_true, BIf_false, BIf_same, List.toList_toArray, Bool.not_true, Bool.not_false]
    generalize hz : (b : Int) = z at *
    refine BIf_d (fun hb2 => ?_) (fun hb2 => ?_)
    · first | refine hs.ldf 1 rfl rfl ?_ | refine hs.ldg 1 rfl rfl ?_
      try simp only [DI_int', DB_bool, DS_string, DP_pointer, DSl_slice, DM_map, DA_agg, DTup_tuple, DCons_cons, DNil_nil, NN_some, BIf_true, BIf_false, BIf_same, List.toList_toArray, Bool.not_true, Bool.not_false]
      rw [good5 hk (by omega) (by rw [hz]; exact hb2)]
      exact hs.fin 0 rfl _
    · exact (no hs (goodR_no (fun h => by have := (h.2.2.2.2.2 hk).1; omega)))
  · refine BIf_beqn hk ?_
    first | refine hs.ldf 1 rfl rfl ?_ | refine hs.ldg 1 rfl rfl ?_
    try simp only [DI_int', DB_bool, DS_string, DP_pointer, DSl_slice, DM_map, DA_agg, DTup_tuple, DCons_cons, DNil_nil, NN_some, BIf_true, BIf_false, BIf_same, List.toList_toArray, Bool.not_true, Bool.not_false]
    by_cases h1 : k ≥ 1
    · refine BIf_dpos h1 ?_
      first | refine hs.ldf 1 rfl rfl ?_ | refine hs.ldg 1 rfl rfl ?_
      try simp only [DI_int', DB_bool, DS_string, DP_pointer, DSl_slice, DM_map, DA_agg, DTup_tuple, DCons_cons, DNil_nil, NN_some, BIf_true, BIf_false, BIf_same, List.toList_toArray, Bool.not_true, Bool.not_false]
      by_cases h4 : k ≤ 4
      · rw [goodR_yes ⟨by omega, by omega, by omega, by omega, by omega, fun h => absurd h hk⟩, decide_eq_true h4]
        exact hs.fin 0 rfl _
      · rw [goodR_no (fun h => by have := h.2.1; omega), decide_eq_false h4]
        exact hs.fin 0 rfl _
    · exact BIf_dneg h1 (no hs (goodR_no (fun h => by omega))))

end Go.Proofs.YtgkdkemhiglpdaaDoor.Gen

end
section
/-! Wlayout -/
/- Formulas of functions, printed by wip/tools/hwp.py. -/
set_option maxRecDepth 100000
set_option linter.unusedVariables false
namespace Go.Proofs.YtgkdkemhiglpdaaDoor.W
open Go Go.Hw

theorem mixWlayout : Tryd.prog.follows .mixedOrders = true := by kernel_rfl
-- layout.Need
def W_layout_Need (x1 : Int) (x2 : Int) (H : Hp) (K : Value → Hp → Prop) : Prop :=
  HCalls Tryd.prog 116 #[.int .i64 x2] H fun v1 H1 => DI .i64 v1 fun x3 => HCalls Tryd.prog 115 #[.int .i64 x1, .int .i64 x3] H1 fun v2 H2 => DB v2 fun c1 => BIf (!c1) (K (.tuple #[.int .i64 (0 : Int), .int .i64 (1 : Int)]) H2) (HCalls Tryd.prog 116 #[.int .i64 x2] H2 fun v3 H3 => DI .i64 v3 fun x4 => HCalls Tryd.prog 117 #[.int .i64 x1, .int .i64 x4] H3 fun v4 H4 => DI .i64 v4 fun x5 => K (.tuple #[.int .i64 x5, .int .i64 (0 : Int)]) H4)
def W_layout_Need.Λ (_ : Value → Hp → Prop) : Cuts := Cuts.none (fun _ => none)
theorem W_layout_Need.ok (x1 : Int) (x2 : Int) (H : Hp) (K : Value → Hp → Prop) (h : W_layout_Need x1 x2 H K) : HCalls Tryd.prog 98 #[.int .i64 x1, .int .i64 x2] H K :=
  hcalls Tryd.func98 rfl (Nat.le_of_ble_eq_true rfl) (hw_safe (Λ := Cuts.none (fun _ => none)) mixWlayout _ _ _ _ _ (Eq.mp (by kernel_rfl) h) (obs_none _ _ _ _ _))

-- layout.Sector
def W_layout_Sector (x1 : Int) (x2 : Int) (x3 : Int) (x4 : Int) (x5 : Int) (H : Hp) (K : Value → Hp → Prop) : Prop :=
  Nw H (.obj (.cells #[.int .i64 x1, .int .i64 x2, .int .i64 x3] 98)) fun b1 H1 => BIf (decide (x4 < (1 : Int))) (K (.tuple #[.int .i64 (0 : Int), .int .i64 (0 : Int), .int .i64 (2 : Int)]) H1) (BIf (decide (x5 < (0 : Int))) (K (.tuple #[.int .i64 (0 : Int), .int .i64 (0 : Int), .int .i64 (2 : Int)]) H1) (Ld H1 ((⟨b1, 0, none⟩ : Addr).add 2) fun v1 => DI .i64 v1 fun x6 => BIf (decide (x5 ≥ x6)) (K (.tuple #[.int .i64 (0 : Int), .int .i64 (0 : Int), .int .i64 (2 : Int)]) H1) ((x4 ≠ 0 ∧ IntKind.i64 = IntKind.i64 ∧ Ld H1 ((⟨b1, 0, none⟩ : Addr).add 1) fun v2 => DI .i64 v2 fun x7 => BIf (decide ((IntKind.i64.wrap (Int.tdiv x5 x4)) ≥ x7)) (K (.tuple #[.int .i64 (0 : Int), .int .i64 (0 : Int), .int .i64 (2 : Int)]) H1) (Ld H1 ((⟨b1, 0, none⟩ : Addr).add 0) fun v3 => DI .i64 v3 fun x8 => (x4 ≠ 0 ∧ IntKind.i64 = IntKind.i64 ∧ (x4 ≠ 0 ∧ IntKind.i64 = IntKind.i64 ∧ K (.tuple #[.int .i64 (IntKind.i64.wrap (x8 + (IntKind.i64.wrap (Int.tdiv x5 x4)))), .int .i64 (Int.tmod x5 x4), .int .i64 (0 : Int)]) H1)))))))
def W_layout_Sector.Λ (_ : Value → Hp → Prop) : Cuts := Cuts.none (fun _ => none)
theorem W_layout_Sector.ok (x1 : Int) (x2 : Int) (x3 : Int) (x4 : Int) (x5 : Int) (H : Hp) (K : Value → Hp → Prop) (h : W_layout_Sector x1 x2 x3 x4 x5 H K) : HCalls Tryd.prog 105 #[.agg #[.int .i64 x1, .int .i64 x2, .int .i64 x3], .int .i64 x4, .int .i64 x5] H K :=
  hcalls Tryd.func105 rfl (Nat.le_of_ble_eq_true rfl) (hw_safe (Λ := Cuts.none (fun _ => none)) mixWlayout _ _ _ _ _ (Eq.mp (by kernel_rfl) h) (obs_none _ _ _ _ _))

-- layout.good
def W_layout_good (x1 : Int) (x2 : Int) (H : Hp) (K : Value → Hp → Prop) : Prop :=
  BIf (decide (x1 ≥ (0 : Int))) (BIf (decide (x1 ≤ (32 : Int))) (K (.bool (decide (x2 > (0 : Int)))) H) (K (.bool false) H)) (K (.bool false) H)
def W_layout_good.Λ (_ : Value → Hp → Prop) : Cuts := Cuts.none (fun _ => none)
theorem W_layout_good.ok (x1 : Int) (x2 : Int) (H : Hp) (K : Value → Hp → Prop) (h : W_layout_good x1 x2 H K) : HCalls Tryd.prog 115 #[.int .i64 x1, .int .i64 x2] H K :=
  hcalls Tryd.func115 rfl (Nat.le_of_ble_eq_true rfl) (hw_safe (Λ := Cuts.none (fun _ => none)) mixWlayout _ _ _ _ _ (Eq.mp (by kernel_rfl) h) (obs_none _ _ _ _ _))

-- layout.per
def W_layout_per (x1 : Int) (H : Hp) (K : Value → Hp → Prop) : Prop :=
  BIf (decide (x1 < (32 : Int))) (K (.int .i64 (0 : Int)) H) (BIf (decide (x1 > (4096 : Int))) (K (.int .i64 (0 : Int)) H) (BIf ((bAnd .i64 x1 (IntKind.i64.wrap (x1 - (1 : Int)))) != (0 : Int)) (K (.int .i64 (0 : Int)) H) (((8 : Int) ≠ 0 ∧ IntKind.i64 = IntKind.i64 ∧ K (.int .i64 (IntKind.i64.wrap (Int.tdiv x1 (8 : Int)))) H))))
def W_layout_per.Λ (_ : Value → Hp → Prop) : Cuts := Cuts.none (fun _ => none)
theorem W_layout_per.ok (x1 : Int) (H : Hp) (K : Value → Hp → Prop) (h : W_layout_per x1 H K) : HCalls Tryd.prog 116 #[.int .i64 x1] H K :=
  hcalls Tryd.func116 rfl (Nat.le_of_ble_eq_true rfl) (hw_safe (Λ := Cuts.none (fun _ => none)) mixWlayout _ _ _ _ _ (Eq.mp (by kernel_rfl) h) (obs_none _ _ _ _ _))

-- layout.need
def W_layout_need (x1 : Int) (x2 : Int) (H : Hp) (K : Value → Hp → Prop) : Prop :=
  HCalls Tryd.prog 132 #[.int .i64 x1, .int .i64 x2] H fun v1 H1 => DI .i64 v1 fun x3 => K (.int .i64 (IntKind.i64.wrap ((9 : Int) + (IntKind.i64.wrap ((4 : Int) * x3))))) H1
def W_layout_need.Λ (_ : Value → Hp → Prop) : Cuts := Cuts.none (fun _ => none)
theorem W_layout_need.ok (x1 : Int) (x2 : Int) (H : Hp) (K : Value → Hp → Prop) (h : W_layout_need x1 x2 H K) : HCalls Tryd.prog 117 #[.int .i64 x1, .int .i64 x2] H K :=
  hcalls Tryd.func117 rfl (Nat.le_of_ble_eq_true rfl) (hw_safe (Λ := Cuts.none (fun _ => none)) mixWlayout _ _ _ _ _ (Eq.mp (by kernel_rfl) h) (obs_none _ _ _ _ _))

-- layout.room
def W_layout_room (x1 : Int) (x2 : Int) (H : Hp) (K : Value → Hp → Prop) : Prop :=
  (0 ≤ (IntKind.u64.wrap x1) ∧ (x2 ≠ 0 ∧ IntKind.i64 = IntKind.i64 ∧ K (.int .i64 (IntKind.i64.wrap ((IntKind.i64.wrap (Int.tdiv (IntKind.i64.wrap ((shlI .i64 (1 : Int) (IntKind.u64.wrap x1)) - (1 : Int))) x2)) + (1 : Int)))) H))
def W_layout_room.Λ (_ : Value → Hp → Prop) : Cuts := Cuts.none (fun _ => none)
theorem W_layout_room.ok (x1 : Int) (x2 : Int) (H : Hp) (K : Value → Hp → Prop) (h : W_layout_room x1 x2 H K) : HCalls Tryd.prog 132 #[.int .i64 x1, .int .i64 x2] H K :=
  hcalls Tryd.func132 rfl (Nat.le_of_ble_eq_true rfl) (hw_safe (Λ := Cuts.none (fun _ => none)) mixWlayout _ _ _ _ _ (Eq.mp (by kernel_rfl) h) (obs_none _ _ _ _ _))

end Go.Proofs.YtgkdkemhiglpdaaDoor.W

end
section
/-! LayA -/
/- layout, and its law's helpers: what they answer. -/
set_option maxRecDepth 100000
set_option linter.unusedSimpArgs false
set_option linter.unnecessarySimpa false
set_option linter.unusedSectionVars false

set_option linter.unusedVariables false
namespace Go.Proofs.YtgkdkemhiglpdaaDoor.Lay
open Go Go.Hw Go.Proofs.YtgkdkemhiglpdaaDoor.W

def perN (s : Int) : Nat := if s = 32 then 4 else if s = 64 then 8 else if s = 128 then 16 else if s = 256 then 32 else if s = 512 then 64 else if s = 1024 then 128 else if s = 2048 then 256 else if s = 4096 then 512 else 0

theorem bAnd_nat {x y : Nat} (hx : x < 2 ^ 63) (hy : y < 2 ^ 63) : bAnd .i64 (x : Int) (y : Int) = ((x &&& y : Nat) : Int) := by
  have hle : x &&& y ≤ x := Nat.and_le_left
  have h1 : (BitVec.ofInt 64 (x : Int) &&& BitVec.ofInt 64 (y : Int)).toNat = x &&& y := by
    simp only [BitVec.toNat_and, BitVec.ofInt_natCast, BitVec.toNat_ofNat]
    rw [Nat.mod_eq_of_lt (by omega), Nat.mod_eq_of_lt (by omega)]
  unfold bAnd
  rw [show IntKind.i64.bits = 64 from rfl, h1]
  exact i64w (by omega) (by omega)

theorem pow_table : (List.range 4097).all (fun n => if 32 ≤ n then (if n &&& (n - 1) == 0 then perN n != 0 && n / 8 == perN n else perN n == 0) else true) = true := by kernel_rfl

theorem perN_small {s : Int} (h : s < 32) : perN s = 0 := by
  unfold perN
  repeat (rw [if_neg (by omega)])
theorem perN_great {s : Int} (h : 4096 < s) : perN s = 0 := by
  unfold perN
  repeat (rw [if_neg (by omega)])

theorem per_ok (s : Int) (H : Hp) : HCalls Tryd.prog 116 #[.int .i64 s] H (RetE (.int .i64 (perN s)) H) := by
  apply W_layout_per.ok
  unfold W_layout_per
  rw [BIf_decide, BIf_decide, BIf_if]
  by_cases h1 : s < 32
  · rw [if_pos h1, perN_small h1]; exact RetE.mk _ _
  rw [if_neg h1]
  by_cases h2 : s > 4096
  · rw [if_pos h2, perN_great h2]; exact RetE.mk _ _
  rw [if_neg h2]
  obtain ⟨n, rfl⟩ := Int.eq_ofNat_of_zero_le (show 0 ≤ s by omega)
  have ht := List.all_eq_true.1 pow_table n (by simp; omega)
  rw [if_pos (by omega)] at ht
  rw [show ((n : Int) - 1) = ((n - 1 : Nat) : Int) by omega, i64w (by omega) (by omega), bAnd_nat (by omega) (by omega)]
  split at ht
  · rename_i h3
    simp only [Bool.and_eq_true, bne_iff_ne, beq_iff_eq] at ht h3
    rw [h3, if_neg (by simp)]
    refine ⟨by omega, rfl, RetE.of ?_⟩
    rw [show Int.tdiv (n : Int) 8 = ((n / 8 : Nat) : Int) from rfl, ht.2, i64w (by omega) (by have := ht.2; omega)]
  · rename_i h3
    simp only [beq_iff_eq] at ht h3
    rw [if_pos (by simp; omega), ht]
    exact RetE.mk _ _

/-- How many sectors 2^k words need. -/
def roomN (k p : Nat) : Nat := (2 ^ k - 1) / p + 1

theorem roomN_le {k p : Nat} (hk : k ≤ 33) : roomN k p ≤ 8589934592 := by
  unfold roomN
  have h1 : 2 ^ k ≤ 2 ^ 33 := Nat.pow_le_pow_right (by omega) hk
  have h2 : (2 ^ k - 1) / p ≤ 2 ^ k - 1 := Nat.div_le_self _ _
  have h3 : 1 ≤ 2 ^ k := Nat.one_le_two_pow
  omega

theorem pow_i64 {k : Nat} (h : k ≤ 62) : (2 : Nat) ^ k ≤ 4611686018427387904 := Nat.pow_le_pow_right (n := 2) (by omega) h

theorem shl_one {k : Nat} (h : k ≤ 62) : shlI .i64 1 (k : Int) = ((2 ^ k : Nat) : Int) := by
  unfold shlI
  rw [Int.toNat_natCast, show IntKind.i64.bits = 64 from rfl, Nat.min_eq_left (by omega), Int.one_mul]
  have := pow_i64 h
  rw [show ((2 : Int) ^ k) = ((2 ^ k : Nat) : Int) by simp]
  exact i64n (by omega)

theorem room_ok {k p : Nat} (hk : k ≤ 62) (hp : 0 < p) (hp2 : p < 2 ^ 62) (H : Hp) : HCalls Tryd.prog 132 #[.int .i64 k, .int .i64 p] H (RetE (.int .i64 (roomN k p)) H) := by
  apply W_layout_room.ok
  unfold W_layout_room
  have h1 := pow_i64 hk
  have h2 : 1 ≤ 2 ^ k := Nat.one_le_two_pow
  have h3 : (2 ^ k - 1) / p ≤ 2 ^ k - 1 := Nat.div_le_self _ _
  rw [u64w (by omega) (by omega), shl_one hk, i64w (x := ((2 ^ k : Nat) : Int) - 1) (by omega) (by omega)]
  rw [show (((2 ^ k : Nat) : Int) - 1) = ((2 ^ k - 1 : Nat) : Int) by omega, show Int.tdiv ((2 ^ k - 1 : Nat) : Int) (p : Int) = (((2 ^ k - 1) / p : Nat) : Int) from rfl]
  refine ⟨by omega, by omega, rfl, RetE.of ?_⟩
  rw [i64n (by omega), show ((((2 ^ k - 1) / p : Nat) : Int) + 1) = (((2 ^ k - 1) / p + 1 : Nat) : Int) by rfl, i64n (by omega)]
  rfl

theorem good_ok (k : Int) (p : Int) (H : Hp) : HCalls Tryd.prog 115 #[.int .i64 k, .int .i64 p] H (RetE (.bool (decide (0 ≤ k ∧ k ≤ 32 ∧ 0 < p))) H) := by
  apply W_layout_good.ok
  unfold W_layout_good
  rw [BIf_decide, BIf_decide]
  by_cases h1 : k ≥ 0
  · rw [if_pos h1]
    by_cases h2 : k ≤ 32
    · rw [if_pos h2]; refine RetE.of ?_; congr 2; simp; omega
    · rw [if_neg h2]; refine RetE.of ?_; congr 1; simp; omega
  · rw [if_neg h1]; refine RetE.of ?_; congr 1; simp; omega

/-- How many sectors a layout has. -/
def needN (k p : Nat) : Nat := 9 + 4 * roomN k p

theorem need_ok {k p : Nat} (hk : k ≤ 32) (hp : 0 < p) (hp2 : p < 2 ^ 62) (H : Hp) : HCalls Tryd.prog 117 #[.int .i64 k, .int .i64 p] H (RetE (.int .i64 (needN k p)) H) := by
  apply W_layout_need.ok
  unfold W_layout_need
  refine HCalls.use (room_ok (by omega) hp hp2 H) ?_
  try simp only [DI_int', DB_bool, DS_string, DP_pointer, DSl_slice, DM_map, DA_agg, DTup_tuple, DCons_cons, DNil_nil, NN_some, BIf_true, BIf_false, BIf_same, List.toList_toArray, Bool.not_true, Bool.not_false]
  have := roomN_le (k := k) (p := p) (by omega)
  refine RetE.of ?_
  rw [i64w (x := 4 * (roomN k p : Int)) (by omega) (by omega), i64w (by omega) (by omega)]
  unfold needN; simp

theorem perN_le (s : Int) : perN s ≤ 512 := by
  unfold perN
  repeat' split
  all_goals omega

/-- Need's answer. -/
def NeedV (k s : Int) : Int × Int := if 0 ≤ k ∧ k ≤ 32 ∧ 0 < perN s then (needN k.toNat (perN s), 0) else (0, 1)

theorem Need_ok (k s : Int) (H : Hp) : HCalls Tryd.prog 98 #[.int .i64 k, .int .i64 s] H (RetE (.tuple #[.int .i64 (NeedV k s).1, .int .i64 (NeedV k s).2]) H) := by
  apply W_layout_Need.ok
  unfold W_layout_Need
  refine HCalls.use (per_ok s H) ?_
  try simp only [DI_int', DB_bool, DS_string, DP_pointer, DSl_slice, DM_map, DA_agg, DTup_tuple, DCons_cons, DNil_nil, NN_some, BIf_true, BIf_false, BIf_same, List.toList_toArray, Bool.not_true, Bool.not_false]
  refine HCalls.use (good_ok k _ H) ?_
  try simp only [DI_int', DB_bool, DS_string, DP_pointer, DSl_slice, DM_map, DA_agg, DTup_tuple, DCons_cons, DNil_nil, NN_some, BIf_true, BIf_false, BIf_same, List.toList_toArray, Bool.not_true, Bool.not_false]
  unfold NeedV
  have hle := perN_le s
  by_cases h : 0 ≤ k ∧ k ≤ 32 ∧ 0 < perN s
  · rw [if_pos h]
    refine BIf_neg (by simp; omega) ?_
    refine HCalls.use (per_ok s H) ?_
    try simp only [DI_int', DB_bool, DS_string, DP_pointer, DSl_slice, DM_map, DA_agg, DTup_tuple, DCons_cons, DNil_nil, NN_some, BIf_true, BIf_false, BIf_same, List.toList_toArray, Bool.not_true, Bool.not_false]
    obtain ⟨n, rfl⟩ := Int.eq_ofNat_of_zero_le h.1
    refine HCalls.use (need_ok (by omega) h.2.2 (by omega) H) ?_
    try simp only [DI_int', DB_bool, DS_string, DP_pointer, DSl_slice, DM_map, DA_agg, DTup_tuple, DCons_cons, DNil_nil, NN_some, BIf_true, BIf_false, BIf_same, List.toList_toArray, Bool.not_true, Bool.not_false]
    exact RetE.mk _ _
  · rw [if_neg h]
    exact BIf_pos (by simp; omega) (RetE.mk _ _)

/-- The greatest exponent below k that fits. -/
def mostN (sec : Int) (p : Nat) : Nat → Option Nat
  | 0 => none
  | k + 1 => if (needN k p : Int) ≤ sec then some k else mostN sec p k

def MostV (sec s : Int) : Int × Bool := if perN s = 0 then (0, false) else match mostN sec (perN s) 33 with | some k => (k, true) | none => (0, false)

/-! ## The law's own -/

def lroomN (k p : Nat) : Nat := if 2 ^ k ≤ p then 1 else 2 ^ k / p

theorem perN_cases (s : Int) (h : perN s ≠ 0) : ∃ m, 2 ≤ m ∧ m ≤ 9 ∧ perN s = 2 ^ m := by
  unfold perN at h ⊢
  repeat' split
  all_goals first | exact ⟨2, by omega⟩ | exact ⟨3, by omega⟩ | exact ⟨4, by omega⟩ | exact ⟨5, by omega⟩ | exact ⟨6, by omega⟩ | exact ⟨7, by omega⟩ | exact ⟨8, by omega⟩ | exact ⟨9, by omega⟩ | skip
  exfalso
  repeat (rw [if_neg (by assumption)] at h)
  exact h rfl

theorem lroomN_eq {k m : Nat} : lroomN k (2 ^ m) = roomN k (2 ^ m) := by
  unfold lroomN roomN
  have h0 : 1 ≤ 2 ^ k := Nat.one_le_two_pow
  have h1 : 1 ≤ 2 ^ m := Nat.one_le_two_pow
  by_cases h : 2 ^ k ≤ 2 ^ m
  · rw [if_pos h, Nat.div_eq_of_lt (by omega)]
  · rw [if_neg h]
    have hm : m < k := by
      rcases Nat.lt_or_ge m k with h2 | h2
      · exact h2
      · exact absurd (Nat.pow_le_pow_right (by omega) h2) h
    obtain ⟨d, rfl⟩ : ∃ d, k = m + d := ⟨k - m, by omega⟩
    rw [Nat.pow_add, Nat.mul_div_cancel_left _ (by omega)]
    have h2 : 1 ≤ 2 ^ d := Nat.one_le_two_pow
    have : ∀ a b : Nat, 1 ≤ a → 1 ≤ b → (a * b - 1) / a = b - 1 := by
      intro a b ha hb
      have hab := Nat.mul_le_mul ha hb
      have hs : (b - 1) * a = a * b - a := by rw [Nat.sub_mul, Nat.mul_comm b a, Nat.one_mul]
      apply Nat.div_eq_of_lt_le
      · rw [hs]; omega
      · rw [show b - 1 + 1 = b by omega, Nat.mul_comm b a]; omega
    rw [this _ _ h1 h2]
    omega

theorem mostN_none {sec : Int} {p : Nat} : ∀ n, mostN sec p n = none → ∀ k, k < n → sec < needN k p
  | 0, _, k, hk => by omega
  | n + 1, h, k, hk => by
    unfold mostN at h
    split at h
    · cases h
    · rcases Nat.lt_succ_iff_lt_or_eq.1 hk with h1 | rfl
      · exact mostN_none n h k h1
      · omega

theorem mostN_some {sec : Int} {p : Nat} : ∀ n k, mostN sec p n = some k → k < n ∧ (needN k p : Int) ≤ sec ∧ (k + 1 < n → sec < needN (k + 1) p)
  | 0, k, h => by cases h
  | n + 1, k, h => by
    unfold mostN at h
    split at h
    · cases h
      exact ⟨by omega, by assumption, by omega⟩
    · obtain ⟨h1, h2, h3⟩ := mostN_some n k h
      refine ⟨by omega, h2, fun h4 => ?_⟩
      rcases Nat.lt_succ_iff_lt_or_eq.1 h4 with h5 | h5
      · exact h3 h5
      · rw [h5]; omega

end Go.Proofs.YtgkdkemhiglpdaaDoor.Lay

end
section
/-! GenB -/
/- gen: a rule's words, one by one. -/
set_option maxRecDepth 100000
set_option linter.unusedSimpArgs false
set_option linter.unusedVariables false
set_option linter.unnecessarySimpa false
set_option linter.unusedSectionVars false
namespace Go.Proofs.YtgkdkemhiglpdaaDoor.Gen
open Go Go.Hw Go.Proofs.YtgkdkemhiglpdaaDoor.W Go.Proofs.YtgkdkemhiglpdaaDoor.Gol

def geo (b : Nat) : Nat → Nat
  | 0 => 0
  | n + 1 => b * geo b n + 1
theorem geo_pow (b : Nat) : ∀ n, geo b (n + 1) = geo b n + b ^ n
  | 0 => by simp [geo]
  | n + 1 => by
    show b * geo b (n + 1) + 1 = _
    rw [geo_pow b n, Nat.mul_add, Nat.pow_succ, Nat.mul_comm (b ^ n) b]
    have h : geo b n + b ^ n = b * geo b n + 1 := (geo_pow b n).symm
    omega
theorem geo_add (b m : Nat) : ∀ n, geo b (m + n) = geo b m + b ^ m * geo b n
  | 0 => by simp [geo]
  | n + 1 => by
    rw [← Nat.add_assoc, geo_pow, geo_add b m n, geo_pow b n, Nat.mul_add, Nat.pow_add]
    omega

def pulse (b c i : Nat) : Bool := if c = 0 then i == b else i % c == b % c
/-- A rule's word. -/
def val (k : Int) (a b c i : Nat) : Nat :=
  if k = 1 then a else if k = 2 then (a + b * i) % 18446744069414584321 else if k = 3 then a * b ^ i % 18446744069414584321 else if k = 4 then (a * b ^ i + c * geo b i) % 18446744069414584321 else if pulse b c i = true then a else 0
theorem val_lt {k : Int} {a b c i : Nat} (ha : a < 18446744069414584321) : val k a b c i < 18446744069414584321 := by
  have h : ∀ x, x % 18446744069414584321 < 18446744069414584321 := fun x => Nat.mod_lt x (Nat.zero_lt_succ _)
  unfold val
  split
  · exact ha
  split
  · exact h _
  split
  · exact h _
  split
  · exact h _
  split
  · exact ha
  · exact Nat.zero_lt_succ _

theorem mod_mul_add (p x y z w : Nat) : (x * (y % p) % p + z * (w % p) % p) % p = (x * y + z * w) % p := by
  rw [mod_mul_r, mod_mul_r, ← Nat.add_mod]
theorem mod_add_r (p x y : Nat) : (x + y % p) % p = (x + y) % p := by rw [Nat.add_mod, Nat.mod_mod, ← Nat.add_mod]
theorem mod_add_l (p x y : Nat) : (x % p + y) % p = (x + y) % p := by rw [Nat.add_mod, Nat.mod_mod, ← Nat.add_mod]

theorem ladder_loop (H : Hp) {b n : Nat} (hb : b < 2 ^ 64) (hn : n < 2 ^ 41) : ∀ (t : Nat) (x7 : Int), x7 + 1 = t → t ≤ 41 → ∀ m, m = n / 2 ^ t →
      W_gen_ladder.l3 (RetE (.tuple #[.int .u64 ((geo b n % 18446744069414584321 : Nat) : Int), .int .u64 ((b ^ n % 18446744069414584321 : Nat) : Int)]) H) (t + 1) (b : Int) (n : Int) ((geo b m % 18446744069414584321 : Nat) : Int) ((b ^ m % 18446744069414584321 : Nat) : Int) x7 H := fun t => by
  induction t with
  | zero =>
    intro x7 hx ht m hm
    unfold W_gen_ladder.l3
    refine BIf_dneg (by omega) ?_
    rw [Nat.pow_zero, Nat.div_one] at hm
    rw [hm]
    exact RetE.mk _ _
  | succ t ih =>
    intro x7 hx ht m hm
    obtain rfl : x7 = (t : Int) := by omega
    have hpos : ∀ x, x % 18446744069414584321 < 18446744069414584321 := fun x => Nat.mod_lt x (Nat.zero_lt_succ _)
    have q1 := hpos (geo b m)
    have q2 := hpos (b ^ m)
    have hm2 : n / 2 ^ t / 2 = m := by rw [hm, Nat.div_div_eq_div_mul, ← Nat.pow_succ]
    have hle : n / 2 ^ t ≤ n := Nat.div_le_self _ _
    have e1 : (geo b m % 18446744069414584321 + geo b m % 18446744069414584321 * (b ^ m % 18446744069414584321) % 18446744069414584321) % 18446744069414584321 = geo b (2 * m) % 18446744069414584321 := by
      rw [Nat.two_mul, geo_add, mod_mul_l, mod_mul_r, ← Nat.add_mod, Nat.mul_comm]
    have e2 : b ^ m % 18446744069414584321 * (b ^ m % 18446744069414584321) % 18446744069414584321 = b ^ (2 * m) % 18446744069414584321 := by
      rw [mod_mul_l, mod_mul_r, ← Nat.pow_add, Nat.two_mul]
    have e3 : (geo b (2 * m) % 18446744069414584321 + b ^ (2 * m) % 18446744069414584321) % 18446744069414584321 = geo b (2 * m + 1) % 18446744069414584321 := by
      rw [← Nat.add_mod, geo_pow]
    have e4 : b ^ (2 * m) % 18446744069414584321 * b % 18446744069414584321 = b ^ (2 * m + 1) % 18446744069414584321 := by
      rw [mod_mul_l, ← Nat.pow_succ]
    have q3 := hpos (geo b m % 18446744069414584321 * (b ^ m % 18446744069414584321))
    have q4 := hpos (geo b (2 * m))
    have q5 := hpos (b ^ (2 * m))
    unfold W_gen_ladder.l3
    refine BIf_dpos (by omega) ?_
    refine HCalls.use (Mul_ok (a := geo b m % 18446744069414584321) (b := b ^ m % 18446744069414584321) (by omega) (by omega) H) ?_
    simp only [DI_int', DB_bool, DS_string, DP_pointer, DSl_slice, DM_map, DA_agg, DTup_tuple, DCons_cons, DNil_nil, NN_some, BIf_true, BIf_false, BIf_same, List.toList_toArray, Bool.not_true, Bool.not_false]
    refine HCalls.use (Add_ok (a := geo b m % 18446744069414584321) (b := geo b m % 18446744069414584321 * (b ^ m % 18446744069414584321) % 18446744069414584321) (by omega) (by omega) H) ?_
    simp only [DI_int', DB_bool, DS_string, DP_pointer, DSl_slice, DM_map, DA_agg, DTup_tuple, DCons_cons, DNil_nil, NN_some, BIf_true, BIf_false, BIf_same, List.toList_toArray, Bool.not_true, Bool.not_false]
    rw [e1]
    refine HCalls.use (Mul_ok (a := b ^ m % 18446744069414584321) (b := b ^ m % 18446744069414584321) (by omega) (by omega) H) ?_
    simp only [DI_int', DB_bool, DS_string, DP_pointer, DSl_slice, DM_map, DA_agg, DTup_tuple, DCons_cons, DNil_nil, NN_some, BIf_true, BIf_false, BIf_same, List.toList_toArray, Bool.not_true, Bool.not_false]
    rw [e2, u64n (n := t) (by omega)]
    refine ⟨by omega, ?_⟩
    have hsh : shrI .i64 (n : Int) (t : Int) = ((n / 2 ^ t : Nat) : Int) := shrN (k := .i64) (a := n) (i := (t : Int)) (n := t) rfl (by show t ≤ 64; omega)
    have hand : bAnd .i64 ((n / 2 ^ t : Nat) : Int) 1 = ((n / 2 ^ t % 2 : Nat) : Int) := by
      rw [show (1 : Int) = ((1 : Nat) : Int) from rfl, Lay.bAnd_nat (by omega) (by omega), Nat.and_one_is_mod]
    rw [hsh, hand, i64w (x := (t : Int) - 1) (by omega) (by omega)]
    by_cases h1 : n / 2 ^ t % 2 = 1
    · refine BIf_beqp (by omega) ?_
      refine HCalls.use (Add_ok (a := geo b (2 * m) % 18446744069414584321) (b := b ^ (2 * m) % 18446744069414584321) (by omega) (by omega) H) ?_
      simp only [DI_int', DB_bool, DS_string, DP_pointer, DSl_slice, DM_map, DA_agg, DTup_tuple, DCons_cons, DNil_nil, NN_some, BIf_true, BIf_false, BIf_same, List.toList_toArray, Bool.not_true, Bool.not_false]
      refine HCalls.use (Mul_ok (a := b ^ (2 * m) % 18446744069414584321) (b := b) (by omega) hb H) ?_
      simp only [DI_int', DB_bool, DS_string, DP_pointer, DSl_slice, DM_map, DA_agg, DTup_tuple, DCons_cons, DNil_nil, NN_some, BIf_true, BIf_false, BIf_same, List.toList_toArray, Bool.not_true, Bool.not_false]
      rw [e3, e4]
      exact ih ((t : Int) - 1) (by omega) (by omega) (2 * m + 1) (by omega)
    · refine BIf_beqn (by omega) ?_
      exact ih ((t : Int) - 1) (by omega) (by omega) (2 * m) (by omega)

theorem ladder_ok {b n : Nat} (hb : b < 2 ^ 64) (hn : n < 2 ^ 41) (H : Hp) : HCalls Tryd.prog 67 #[.int .u64 (b : Int), .int .i64 (n : Int)] H (RetE (.tuple #[.int .u64 ((geo b n % 18446744069414584321 : Nat) : Int), .int .u64 ((b ^ n % 18446744069414584321 : Nat) : Int)]) H) := by
  apply W_gen_ladder.ok
  unfold W_gen_ladder
  exact ⟨42, ladder_loop H hb hn 41 40 rfl (Nat.le_refl _) 0 (Nat.div_eq_of_lt hn).symm⟩

theorem chain_ok (k : Int) {a b c i : Nat} (ha : a < 2 ^ 64) (hb : b < 2 ^ 64) (hc : c < 2 ^ 64) (hi : i < 2 ^ 41) (H : Hp) : HCalls Tryd.prog 87 #[.agg #[.int .i64 k, .int .u64 (a : Int), .int .u64 (b : Int), .int .u64 (c : Int)], .int .i64 (i : Int)] H (RetE (.int .u64 (((a * b ^ i + c * geo b i) % 18446744069414584321 : Nat) : Int)) H) := HCalls.ret (by
  have hpos : ∀ x, x % 18446744069414584321 < 18446744069414584321 := fun x => Nat.mod_lt x (Nat.zero_lt_succ _)
  have q1 := hpos (geo b i)
  have q2 := hpos (b ^ i)
  have q3 := hpos (a * (b ^ i % 18446744069414584321))
  have q4 := hpos (c * (geo b i % 18446744069414584321))
  apply W_gen_chain.ok
  unfold W_gen_chain
  refine (Sep.start H).nw fun b1 H1 hs => ?_
  first | refine hs.ldf 1 rfl rfl ?_ | refine hs.ldg 1 rfl rfl ?_
  try simp only [DI_int', DB_bool, DS_string, DP_pointer, DSl_slice, DM_map, DA_agg, DTup_tuple, DCons_cons, DNil_nil, NN_some, BIf_true, BIf_false, BIf_same, List.toList_toArray, Bool.not_true, Bool.not_false]
  refine HCalls.use (ladder_ok hb hi H1) ?_
  simp only [DI_int', DB_bool, DS_string, DP_pointer, DSl_slice, DM_map, DA_agg, DTup_tuple, DCons_cons, DNil_nil, NN_some, BIf_true, BIf_false, BIf_same, List.toList_toArray, Bool.not_true, Bool.not_false]
  first | refine hs.ldf 1 rfl rfl ?_ | refine hs.ldg 1 rfl rfl ?_
  try simp only [DI_int', DB_bool, DS_string, DP_pointer, DSl_slice, DM_map, DA_agg, DTup_tuple, DCons_cons, DNil_nil, NN_some, BIf_true, BIf_false, BIf_same, List.toList_toArray, Bool.not_true, Bool.not_false]
  refine QCall.use (Mul_ok (a := a) (b := b ^ i % 18446744069414584321) ha (by omega) H1) ?_
  simp only [DI_int', DB_bool, DS_string, DP_pointer, DSl_slice, DM_map, DA_agg, DTup_tuple, DCons_cons, DNil_nil, NN_some, BIf_true, BIf_false, BIf_same, List.toList_toArray, Bool.not_true, Bool.not_false]
  first | refine hs.ldf 1 rfl rfl ?_ | refine hs.ldg 1 rfl rfl ?_
  try simp only [DI_int', DB_bool, DS_string, DP_pointer, DSl_slice, DM_map, DA_agg, DTup_tuple, DCons_cons, DNil_nil, NN_some, BIf_true, BIf_false, BIf_same, List.toList_toArray, Bool.not_true, Bool.not_false]
  refine QCall.use (Mul_ok (a := c) (b := geo b i % 18446744069414584321) hc (by omega) H1) ?_
  simp only [DI_int', DB_bool, DS_string, DP_pointer, DSl_slice, DM_map, DA_agg, DTup_tuple, DCons_cons, DNil_nil, NN_some, BIf_true, BIf_false, BIf_same, List.toList_toArray, Bool.not_true, Bool.not_false]
  refine QCall.use (Add_ok (a := a * (b ^ i % 18446744069414584321) % 18446744069414584321) (b := c * (geo b i % 18446744069414584321) % 18446744069414584321) (by omega) (by omega) H1) ?_
  simp only [DI_int', DB_bool, DS_string, DP_pointer, DSl_slice, DM_map, DA_agg, DTup_tuple, DCons_cons, DNil_nil, NN_some, BIf_true, BIf_false, BIf_same, List.toList_toArray, Bool.not_true, Bool.not_false]
  rw [mod_mul_add]
  exact hs.fin 0 rfl _)

theorem pulses_ok (k : Int) {a b c i : Nat} (hi : i < 2 ^ 62) (H : Hp) : HCalls Tryd.prog 88 #[.agg #[.int .i64 k, .int .u64 (a : Int), .int .u64 (b : Int), .int .u64 (c : Int)], .int .i64 (i : Int)] H (RetE (.bool (pulse b c i)) H) := HCalls.ret (by
  apply W_gen_pulses.ok
  unfold W_gen_pulses pulse
  refine (Sep.start H).nw fun b1 H1 hs => ?_
  first | refine hs.ldf 1 rfl rfl ?_ | refine hs.ldg 1 rfl rfl ?_
  try simp only [DI_int', DB_bool, DS_string, DP_pointer, DSl_slice, DM_map, DA_agg, DTup_tuple, DCons_cons, DNil_nil, NN_some, BIf_true, BIf_false, BIf_same, List.toList_toArray, Bool.not_true, Bool.not_false]
  rw [u64n (n := i) (by omega)]
  by_cases h : c = 0
  · rw [if_pos h]
    refine BIf_beqp (by omega) ?_
    first | refine hs.ldf 1 rfl rfl ?_ | refine hs.ldg 1 rfl rfl ?_
    try simp only [DI_int', DB_bool, DS_string, DP_pointer, DSl_slice, DM_map, DA_agg, DTup_tuple, DCons_cons, DNil_nil, NN_some, BIf_true, BIf_false, BIf_same, List.toList_toArray, Bool.not_true, Bool.not_false]
    have : ((i : Int) == (b : Int)) = (i == b) := by
      by_cases e : i = b
      · simp [e]
      · rw [beq_eq_false_iff_ne.2 (show (i : Int) ≠ b by omega), beq_eq_false_iff_ne.2 e]
    rw [this]
    exact hs.fin 0 rfl _
  · rw [if_neg h]
    refine BIf_beqn (by omega) ?_
    first | refine hs.ldf 1 rfl rfl ?_ | refine hs.ldg 1 rfl rfl ?_
    try simp only [DI_int', DB_bool, DS_string, DP_pointer, DSl_slice, DM_map, DA_agg, DTup_tuple, DCons_cons, DNil_nil, NN_some, BIf_true, BIf_false, BIf_same, List.toList_toArray, Bool.not_true, Bool.not_false]
    refine ⟨by omega, by simp, ?_⟩
    first | refine hs.ldf 1 rfl rfl ?_ | refine hs.ldg 1 rfl rfl ?_
    try simp only [DI_int', DB_bool, DS_string, DP_pointer, DSl_slice, DM_map, DA_agg, DTup_tuple, DCons_cons, DNil_nil, NN_some, BIf_true, BIf_false, BIf_same, List.toList_toArray, Bool.not_true, Bool.not_false]
    first | refine hs.ldf 1 rfl rfl ?_ | refine hs.ldg 1 rfl rfl ?_
    try simp only [DI_int', DB_bool, DS_string, DP_pointer, DSl_slice, DM_map, DA_agg, DTup_tuple, DCons_cons, DNil_nil, NN_some, BIf_true, BIf_false, BIf_same, List.toList_toArray, Bool.not_true, Bool.not_false]
    refine ⟨by omega, by simp, ?_⟩
    have : (Int.tmod (i : Int) (c : Int) == Int.tmod (b : Int) (c : Int)) = (i % c == b % c) := by
      rw [show Int.tmod (i : Int) (c : Int) = ((i % c : Nat) : Int) from rfl, show Int.tmod (b : Int) (c : Int) = ((b % c : Nat) : Int) from rfl]
      generalize i % c = x
      generalize b % c = y
      by_cases e : x = y
      · simp [e]
      · rw [beq_eq_false_iff_ne.2 (show (x : Int) ≠ y by omega), beq_eq_false_iff_ne.2 e]
    rw [this]
    exact hs.fin 0 rfl _)

theorem at_ok {k : Int} {a b c i : Nat} (hg : goodR k a b c = true) (hi : i < 2 ^ 41) (H : Hp) : HCalls Tryd.prog 59 #[.agg #[.int .i64 k, .int .u64 (a : Int), .int .u64 (b : Int), .int .u64 (c : Int)], .int .i64 (i : Int)] H (RetE (.int .u64 ((val k a b c i : Nat) : Int)) H) := HCalls.ret (by
  obtain ⟨h1, h5, ha, hb, hc, _⟩ := goodR_of hg
  have hpos : ∀ x, x % 18446744069414584321 < 18446744069414584321 := fun x => Nat.mod_lt x (Nat.zero_lt_succ _)
  apply W_gen_at.ok
  unfold W_gen_at val
  refine (Sep.start H).nw fun b1 H1 hs => ?_
  first | refine hs.ldf 1 rfl rfl ?_ | refine hs.ldg 1 rfl rfl ?_
  try simp only [DI_int', DB_bool, DS_string, DP_pointer, DSl_slice, DM_map, DA_agg, DTup_tuple, DCons_cons, DNil_nil, NN_some, BIf_true, BIf_false, BIf_same, List.toList_toArray, Bool.not_true, Bool.not_false]
  rw [u64n (n := i) (by omega)]
  by_cases k1 : k = 1
  · rw [if_pos k1]
    refine BIf_beqp k1 ?_
    first | refine hs.ldf 1 rfl rfl ?_ | refine hs.ldg 1 rfl rfl ?_
    try simp only [DI_int', DB_bool, DS_string, DP_pointer, DSl_slice, DM_map, DA_agg, DTup_tuple, DCons_cons, DNil_nil, NN_some, BIf_true, BIf_false, BIf_same, List.toList_toArray, Bool.not_true, Bool.not_false]
    exact hs.fin 0 rfl _
  rw [if_neg k1]
  refine BIf_beqn k1 ?_
  by_cases k2 : k = 2
  · rw [if_pos k2]
    refine BIf_beqp k2 ?_
    first | refine hs.ldf 1 rfl rfl ?_ | refine hs.ldg 1 rfl rfl ?_
    try simp only [DI_int', DB_bool, DS_string, DP_pointer, DSl_slice, DM_map, DA_agg, DTup_tuple, DCons_cons, DNil_nil, NN_some, BIf_true, BIf_false, BIf_same, List.toList_toArray, Bool.not_true, Bool.not_false]
    first | refine hs.ldf 1 rfl rfl ?_ | refine hs.ldg 1 rfl rfl ?_
    try simp only [DI_int', DB_bool, DS_string, DP_pointer, DSl_slice, DM_map, DA_agg, DTup_tuple, DCons_cons, DNil_nil, NN_some, BIf_true, BIf_false, BIf_same, List.toList_toArray, Bool.not_true, Bool.not_false]
    have q := hpos (b * i)
    refine QCall.use (Mul_ok (a := b) (b := i) (by omega) (by omega) H1) ?_
    simp only [DI_int', DB_bool, DS_string, DP_pointer, DSl_slice, DM_map, DA_agg, DTup_tuple, DCons_cons, DNil_nil, NN_some, BIf_true, BIf_false, BIf_same, List.toList_toArray, Bool.not_true, Bool.not_false]
    refine QCall.use (Add_ok (a := a) (b := b * i % 18446744069414584321) (by omega) (by omega) H1) ?_
    simp only [DI_int', DB_bool, DS_string, DP_pointer, DSl_slice, DM_map, DA_agg, DTup_tuple, DCons_cons, DNil_nil, NN_some, BIf_true, BIf_false, BIf_same, List.toList_toArray, Bool.not_true, Bool.not_false]
    rw [mod_add_r]
    exact hs.fin 0 rfl _
  rw [if_neg k2]
  refine BIf_beqn k2 ?_
  by_cases k3 : k = 3
  · rw [if_pos k3]
    refine BIf_beqp k3 ?_
    first | refine hs.ldf 1 rfl rfl ?_ | refine hs.ldg 1 rfl rfl ?_
    try simp only [DI_int', DB_bool, DS_string, DP_pointer, DSl_slice, DM_map, DA_agg, DTup_tuple, DCons_cons, DNil_nil, NN_some, BIf_true, BIf_false, BIf_same, List.toList_toArray, Bool.not_true, Bool.not_false]
    first | refine hs.ldf 1 rfl rfl ?_ | refine hs.ldg 1 rfl rfl ?_
    try simp only [DI_int', DB_bool, DS_string, DP_pointer, DSl_slice, DM_map, DA_agg, DTup_tuple, DCons_cons, DNil_nil, NN_some, BIf_true, BIf_false, BIf_same, List.toList_toArray, Bool.not_true, Bool.not_false]
    have q := hpos (b ^ i)
    refine QCall.use (Pow_ok (a := b) (n := i) (by omega) (by omega) H1) ?_
    simp only [DI_int', DB_bool, DS_string, DP_pointer, DSl_slice, DM_map, DA_agg, DTup_tuple, DCons_cons, DNil_nil, NN_some, BIf_true, BIf_false, BIf_same, List.toList_toArray, Bool.not_true, Bool.not_false]
    refine QCall.use (Mul_ok (a := a) (b := b ^ i % 18446744069414584321) (by omega) (by omega) H1) ?_
    simp only [DI_int', DB_bool, DS_string, DP_pointer, DSl_slice, DM_map, DA_agg, DTup_tuple, DCons_cons, DNil_nil, NN_some, BIf_true, BIf_false, BIf_same, List.toList_toArray, Bool.not_true, Bool.not_false]
    rw [mod_mul_r]
    exact hs.fin 0 rfl _
  rw [if_neg k3]
  refine BIf_beqn k3 ?_
  by_cases k4 : k = 4
  · rw [if_pos k4]
    refine BIf_beqp k4 ?_
    refine hs.ldw 1 rfl rfl ?_
    refine HCalls.use (chain_ok k (a := a) (b := b) (c := c) (i := i) (by omega) (by omega) (by omega) hi H1) ?_
    simp only [DI_int', DB_bool, DS_string, DP_pointer, DSl_slice, DM_map, DA_agg, DTup_tuple, DCons_cons, DNil_nil, NN_some, BIf_true, BIf_false, BIf_same, List.toList_toArray, Bool.not_true, Bool.not_false]
    exact hs.fin 0 rfl _
  rw [if_neg k4]
  refine BIf_beqn k4 ?_
  refine hs.ldw 1 rfl rfl ?_
  refine HCalls.use (pulses_ok k (a := a) (b := b) (c := c) (i := i) (by omega) H1) ?_
  simp only [DI_int', DB_bool, DS_string, DP_pointer, DSl_slice, DM_map, DA_agg, DTup_tuple, DCons_cons, DNil_nil, NN_some, BIf_true, BIf_false, BIf_same, List.toList_toArray, Bool.not_true, Bool.not_false]
  cases hp : pulse b c i with
  | true =>
    refine BIf_pos rfl ?_
    first | refine hs.ldf 1 rfl rfl ?_ | refine hs.ldg 1 rfl rfl ?_
    try simp only [DI_int', DB_bool, DS_string, DP_pointer, DSl_slice, DM_map, DA_agg, DTup_tuple, DCons_cons, DNil_nil, NN_some, BIf_true, BIf_false, BIf_same, List.toList_toArray, Bool.not_true, Bool.not_false]
    exact hs.fin 0 rfl _
  | false => exact BIf_neg rfl (hs.fin 0 rfl _))

theorem next_ok {k : Int} {a b c i : Nat} (hg : goodR k a b c = true) (hi : i + 1 < 2 ^ 41) (H : Hp) : HCalls Tryd.prog 60 #[.agg #[.int .i64 k, .int .u64 (a : Int), .int .u64 (b : Int), .int .u64 (c : Int)], .int .u64 ((val k a b c i : Nat) : Int), .int .i64 ((i + 1 : Nat) : Int)] H (RetE (.int .u64 ((val k a b c (i + 1) : Nat) : Int)) H) := HCalls.ret (by
  obtain ⟨h1, h5, ha, hb, hc, _⟩ := goodR_of hg
  have hpos : ∀ x, x % 18446744069414584321 < 18446744069414584321 := fun x => Nat.mod_lt x (Nat.zero_lt_succ _)
  have hv := val_lt (k := k) (b := b) (c := c) (i := i) ha
  apply W_gen_next.ok
  unfold W_gen_next
  refine (Sep.start H).nw fun b1 H1 hs => ?_
  first | refine hs.ldf 1 rfl rfl ?_ | refine hs.ldg 1 rfl rfl ?_
  try simp only [DI_int', DB_bool, DS_string, DP_pointer, DSl_slice, DM_map, DA_agg, DTup_tuple, DCons_cons, DNil_nil, NN_some, BIf_true, BIf_false, BIf_same, List.toList_toArray, Bool.not_true, Bool.not_false]
  by_cases k2 : k = 2
  · refine BIf_beqp k2 ?_
    first | refine hs.ldf 1 rfl rfl ?_ | refine hs.ldg 1 rfl rfl ?_
    try simp only [DI_int', DB_bool, DS_string, DP_pointer, DSl_slice, DM_map, DA_agg, DTup_tuple, DCons_cons, DNil_nil, NN_some, BIf_true, BIf_false, BIf_same, List.toList_toArray, Bool.not_true, Bool.not_false]
    refine HCalls.use (Add_ok (a := val k a b c i) (b := b) (by omega) (by omega) H1) ?_
    simp only [DI_int', DB_bool, DS_string, DP_pointer, DSl_slice, DM_map, DA_agg, DTup_tuple, DCons_cons, DNil_nil, NN_some, BIf_true, BIf_false, BIf_same, List.toList_toArray, Bool.not_true, Bool.not_false]
    have e : (val k a b c i + b) % 18446744069414584321 = val k a b c (i + 1) := by
      unfold val
      rw [if_neg (by omega), if_pos k2, if_neg (by omega), if_pos k2, mod_add_l, Nat.mul_succ, Nat.add_assoc]
    rw [e]
    exact hs.fin 0 rfl _
  refine BIf_beqn k2 ?_
  by_cases k3 : k = 3
  · refine BIf_beqp k3 ?_
    first | refine hs.ldf 1 rfl rfl ?_ | refine hs.ldg 1 rfl rfl ?_
    try simp only [DI_int', DB_bool, DS_string, DP_pointer, DSl_slice, DM_map, DA_agg, DTup_tuple, DCons_cons, DNil_nil, NN_some, BIf_true, BIf_false, BIf_same, List.toList_toArray, Bool.not_true, Bool.not_false]
    refine HCalls.use (Mul_ok (a := val k a b c i) (b := b) (by omega) (by omega) H1) ?_
    simp only [DI_int', DB_bool, DS_string, DP_pointer, DSl_slice, DM_map, DA_agg, DTup_tuple, DCons_cons, DNil_nil, NN_some, BIf_true, BIf_false, BIf_same, List.toList_toArray, Bool.not_true, Bool.not_false]
    have e : (val k a b c i * b) % 18446744069414584321 = val k a b c (i + 1) := by
      unfold val
      rw [if_neg (by omega), if_neg k2, if_pos k3, if_neg (by omega), if_neg k2, if_pos k3, mod_mul_l, Nat.mul_assoc, ← Nat.pow_succ]
    rw [e]
    exact hs.fin 0 rfl _
  refine BIf_beqn k3 ?_
  by_cases k4 : k = 4
  · refine BIf_beqp k4 ?_
    first | refine hs.ldf 1 rfl rfl ?_ | refine hs.ldg 1 rfl rfl ?_
    try simp only [DI_int', DB_bool, DS_string, DP_pointer, DSl_slice, DM_map, DA_agg, DTup_tuple, DCons_cons, DNil_nil, NN_some, BIf_true, BIf_false, BIf_same, List.toList_toArray, Bool.not_true, Bool.not_false]
    have q := hpos (val k a b c i * b)
    refine QCall.use (Mul_ok (a := val k a b c i) (b := b) (by omega) (by omega) H1) ?_
    simp only [DI_int', DB_bool, DS_string, DP_pointer, DSl_slice, DM_map, DA_agg, DTup_tuple, DCons_cons, DNil_nil, NN_some, BIf_true, BIf_false, BIf_same, List.toList_toArray, Bool.not_true, Bool.not_false]
    first | refine hs.ldf 1 rfl rfl ?_ | refine hs.ldg 1 rfl rfl ?_
    try simp only [DI_int', DB_bool, DS_string, DP_pointer, DSl_slice, DM_map, DA_agg, DTup_tuple, DCons_cons, DNil_nil, NN_some, BIf_true, BIf_false, BIf_same, List.toList_toArray, Bool.not_true, Bool.not_false]
    refine QCall.use (Add_ok (a := val k a b c i * b % 18446744069414584321) (b := c) (by omega) (by omega) H1) ?_
    simp only [DI_int', DB_bool, DS_string, DP_pointer, DSl_slice, DM_map, DA_agg, DTup_tuple, DCons_cons, DNil_nil, NN_some, BIf_true, BIf_false, BIf_same, List.toList_toArray, Bool.not_true, Bool.not_false]
    have e : (val k a b c i * b % 18446744069414584321 + c) % 18446744069414584321 = val k a b c (i + 1) := by
      unfold val
      rw [if_neg (by omega), if_neg k2, if_neg k3, if_pos k4, if_neg (by omega), if_neg k2, if_neg k3, if_pos k4, mod_mul_l, mod_add_l, Nat.add_mul, Nat.mul_assoc, ← Nat.pow_succ, Nat.mul_assoc c]
      show _ = (a * b ^ (i + 1) + c * (b * geo b i + 1)) % 18446744069414584321
      rw [Nat.mul_add, Nat.mul_comm (geo b i), Nat.mul_one, Nat.add_assoc]
    rw [e]
    exact hs.fin 0 rfl _
  refine BIf_beqn k4 ?_
  refine hs.ldw 1 rfl rfl ?_
  refine HCalls.use (at_ok hg (i := i + 1) hi H1) ?_
  simp only [DI_int', DB_bool, DS_string, DP_pointer, DSl_slice, DM_map, DA_agg, DTup_tuple, DCons_cons, DNil_nil, NN_some, BIf_true, BIf_false, BIf_same, List.toList_toArray, Bool.not_true, Bool.not_false]
  exact hs.fin 0 rfl _)

end Go.Proofs.YtgkdkemhiglpdaaDoor.Gen

end
section
/-! GenC -/
/- gen: rows of words. -/
set_option maxRecDepth 100000
set_option linter.unusedSimpArgs false
set_option linter.unusedVariables false
set_option linter.unnecessarySimpa false
set_option linter.unusedSectionVars false
namespace Go.Proofs.YtgkdkemhiglpdaaDoor.Gen
open Go Go.Hw Go.Proofs.YtgkdkemhiglpdaaDoor.W Go.Proofs.YtgkdkemhiglpdaaDoor.Gol

theorem cell_u64 : cellInfo Tryd.prog 22 = some (1, 8, some #[.int .u64 0]) := by kernel_rfl

def ruleO (k : Int) (a b c : Nat) : AO := .obj (.cells #[.int .i64 k, .int .u64 (a : Int), .int .u64 (b : Int), .int .u64 (c : Int)] 75)
def vals (k : Int) (a b c i n : Nat) : List Nat := (List.range n).map fun j => val k a b c (i + j)
theorem vals_len (k : Int) (a b c i n : Nat) : (vals k a b c i n).length = n := by simp [vals]
theorem vals_get {k : Int} {a b c i n j : Nat} (h : j < n) : (vals k a b c i n)[j]? = some (val k a b c (i + j)) := by
  unfold vals
  rw [List.getElem?_map, List.getElem?_range h]; rfl
theorem natV_get (xs : List Nat) (i : Nat) : (natV xs)[i]? = xs[i]?.map fun (x : Nat) => Value.int .u64 (x : Int) := by unfold natV; rw [List.getElem?_map]
theorem natV_length (xs : List Nat) : (natV xs).length = xs.length := by unfold natV; rw [List.length_map]
theorem natV_set (xs : List Nat) (i x : Nat) : (natV xs).set i (.int .u64 (x : Int)) = natV (xs.set i x) := by unfold natV; rw [List.map_set]

theorem at_no (k : Int) (a b c : Nat) (x : Int) (hx : -9223372036854775808 ≤ x ∧ x ≤ 9223372036854775807) (H : Hp) (h : ¬ (goodR k a b c = true ∧ 0 ≤ x ∧ x < 4294967296)) :
    HCalls Tryd.prog 28 #[.agg #[.int .i64 k, .int .u64 (a : Int), .int .u64 (b : Int), .int .u64 (c : Int)], .int .i64 x] H (RetE (.tuple #[.int .u64 0, .int .i64 (if goodR k a b c = true then 2 else 18)]) H) := HCalls.ret (by
  apply W_gen_At.ok
  unfold W_gen_At
  refine (Sep.start H).nw fun b1 H1 hs => ?_
  refine hs.ldw 1 rfl rfl ?_
  refine HCalls.use (Good_ok k a b c H1) ?_
  simp only [DI_int', DB_bool, DS_string, DP_pointer, DSl_slice, DM_map, DA_agg, DTup_tuple, DCons_cons, DNil_nil, NN_some, BIf_true, BIf_false, BIf_same, List.toList_toArray, Bool.not_true, Bool.not_false]
  cases hg : goodR k a b c with
  | false => exact BIf_pos rfl (hs.fin 0 rfl _)
  | true =>
    refine BIf_neg rfl ?_
    by_cases h0 : x < 0
    · exact BIf_dpos h0 (hs.fin 0 rfl _)
    refine BIf_dneg h0 ?_
    exact BIf_dpos (by
      have : ¬ x < 4294967296 := fun h1 => h ⟨hg, by omega, h1⟩
      omega) (hs.fin 0 rfl _))

theorem At_ok {k : Int} {a b c i : Nat} (hg : goodR k a b c = true) (hi : i < 4294967296) (H : Hp) :
    HCalls Tryd.prog 28 #[.agg #[.int .i64 k, .int .u64 (a : Int), .int .u64 (b : Int), .int .u64 (c : Int)], .int .i64 (i : Int)] H (RetE (.tuple #[.int .u64 ((val k a b c i : Nat) : Int), .int .i64 0]) H) := HCalls.ret (by
  apply W_gen_At.ok
  unfold W_gen_At
  refine (Sep.start H).nw fun b1 H1 hs => ?_
  refine hs.ldw 1 rfl rfl ?_
  refine HCalls.use (Good_ok k a b c H1) ?_
  rw [hg]
  simp only [DI_int', DB_bool, DS_string, DP_pointer, DSl_slice, DM_map, DA_agg, DTup_tuple, DCons_cons, DNil_nil, NN_some, BIf_true, BIf_false, BIf_same, List.toList_toArray, Bool.not_true, Bool.not_false]
  refine BIf_dneg (by omega) (BIf_dneg (by omega) ?_)
  refine hs.ldw 1 rfl rfl ?_
  refine HCalls.use (at_ok hg (i := i) (by omega) H1) ?_
  simp only [DI_int', DB_bool, DS_string, DP_pointer, DSl_slice, DM_map, DA_agg, DTup_tuple, DCons_cons, DNil_nil, NN_some, BIf_true, BIf_false, BIf_same, List.toList_toArray, Bool.not_true, Bool.not_false]
  exact hs.fin 0 rfl _)

/-- What a part answers that can't be. -/
def partE (k : Int) (a b c : Nat) (x : Int) : Int := if goodR k a b c = true then (if x < 0 ∨ x ≥ 4294967296 then 2 else 14) else 18
theorem Part_no (k : Int) (a b c : Nat) (x n : Int) (hx : -9223372036854775808 ≤ x ∧ x ≤ 9223372036854775807) (H : Hp) (h : ¬ (goodR k a b c = true ∧ 0 ≤ x ∧ x < 4294967296 ∧ 0 ≤ n ∧ n ≤ 1048576 ∧ n ≤ 4294967296 - x)) :
    HCalls Tryd.prog 27 #[.agg #[.int .i64 k, .int .u64 (a : Int), .int .u64 (b : Int), .int .u64 (c : Int)], .int .i64 x, .int .i64 n] H (RetE (.tuple #[.slice none 0 0, .int .i64 (partE k a b c x)]) H) := HCalls.ret (by
  apply W_gen_Part.ok
  unfold W_gen_Part partE
  refine (Sep.start H).nw fun b1 H1 hs => ?_
  refine hs.ldw 1 rfl rfl ?_
  refine HCalls.use (Good_ok k a b c H1) ?_
  simp only [DI_int', DB_bool, DS_string, DP_pointer, DSl_slice, DM_map, DA_agg, DTup_tuple, DCons_cons, DNil_nil, NN_some, BIf_true, BIf_false, BIf_same, List.toList_toArray, Bool.not_true, Bool.not_false]
  cases hg : goodR k a b c with
  | false => exact BIf_pos rfl (hs.fin 0 rfl _)
  | true =>
    refine BIf_neg rfl ?_
    rw [if_pos rfl]
    by_cases h0 : x < 0
    · rw [if_pos (.inl h0)]
      exact BIf_dpos h0 (hs.fin 0 rfl _)
    refine BIf_dneg h0 ?_
    by_cases h1 : x ≥ 4294967296
    · rw [if_pos (.inr h1)]
      exact BIf_dpos h1 (hs.fin 0 rfl _)
    refine BIf_dneg h1 ?_
    rw [if_neg (fun e => e.elim h0 h1)]
    by_cases n0 : n < 0
    · exact BIf_dpos n0 (hs.fin 0 rfl _)
    refine BIf_dneg n0 ?_
    by_cases n1 : n > 1048576
    · exact BIf_dpos n1 (hs.fin 0 rfl _)
    refine BIf_dneg n1 ?_
    rw [i64w (x := 4294967296 - x) (by omega) (by omega)]
    exact BIf_dpos (by
      have : ¬ (n ≤ 4294967296 - x) := fun h2 => h ⟨hg, by omega, by omega, by omega, by omega, h2⟩
      omega) (hs.fin 0 rfl _))

theorem part_loop (K : Value → Hp → Prop) {k : Int} {a b c i n : Nat} (hg : goodR k a b c = true) (hi : i < 4294967296) (hn : n ≤ 1048576) {b1 m : Nat} {A : Option Addr}
    (hK : ∀ H, Sep [pts b1 (ruleO k a b c), Own 22 1 A n m (natV (vals k a b c i n))] H → K (.tuple #[.slice A n m, .int .i64 0]) H) :
    ∀ (t j : Nat) (xs : List Nat) (H : Hp), j + t = n → xs.length = n → (∀ j', j' < j → xs[j']? = some (val k a b c (i + j'))) → Sep [pts b1 (ruleO k a b c), Own 22 1 A n m (natV xs)] H →
      W_gen_Part.l10 K (t + 1) (i : Int) ⟨b1, 0, none⟩ A n m ((val k a b c (i + j) : Nat) : Int) (n : Int) (j : Int) H
  | 0, j, xs, H, hj, hl, hx, hs => by
    unfold W_gen_Part.l10
    refine BIf_dneg (by omega) (hK H ?_)
    have : xs = vals k a b c i n := by
      apply List.ext_getElem?
      intro j'
      by_cases h : j' < n
      · rw [hx j' (by omega), vals_get h]
      · rw [List.getElem?_eq_none (by omega), List.getElem?_eq_none (by rw [vals_len]; omega)]
    rw [← this]
    exact hs
  | t + 1, j, xs, H, hj, hl, hx, hs => by
    unfold W_gen_Part.l10
    refine BIf_dpos (by omega) ?_
    refine hs.wr1 1 rfl rfl (by omega) rfl fun H hs => ?_
    rw [natV_set] at hs
    have hs : Sep [pts b1 (ruleO k a b c), Own 22 1 A n m (natV (xs.set j (val k a b c (i + j))))] H := hs
    refine hs.ldw 0 rfl rfl ?_
    rw [← Int.natCast_add, i64n (n := i + j) (by omega), i64w (x := ((i + j : Nat) : Int) + 1) (by omega) (by omega), show ((i + j : Nat) : Int) + 1 = ((i + j + 1 : Nat) : Int) by omega]
    refine HCalls.use (next_ok hg (i := i + j) (by omega) H) ?_
    simp only [DI_int', DB_bool, DS_string, DP_pointer, DSl_slice, DM_map, DA_agg, DTup_tuple, DCons_cons, DNil_nil, NN_some, BIf_true, BIf_false, BIf_same, List.toList_toArray, Bool.not_true, Bool.not_false]
    rw [i64w (x := (j : Int) + 1) (by omega) (by omega), show (j : Int) + 1 = ((j + 1 : Nat) : Int) by omega, Nat.add_assoc]
    refine part_loop K hg hi hn hK t (j + 1) (xs.set j (val k a b c (i + j))) H (by omega) (by rw [List.length_set]; exact hl) (fun j' hj' => ?_) hs
    by_cases e : j' = j
    · subst e; rw [List.getElem?_set_self (by omega)]
    · rw [List.getElem?_set_ne (by omega)]; exact hx j' (by omega)

/-- A part of a rule's words. -/
theorem Part_tr {k : Int} {a b c i n : Nat} (hg : goodR k a b c = true) (hi : i < 4294967296) (hn : n ≤ 1048576) (hin : i + n ≤ 4294967296) :
    Tr Tryd.prog 27 #[.agg #[.int .i64 k, .int .u64 (a : Int), .int .u64 (b : Int), .int .u64 (c : Int)], .int .i64 (i : Int), .int .i64 (n : Int)] [] fun v M =>
      ∃ bo mm, v = .tuple #[.slice (some ⟨bo, 0, none⟩) n n, .int .i64 0] ∧ M = [pts bo (.row (natV (vals k a b c i n)) 22 mm)] := fun H hs => by
  apply W_gen_Part.ok
  unfold W_gen_Part
  refine hs.nw fun b1 H hs => ?_
  refine hs.ldw 0 rfl rfl ?_
  refine HCalls.use (Good_ok k a b c H) ?_
  rw [hg]
  simp only [DI_int', DB_bool, DS_string, DP_pointer, DSl_slice, DM_map, DA_agg, DTup_tuple, DCons_cons, DNil_nil, NN_some, BIf_true, BIf_false, BIf_same, List.toList_toArray, Bool.not_true, Bool.not_false]
  refine BIf_dneg (by omega) (BIf_dneg (by omega) (BIf_dneg (by omega) (BIf_dneg (by omega) ?_)))
  rw [i64w (x := 4294967296 - (i : Int)) (by omega) (by omega)]
  refine BIf_dneg (by omega) ?_
  refine hs.mks cell_u64 rfl (n := n) (m := n) rfl rfl (Nat.le_refl _) (by omega) (by omega) fun bo H hs => ?_
  simp only [DI_int', DB_bool, DS_string, DP_pointer, DSl_slice, DM_map, DA_agg, DTup_tuple, DCons_cons, DNil_nil, NN_some, BIf_true, BIf_false, BIf_same, List.toList_toArray, Bool.not_true, Bool.not_false]
  refine hs.ldw 0 rfl rfl ?_
  refine HCalls.use (at_ok hg (i := i) (by omega) H) ?_
  simp only [DI_int', DB_bool, DS_string, DP_pointer, DSl_slice, DM_map, DA_agg, DTup_tuple, DCons_cons, DNil_nil, NN_some, BIf_true, BIf_false, BIf_same, List.toList_toArray, Bool.not_true, Bool.not_false]
  have hz : zeroRow [Value.int .u64 0] n = natV (List.replicate n 0) := by
    rw [zeroRow_one]
    unfold natV
    rw [List.map_replicate]; rfl
  have hs : Sep [pts b1 (ruleO k a b c), pts bo (.row (natV (List.replicate n 0)) 22 (n * 1))] H := by rw [← hz]; exact hs
  have hs := hs.turn 1 rfl (B := Own 22 1 (some ⟨bo, 0, none⟩) n n (natV (List.replicate n 0))) (fun H1 h => ⟨by rw [natV_length, List.length_replicate, Nat.mul_one], .inr ⟨bo, n * 1, rfl, h, Nat.le_refl _⟩⟩)
  refine ⟨n + 1, ?_⟩
  refine part_loop _ hg hi hn (fun H hs => ?_) n 0 (List.replicate n 0) H (by omega) (by simp) (fun j' h => absurd h (by omega)) hs
  rcases hs.unown 1 rfl with ⟨h, _⟩ | ⟨b', mm, e, hmm, _, hs⟩
  · exact absurd h (by simp)
  · obtain rfl : b' = bo := by simpa using e.symm
    exact ⟨_, ⟨b', mm, rfl, rfl⟩, hs.re [1] rfl⟩

theorem Row_tr {k : Int} {a b c n : Nat} (hg : goodR k a b c = true) (hn : n ≤ 1048576) :
    Tr Tryd.prog 32 #[.agg #[.int .i64 k, .int .u64 (a : Int), .int .u64 (b : Int), .int .u64 (c : Int)], .int .i64 (n : Int)] [] fun v M =>
      ∃ bo mm, v = .tuple #[.slice (some ⟨bo, 0, none⟩) n n, .int .i64 0] ∧ M = [pts bo (.row (natV (vals k a b c 0 n)) 22 mm)] := fun H hs => by
  apply W_gen_Row.ok
  unfold W_gen_Row
  refine hs.nw fun b1 H hs => ?_
  refine hs.ldw 0 rfl rfl ?_
  refine (Part_tr (k := k) (a := a) (b := b) (c := c) (i := 0) (n := n) hg (by omega) hn (by omega)).use hs [] rfl rfl ?_
  rintro _ _ H ⟨bo, mm, rfl, rfl⟩ hs
  simp only [DI_int', DB_bool, DS_string, DP_pointer, DSl_slice, DM_map, DA_agg, DTup_tuple, DCons_cons, DNil_nil, NN_some, BIf_true, BIf_false, BIf_same, List.toList_toArray, Bool.not_true, Bool.not_false]
  exact ⟨_, ⟨bo, mm, rfl, rfl⟩, hs.re [0] rfl⟩

end Go.Proofs.YtgkdkemhiglpdaaDoor.Gen

end
section
/-! Wabacistref04 -/
/- Formulas of functions, printed by wip/tools/hwp.py. -/
set_option maxRecDepth 100000
set_option linter.unusedVariables false
namespace Go.Proofs.YtgkdkemhiglpdaaDoor.W
open Go Go.Hw

theorem mixWabacistref04 : Tryd.prog.follows .mixedOrders = true := by kernel_rfl
-- abacistref04.Same
def W_abacistref04_Same.l4 (K : Value → Hp → Prop) : Nat → Option Addr → Nat → Nat → Option Addr → Nat → Nat → Int → Hp → Prop
  | 0, _, _, _, _, _, _, _, _ => False
  | k + 1, A3, n3, m3, A4, n4, m4, x1, H =>
    let R4 := W_abacistref04_Same.l4 K k
    BIf (decide (x1 < ((n3 : Nat) : Int))) (ixI x1 n3 (NN A3 fun a1 => Ld H (a1.add (x1.toNat * 1)) fun v1 => DI .u64 v1 fun x2 => ixI x1 n4 (NN A4 fun a2 => Ld H (a2.add (x1.toNat * 1)) fun v2 => DI .u64 v2 fun x3 => BIf (x2 != x3) (K (.bool false) H) (R4 A3 n3 m3 A4 n4 m4 (IntKind.i64.wrap (x1 + (1 : Int))) H)))) (K (.bool true) H)
def W_abacistref04_Same (A1 : Option Addr) (n1 : Nat) (m1 : Nat) (A2 : Option Addr) (n2 : Nat) (m2 : Nat) (H : Hp) (K : Value → Hp → Prop) : Prop :=
  BIf (((n1 : Nat) : Int) != ((n2 : Nat) : Int)) (K (.bool false) H) ((∃ k, W_abacistref04_Same.l4 K k A1 n1 m1 A2 n2 m2 (0 : Int) H))
def W_abacistref04_Same.l4.L (K : Value → Hp → Prop) (k : Nat) : Mid := fun E D H =>
  DG (E.get? 0) fun w0 => DSl w0 fun A3 n3 m3 => DG (E.get? 1) fun w1 => DSl w1 fun A4 n4 m4 => DG (E.get? 5) fun w5 => DI .i64 w5 fun x1 => DNilD D (W_abacistref04_Same.l4 K k A3 n3 m3 A4 n4 m4 x1 H)
def W_abacistref04_Same.Λ4 (_ : Value → Hp → Prop) (_R4 : Option Addr → Nat → Nat → Option Addr → Nat → Nat → Int → Hp → Prop) : Cuts := Cuts.none (fun _ => none)
def W_abacistref04_Same.Λ (K : Value → Hp → Prop) : Cuts := ⟨fun i => none, fun i => match Nat.beq i 4 with | true => some (fun E D H => ∃ k, W_abacistref04_Same.l4.L K k E D H) | false => none, (fun _ => none)⟩
theorem W_abacistref04_Same.ok (A1 : Option Addr) (n1 : Nat) (m1 : Nat) (A2 : Option Addr) (n2 : Nat) (m2 : Nat) (H : Hp) (K : Value → Hp → Prop) (h : W_abacistref04_Same A1 n1 m1 A2 n2 m2 H K) : HCalls Tryd.prog 21 #[.slice A1 n1 m1, .slice A2 n2 m2] H K :=
  hcalls Tryd.func21 rfl (Nat.le_of_ble_eq_true rfl) (hw_safe (Λ := (W_abacistref04_Same.Λ K)) mixWabacistref04 _ _ _ _ _ (Eq.mp (by kernel_rfl) h) (obs_seq obs_region rfl (obs_seq (obs_seq obs_region rfl (obs_cond (obs_seq obs_region rfl obs_ret) obs_skip)) rfl (obs_seq (obs_seq obs_region rfl (obs_block (obs_loop rfl (fun E D H h => by
      refine Safe.loop' (W_abacistref04_Same.l4.L K) (fun E D H h => ?_) (fun k E D H h => ?_) E D H h
      · obtain ⟨w0, e0, g1⟩ := DG.out h; obtain ⟨A3, n3, m3, rfl, g2⟩ := DSl.out g1; obtain ⟨w1, e1, g3⟩ := DG.out g2; obtain ⟨A4, n4, m4, rfl, g4⟩ := DSl.out g3; obtain ⟨w5, e5, g5⟩ := DG.out g4; obtain ⟨x1, rfl, g6⟩ := DI.out g5; obtain ⟨rfl, h'⟩ := DNilD.out g6; exact h'
      · obtain ⟨w0, e0, g1⟩ := DG.out h
        obtain ⟨A3, n3, m3, rfl, g2⟩ := DSl.out g1
        obtain ⟨w1, e1, g3⟩ := DG.out g2
        obtain ⟨A4, n4, m4, rfl, g4⟩ := DSl.out g3
        obtain ⟨w5, e5, g5⟩ := DG.out g4
        obtain ⟨x1, rfl, g6⟩ := DI.out g5
        obtain ⟨rfl, h'⟩ := DNilD.out g6
        exact (hw_safe (Λ := (W_abacistref04_Same.Λ4 K (W_abacistref04_Same.l4 K k))) mixWabacistref04 _ _ [(0, .slice A3 n3 m3), (1, .slice A4 n4 m4), (5, .int .i64 x1)] [] H (Eq.mp (by kernel_rfl) h') (obs_seq (obs_seq obs_region rfl (obs_cond obs_skip obs_exit)) rfl (obs_seq (obs_block (obs_seq obs_region rfl (obs_cond (obs_seq obs_region rfl obs_ret) obs_skip))) rfl obs_region))).weaken (EnvLe.cons e0 (EnvLe.cons e1 (EnvLe.cons e5 (EnvLe.nil _)))) (Hp.le_refl _))))) rfl (obs_seq obs_region rfl obs_ret)))))

-- abacistref04.Put
def W_abacistref04_Put.l7 (K : Value → Hp → Prop) (R3 : Option Addr → Nat → Nat → ByteArray → Int → Hp → Prop) : Nat → Option Addr → Nat → Nat → ByteArray → Int → Int → Int → Hp → Prop
  | 0, _, _, _, _, _, _, _, _ => False
  | k + 1, A3, n3, m3, s2, x3, x4, x5, H =>
    let R7 := W_abacistref04_Put.l7 K R3 k
    BIf (decide (x5 < (8 : Int))) (((256 : Int) ≠ 0 ∧ IntKind.u64 = IntKind.u64 ∧ Nw H (.row [.int .u8 (IntKind.u8.wrap (Int.tmod x4 (256 : Int)))] 5 1) fun b1 H1 => BsK H1 (some ⟨b1, 0, none⟩) 1 fun s3 => (s2.size + s3.size ≤ 4611686018427387904 ∧ ((256 : Int) ≠ 0 ∧ IntKind.u64 = IntKind.u64 ∧ R7 A3 n3 m3 (s2 ++ s3) x3 (IntKind.u64.wrap (Int.tdiv x4 (256 : Int))) (IntKind.i64.wrap (x5 + (1 : Int))) H1)))) (R3 A3 n3 m3 s2 (IntKind.i64.wrap (x3 + (1 : Int))) H)
def W_abacistref04_Put.l3 (K : Value → Hp → Prop) : Nat → Option Addr → Nat → Nat → ByteArray → Int → Hp → Prop
  | 0, _, _, _, _, _, _ => False
  | k + 1, A2, n2, m2, s1, x1, H =>
    let R3 := W_abacistref04_Put.l3 K k
    BIf (decide (x1 < ((n2 : Nat) : Int))) (ixI x1 n2 (NN A2 fun a1 => Ld H (a1.add (x1.toNat * 1)) fun v1 => DI .u64 v1 fun x2 => (∃ k, W_abacistref04_Put.l7 K R3 k A2 n2 m2 s1 x1 x2 (0 : Int) H))) (K (.string s1) H)
def W_abacistref04_Put (A1 : Option Addr) (n1 : Nat) (m1 : Nat) (H : Hp) (K : Value → Hp → Prop) : Prop :=
  (∃ k, W_abacistref04_Put.l3 K k A1 n1 m1 (⟨#[]⟩) (0 : Int) H)
def W_abacistref04_Put.l3.L (K : Value → Hp → Prop) (k : Nat) : Mid := fun E D H =>
  DG (E.get? 0) fun w0 => DSl w0 fun A2 n2 m2 => DG (E.get? 3) fun w3 => DS w3 fun s1 => DG (E.get? 4) fun w4 => DI .i64 w4 fun x1 => DNilD D (W_abacistref04_Put.l3 K k A2 n2 m2 s1 x1 H)
def W_abacistref04_Put.l7.L (K : Value → Hp → Prop) (R3 : Option Addr → Nat → Nat → ByteArray → Int → Hp → Prop) (k : Nat) : Mid := fun E D H =>
  DG (E.get? 0) fun w0 => DSl w0 fun A3 n3 m3 => DG (E.get? 3) fun w3 => DS w3 fun s2 => DG (E.get? 4) fun w4 => DI .i64 w4 fun x3 => DG (E.get? 5) fun w5 => DI .u64 w5 fun x4 => DG (E.get? 6) fun w6 => DI .i64 w6 fun x5 => DNilD D (W_abacistref04_Put.l7 K R3 k A3 n3 m3 s2 x3 x4 x5 H)
def W_abacistref04_Put.Λ7 (_ : Value → Hp → Prop) (_R3 : Option Addr → Nat → Nat → ByteArray → Int → Hp → Prop) (_R7 : Option Addr → Nat → Nat → ByteArray → Int → Int → Int → Hp → Prop) : Cuts := Cuts.none (fun _ => none)
def W_abacistref04_Put.Λ3 (K : Value → Hp → Prop) (R3 : Option Addr → Nat → Nat → ByteArray → Int → Hp → Prop) : Cuts := ⟨fun i => none, fun i => match Nat.beq i 7 with | true => some (fun E D H => ∃ k, W_abacistref04_Put.l7.L K R3 k E D H) | false => none, (fun _ => none)⟩
def W_abacistref04_Put.Λ (K : Value → Hp → Prop) : Cuts := ⟨fun i => none, fun i => match Nat.beq i 3 with | true => some (fun E D H => ∃ k, W_abacistref04_Put.l3.L K k E D H) | false => none, (fun _ => none)⟩
theorem W_abacistref04_Put.ok (A1 : Option Addr) (n1 : Nat) (m1 : Nat) (H : Hp) (K : Value → Hp → Prop) (h : W_abacistref04_Put A1 n1 m1 H K) : HCalls Tryd.prog 57 #[.slice A1 n1 m1] H K :=
  hcalls Tryd.func57 rfl (Nat.le_of_ble_eq_true rfl) (hw_safe (Λ := (W_abacistref04_Put.Λ K)) mixWabacistref04 _ _ _ _ _ (Eq.mp (by kernel_rfl) h) (obs_seq obs_region rfl (obs_seq obs_region rfl (obs_seq (obs_seq obs_region rfl (obs_block (obs_loop rfl (fun E D H h => by
      refine Safe.loop' (W_abacistref04_Put.l3.L K) (fun E D H h => ?_) (fun k E D H h => ?_) E D H h
      · obtain ⟨w0, e0, g1⟩ := DG.out h; obtain ⟨A2, n2, m2, rfl, g2⟩ := DSl.out g1; obtain ⟨w3, e3, g3⟩ := DG.out g2; obtain ⟨s1, rfl, g4⟩ := DS.out g3; obtain ⟨w4, e4, g5⟩ := DG.out g4; obtain ⟨x1, rfl, g6⟩ := DI.out g5; obtain ⟨rfl, h'⟩ := DNilD.out g6; exact h'
      · obtain ⟨w0, e0, g1⟩ := DG.out h
        obtain ⟨A2, n2, m2, rfl, g2⟩ := DSl.out g1
        obtain ⟨w3, e3, g3⟩ := DG.out g2
        obtain ⟨s1, rfl, g4⟩ := DS.out g3
        obtain ⟨w4, e4, g5⟩ := DG.out g4
        obtain ⟨x1, rfl, g6⟩ := DI.out g5
        obtain ⟨rfl, h'⟩ := DNilD.out g6
        exact (hw_safe (Λ := (W_abacistref04_Put.Λ3 K (W_abacistref04_Put.l3 K k))) mixWabacistref04 _ _ [(0, .slice A2 n2 m2), (3, .string s1), (4, .int .i64 x1)] [] H (Eq.mp (by kernel_rfl) h') (obs_seq (obs_seq obs_region rfl (obs_cond obs_skip obs_exit)) rfl (obs_seq (obs_block (obs_seq obs_region rfl (obs_seq obs_region rfl (obs_block (obs_loop rfl (fun E D H h => by
            refine Safe.loop' (W_abacistref04_Put.l7.L K (W_abacistref04_Put.l3 K k)) (fun E D H h => ?_) (fun k E D H h => ?_) E D H h
            · obtain ⟨w0, e0, g1⟩ := DG.out h; obtain ⟨A3, n3, m3, rfl, g2⟩ := DSl.out g1; obtain ⟨w3, e3, g3⟩ := DG.out g2; obtain ⟨s2, rfl, g4⟩ := DS.out g3; obtain ⟨w4, e4, g5⟩ := DG.out g4; obtain ⟨x3, rfl, g6⟩ := DI.out g5; obtain ⟨w5, e5, g7⟩ := DG.out g6; obtain ⟨x4, rfl, g8⟩ := DI.out g7; obtain ⟨w6, e6, g9⟩ := DG.out g8; obtain ⟨x5, rfl, g10⟩ := DI.out g9; obtain ⟨rfl, h'⟩ := DNilD.out g10; exact h'
            · obtain ⟨w0, e0, g1⟩ := DG.out h
              obtain ⟨A3, n3, m3, rfl, g2⟩ := DSl.out g1
              obtain ⟨w3, e3, g3⟩ := DG.out g2
              obtain ⟨s2, rfl, g4⟩ := DS.out g3
              obtain ⟨w4, e4, g5⟩ := DG.out g4
              obtain ⟨x3, rfl, g6⟩ := DI.out g5
              obtain ⟨w5, e5, g7⟩ := DG.out g6
              obtain ⟨x4, rfl, g8⟩ := DI.out g7
              obtain ⟨w6, e6, g9⟩ := DG.out g8
              obtain ⟨x5, rfl, g10⟩ := DI.out g9
              obtain ⟨rfl, h'⟩ := DNilD.out g10
              exact (hw_safe (Λ := (W_abacistref04_Put.Λ7 K (W_abacistref04_Put.l3 K k) (W_abacistref04_Put.l7 K (W_abacistref04_Put.l3 K k) k))) mixWabacistref04 _ _ [(0, .slice A3 n3 m3), (3, .string s2), (4, .int .i64 x3), (5, .int .u64 x4), (6, .int .i64 x5)] [] H (Eq.mp (by kernel_rfl) h') (obs_seq (obs_seq obs_region rfl (obs_cond obs_skip obs_exit)) rfl (obs_seq (obs_block (obs_seq obs_region rfl obs_region)) rfl obs_region))).weaken (EnvLe.cons e0 (EnvLe.cons e3 (EnvLe.cons e4 (EnvLe.cons e5 (EnvLe.cons e6 (EnvLe.nil _)))))) (Hp.le_refl _))))))) rfl obs_region))).weaken (EnvLe.cons e0 (EnvLe.cons e3 (EnvLe.cons e4 (EnvLe.nil _)))) (Hp.le_refl _))))) rfl (obs_seq obs_region rfl obs_ret)))))

end Go.Proofs.YtgkdkemhiglpdaaDoor.W

end
section
/-! LayJ -/
/- Contracts of the library's functions, laid at this program (printed by lay2.py). -/
set_option maxRecDepth 100000
namespace Go.Proofs.YtgkdkemhiglpdaaDoor.Lib2
open Go Go.Proofs Go.Shelf Go.RowKit
def joinL_ren : Go.Shelf.Ren := ⟨fun | 156 => 110 | 165 => 129 | 166 => 130 | 169 => 131 | 240 => 139 | 241 => 140 | 276 => 142 | 277 => 143 | n => n, fun | 31 => 181 | 9 => 9 | 3 => 3 | 4 => 4 | 0 => 0 | 20 => 20 | 72 => 202 | 76 => 205 | 70 => 200 | 37 => 87 | 75 => 204 | 127 => 215 | 164 => 217 | 5 => 5 | 80 => 207 | n => n, fun | n => n⟩
theorem joinL : Go.Proofs.Lays.n156 Tryd.prog joinL_ren where
  mixed := by kernel_rfl
  f156 := Tryd.func110.trans (congrArg some (by kernel_rfl))
  f165 := Tryd.func129.trans (congrArg some (by kernel_rfl))
  f166 := Tryd.func130.trans (congrArg some (by kernel_rfl))
  f169 := Tryd.func131.trans (congrArg some (by kernel_rfl))
  f240 := Tryd.func139.trans (congrArg some (by kernel_rfl))
  f241 := Tryd.func140.trans (congrArg some (by kernel_rfl))
  f276 := Tryd.func142.trans (congrArg some (by kernel_rfl))
  f277 := Tryd.func143.trans (congrArg some (by kernel_rfl))
  t0 := Tryd.underlying0
  a0 := Tryd.isAgg0
  z0 := Tryd.sizeOf0
  v0 := Tryd.zeroValue0
  t3 := Tryd.underlying3
  a3 := Tryd.isAgg3
  z3 := Tryd.sizeOf3
  v3 := Tryd.zeroValue3
  t4 := Tryd.underlying4
  a4 := Tryd.isAgg4
  z4 := Tryd.sizeOf4
  v4 := Tryd.zeroValue4
  t9 := Tryd.underlying9
  a9 := Tryd.isAgg9
  z9 := Tryd.sizeOf9
  v9 := Tryd.zeroValue9
  t20 := Tryd.underlying20
  a20 := Tryd.isAgg20
  z20 := Tryd.sizeOf20
  v20 := Tryd.zeroValue20
  t31 := Tryd.underlying181
  a31 := Tryd.isAgg181
  z31 := Tryd.sizeOf181
  v31 := Tryd.zeroValue181
  t37 := Tryd.underlying87
  a37 := Tryd.isAgg87
  z37 := Tryd.sizeOf87
  v37 := Tryd.zeroValue87
  t70 := Tryd.underlying200
  a70 := Tryd.isAgg200
  z70 := Tryd.sizeOf200
  v70 := Tryd.zeroValue200
  t72 := Tryd.underlying202
  a72 := Tryd.isAgg202
  z72 := Tryd.sizeOf202
  v72 := Tryd.zeroValue202
  t75 := Tryd.underlying204
  a75 := Tryd.isAgg204
  z75 := Tryd.sizeOf204
  v75 := Tryd.zeroValue204
  t76 := Tryd.underlying205
  a76 := Tryd.isAgg205
  z76 := Tryd.sizeOf205
  v76 := Tryd.zeroValue205
  t127 := Tryd.underlying215
  a127 := Tryd.isAgg215
  z127 := Tryd.sizeOf215
  v127 := Tryd.zeroValue215
  t164 := Tryd.underlying217
  a164 := Tryd.isAgg217
  z164 := Tryd.sizeOf217
  v164 := Tryd.zeroValue217
end Go.Proofs.YtgkdkemhiglpdaaDoor.Lib2

end
section
/-! HwY -/
/- The frame of the proofs: the library's Join. -/
set_option maxRecDepth 100000
set_option linter.unusedSimpArgs false
set_option linter.unusedVariables false
set_option linter.unnecessarySimpa false
set_option linter.unusedSectionVars false
namespace Go.Hw
open Go Go.Proofs Go.Proofs.YtgkdkemhiglpdaaDoor.Lib2 Go.RowKit Go.Shelf

theorem joinX : Builder.Extra Tryd.prog joinL_ren where
  sizeBuilder := by kernel_rfl
  liesBuilder := by kernel_rfl
  t5 := Tryd.underlying5
  a5 := Tryd.isAgg5
  z5 := Tryd.sizeOf5
  v5 := Tryd.zeroValue5
  infoByte := by kernel_rfl
  cellsByte := by kernel_rfl
  sizeByte := by kernel_rfl
  neB5 := by decide

/-- strings.Join. -/
theorem Join_hc {b m mm : Nat} {e : TypeId} {H : Hp} (ss : List ByteArray) (sep : ByteArray) (hb : H b = some (.row (ss.map Value.string) e mm)) (hm : ss.length ≤ m) (hl : ss.length ≤ 140737488355328) (hlen : (Lib.join (ss.map (·.data.toList)) sep.data.toList).length ≤ 140737488355328) :
    HCalls Tryd.prog 110 #[.slice (some ⟨b, 0, none⟩) ss.length m, .string sep] H (RetE (.string ⟨(Lib.join (ss.map (·.data.toList)) sep.data.toList).toArray⟩) H) := fun w hw => by
  have hcell : ∀ (j : Nat) x, ss[j]? = some x → w.cell? ⟨b, 0 + j, none⟩ = some (.string x) := fun j x hj => by
    have h1 : H.cell? ⟨b, j, none⟩ = some (.string x) := by rw [cell_row hb, List.getElem?_map, hj]; rfl
    rw [Nat.zero_add]
    exact Fits.cell? hw h1
  have hbk : b < w.heap.size := by
    obtain ⟨o', h1, _⟩ := hw _ _ hb
    exact (Array.getElem?_eq_some_iff.1 h1).1
  refine (Any.strings_Join joinL joinX b 0 m ss sep w hcell hbk hl hm hlen).mono ?_
  rintro e' w' ⟨rfl, hbel⟩
  refine ⟨_, H, rfl, ⟨rfl, rfl⟩, ?_⟩
  exact ⟨fun i o hi => by
    obtain ⟨o', h1, h2⟩ := hw i o hi
    exact ⟨o', (hbel.block i (Array.getElem?_eq_some_iff.1 h1).1).trans h1, h2⟩, hbel.size, hbel.os, hbel.tape, hbel.output, fun i hi h0 => ⟨h0, hbel.block i hi⟩⟩

/-- What is appended to has room for it. -/
theorem AppK_cap {P : Program} {e : TypeId} {s x : Value} {H : Hp} {K : Value → Hp → Prop} (h : AppK P e s x H fun v H' => (∀ A n m, v = .slice A n m → n ≤ m) → K v H') : AppK P e s x H K := by
  unfold AppK at h ⊢
  split at h
  · split at h
    · obtain ⟨n, ys, h1, h2, h3, h4, h5, h6, h7, h8, h9⟩ := h
      refine ⟨n, ys, h1, h2, h3, h4, h5, h6, h7, h8, h9.imp ?_ ?_⟩
      · rintro ⟨e1, e2, e3, k0, k⟩
        refine ⟨e1, e2, e3, fun h0 => k0 h0 (fun A n m e => by cases e; exact Nat.le_refl _), fun hp c hc b hb => k hp c hc b hb (fun A n m e => by cases e; exact hc)⟩
      · rintro ⟨b0, xs, m, e1, e2, e3, e4, k⟩
        exact ⟨b0, xs, m, e1, e2, e3, e4, fun c m' hc hl b hb => k c m' hc hl b hb (fun A n m e => by cases e; exact hl)⟩
    · exact h
  · exact h
theorem Nw_cap {P : Program} {e : TypeId} {s : Value} {x : Nat → Value} {H : Hp} {o : AO} {K : Value → Hp → Prop} (h : Nw H o fun b H' => AppK P e s (x b) H' fun v H' => (∀ A n m, v = .slice A n m → n ≤ m) → K v H') : Nw H o fun b H' => AppK P e s (x b) H' K := fun b hb => AppK_cap (h b hb)

end Go.Hw

end
section
/-! GenD -/
/- The reference's rows of words; equal words. -/
set_option maxRecDepth 100000
set_option linter.unusedSimpArgs false
set_option linter.unusedVariables false
set_option linter.unnecessarySimpa false
set_option linter.unusedSectionVars false
namespace Go.Proofs.YtgkdkemhiglpdaaDoor.Gen
open Go Go.Hw Go.Proofs.YtgkdkemhiglpdaaDoor.W Go.Proofs.YtgkdkemhiglpdaaDoor.Gol

/-- The word ahead of the i-th. -/
def ahead (k : Int) (a b c : Nat) : Nat → Nat
  | 0 => a
  | i + 1 => val k a b c i
theorem vals_succ (k : Int) (a b c n : Nat) : vals k a b c 0 (n + 1) = vals k a b c 0 n ++ [val k a b c n] := by
  unfold vals
  rw [List.range_succ, List.map_append]
  simp

theorem rRow_loop (K : Value → Hp → Prop) {k : Int} {a b c n : Nat} (hg : goodR k a b c = true) (hn : n ≤ 1000000) {b1 : Nat}
    (hK : ∀ A m H, n ≤ m → Sep [pts b1 (ruleO k a b c), Own 22 1 A n m (natV (vals k a b c 0 n))] H → K (.slice A n m) H) :
    ∀ (t i : Nat) (A : Option Addr) (m : Nat) (H : Hp), i + t = n → i ≤ m → Sep [pts b1 (ruleO k a b c), Own 22 1 A i m (natV (vals k a b c 0 i))] H →
      W_abacistref38_Row.l4 K (t + 1) (n : Int) ⟨b1, 0, none⟩ A i m ((ahead k a b c i : Nat) : Int) (i : Int) H
  | 0, i, A, m, H, hi, him, hs => by
    obtain rfl : i = n := by omega
    unfold W_abacistref38_Row.l4
    exact BIf_dneg (by omega) (hK A m H him hs)
  | t + 1, i, A, m, H, hi, him, hs => by
    obtain ⟨h1, h5, ha, hb, hc, _⟩ := goodR_of hg
    have hpos : ∀ x, x % 18446744069414584321 < 18446744069414584321 := fun x => Nat.mod_lt x (Nat.zero_lt_succ _)
    have stp : ∀ (v : Nat), v = val k a b c i → Nw H (.row [.int .u64 (v : Int)] 22 1) fun b2 H2 => AppK Tryd.prog 22 (.slice A i m) (.slice (some ⟨b2, 0, none⟩) 1 1) H2 fun v28 H14 => DSl v28 fun A2 n2 m2 => W_abacistref38_Row.l4 K (t + 1) (n : Int) ⟨b1, 0, none⟩ A2 n2 m2 (v : Int) (IntKind.i64.wrap ((i : Int) + (1 : Int))) H14 := fun v hv => by
      refine Nw_cap ?_
      refine hs.app1 1 rfl cell_u64 (by omega) rfl (by omega) (by omega) fun A' m' H hs hcap => ?_
      simp only [DI_int', DB_bool, DS_string, DP_pointer, DSl_slice, DM_map, DA_agg, DTup_tuple, DCons_cons, DNil_nil, NN_some, BIf_true, BIf_false, BIf_same, List.toList_toArray, Bool.not_true, Bool.not_false]
      rw [i64w (x := (i : Int) + 1) (by omega) (by omega), show (i : Int) + 1 = ((i + 1 : Nat) : Int) by omega]
      have := rRow_loop K hg hn hK t (i + 1) A' m' H (by omega) (hcap _ _ _ rfl) (by
        rw [vals_succ, ← hv, show natV (vals k a b c 0 i ++ [v]) = natV (vals k a b c 0 i) ++ [.int .u64 (v : Int)] by unfold natV; rw [List.map_append]; rfl]
        exact hs)
      have e : ahead k a b c (i + 1) = v := hv.symm
      rw [e] at this
      exact this
    have hi2 : IntKind.u64.wrap (i : Int) = (i : Int) := u64n (by omega)
    unfold W_abacistref38_Row.l4
    refine BIf_dpos (by omega) ?_
    rw [hi2]
    first | refine hs.ldf 0 rfl rfl ?_ | refine hs.ldg 0 rfl rfl ?_
    try simp only [DI_int', DB_bool, DS_string, DP_pointer, DSl_slice, DM_map, DA_agg, DTup_tuple, DCons_cons, DNil_nil, NN_some, BIf_true, BIf_false, BIf_same, List.toList_toArray, Bool.not_true, Bool.not_false]
    by_cases k2 : k = 2
    · refine BIf_beqp k2 ?_
      first | refine hs.ldf 0 rfl rfl ?_ | refine hs.ldg 0 rfl rfl ?_
      try simp only [DI_int', DB_bool, DS_string, DP_pointer, DSl_slice, DM_map, DA_agg, DTup_tuple, DCons_cons, DNil_nil, NN_some, BIf_true, BIf_false, BIf_same, List.toList_toArray, Bool.not_true, Bool.not_false]
      first | refine hs.ldf 0 rfl rfl ?_ | refine hs.ldg 0 rfl rfl ?_
      try simp only [DI_int', DB_bool, DS_string, DP_pointer, DSl_slice, DM_map, DA_agg, DTup_tuple, DCons_cons, DNil_nil, NN_some, BIf_true, BIf_false, BIf_same, List.toList_toArray, Bool.not_true, Bool.not_false]
      refine QCall.use (rMul_ok (a := b) (b := i) (by omega) H) ?_
      simp only [DI_int', DB_bool, DS_string, DP_pointer, DSl_slice, DM_map, DA_agg, DTup_tuple, DCons_cons, DNil_nil, NN_some, BIf_true, BIf_false, BIf_same, List.toList_toArray, Bool.not_true, Bool.not_false]
      refine QCall.use (rAdd_ok (a := a) (b := b * i % 18446744069414584321) H) ?_
      simp only [DI_int', DB_bool, DS_string, DP_pointer, DSl_slice, DM_map, DA_agg, DTup_tuple, DCons_cons, DNil_nil, NN_some, BIf_true, BIf_false, BIf_same, List.toList_toArray, Bool.not_true, Bool.not_false]
      exact stp _ (by unfold val; rw [if_neg (by omega), if_pos k2, mod_add_r])
    refine BIf_beqn k2 ?_
    by_cases k3 : k = 3
    · refine BIf_beqp k3 ?_
      first | refine hs.ldf 0 rfl rfl ?_ | refine hs.ldg 0 rfl rfl ?_
      try simp only [DI_int', DB_bool, DS_string, DP_pointer, DSl_slice, DM_map, DA_agg, DTup_tuple, DCons_cons, DNil_nil, NN_some, BIf_true, BIf_false, BIf_same, List.toList_toArray, Bool.not_true, Bool.not_false]
      first | refine hs.ldf 0 rfl rfl ?_ | refine hs.ldg 0 rfl rfl ?_
      try simp only [DI_int', DB_bool, DS_string, DP_pointer, DSl_slice, DM_map, DA_agg, DTup_tuple, DCons_cons, DNil_nil, NN_some, BIf_true, BIf_false, BIf_same, List.toList_toArray, Bool.not_true, Bool.not_false]
      have q := hpos (b ^ i)
      refine QCall.use (rPow_ok (a := b) (n := i) (by omega) H) ?_
      simp only [DI_int', DB_bool, DS_string, DP_pointer, DSl_slice, DM_map, DA_agg, DTup_tuple, DCons_cons, DNil_nil, NN_some, BIf_true, BIf_false, BIf_same, List.toList_toArray, Bool.not_true, Bool.not_false]
      refine QCall.use (rMul_ok (a := a) (b := b ^ i % 18446744069414584321) (by omega) H) ?_
      simp only [DI_int', DB_bool, DS_string, DP_pointer, DSl_slice, DM_map, DA_agg, DTup_tuple, DCons_cons, DNil_nil, NN_some, BIf_true, BIf_false, BIf_same, List.toList_toArray, Bool.not_true, Bool.not_false]
      exact stp _ (by unfold val; rw [if_neg (by omega), if_neg k2, if_pos k3, mod_mul_r])
    refine BIf_beqn k3 ?_
    by_cases k4 : k = 4
    · refine BIf_beqp k4 ?_
      by_cases hi0 : i = 0
      · subst hi0
        refine BIf_dneg (by omega) ?_
        refine stp _ ?_
        show a = val k a b c 0
        unfold val
        rw [if_neg (by omega), if_neg k2, if_neg k3, if_pos k4, Nat.pow_zero, Nat.mul_one]
        show a = (a + c * 0) % 18446744069414584321
        rw [Nat.mul_zero, Nat.add_zero, Nat.mod_eq_of_lt ha]
      · refine BIf_dpos (by omega) ?_
        obtain ⟨i', rfl⟩ : ∃ i', i = i' + 1 := ⟨i - 1, by omega⟩
        have q := val_lt (k := k) (b := b) (c := c) (i := i') ha
        first | refine hs.ldf 0 rfl rfl ?_ | refine hs.ldg 0 rfl rfl ?_
        try simp only [DI_int', DB_bool, DS_string, DP_pointer, DSl_slice, DM_map, DA_agg, DTup_tuple, DCons_cons, DNil_nil, NN_some, BIf_true, BIf_false, BIf_same, List.toList_toArray, Bool.not_true, Bool.not_false]
        refine QCall.use (rMul_ok (a := b) (b := val k a b c i') (by omega) H) ?_
        simp only [DI_int', DB_bool, DS_string, DP_pointer, DSl_slice, DM_map, DA_agg, DTup_tuple, DCons_cons, DNil_nil, NN_some, BIf_true, BIf_false, BIf_same, List.toList_toArray, Bool.not_true, Bool.not_false]
        first | refine hs.ldf 0 rfl rfl ?_ | refine hs.ldg 0 rfl rfl ?_
        try simp only [DI_int', DB_bool, DS_string, DP_pointer, DSl_slice, DM_map, DA_agg, DTup_tuple, DCons_cons, DNil_nil, NN_some, BIf_true, BIf_false, BIf_same, List.toList_toArray, Bool.not_true, Bool.not_false]
        refine QCall.use (rAdd_ok (a := b * val k a b c i' % 18446744069414584321) (b := c) H) ?_
        simp only [DI_int', DB_bool, DS_string, DP_pointer, DSl_slice, DM_map, DA_agg, DTup_tuple, DCons_cons, DNil_nil, NN_some, BIf_true, BIf_false, BIf_same, List.toList_toArray, Bool.not_true, Bool.not_false]
        refine stp _ ?_
        unfold val
        rw [if_neg (by omega), if_neg k2, if_neg k3, if_pos k4, if_neg (by omega), if_neg k2, if_neg k3, if_pos k4, mod_mul_r, mod_add_l, Nat.mul_add, Nat.mul_left_comm b a, Nat.mul_comm b (b ^ i'), ← Nat.pow_succ, Nat.mul_left_comm b c]
        show _ = (a * b ^ (i' + 1) + c * (b * geo b i' + 1)) % 18446744069414584321
        rw [Nat.mul_add, Nat.mul_one, Nat.add_assoc]
    refine BIf_beqn k4 ?_
    by_cases k5 : k = 5
    · have hval : val k a b c i = if pulse b c i = true then a else 0 := by
        unfold val; rw [if_neg (by omega), if_neg k2, if_neg k3, if_neg k4]
      refine BIf_beqp k5 ?_
      first | refine hs.ldf 0 rfl rfl ?_ | refine hs.ldg 0 rfl rfl ?_
      try simp only [DI_int', DB_bool, DS_string, DP_pointer, DSl_slice, DM_map, DA_agg, DTup_tuple, DCons_cons, DNil_nil, NN_some, BIf_true, BIf_false, BIf_same, List.toList_toArray, Bool.not_true, Bool.not_false]
      by_cases hc0 : c = 0
      · refine BIf_beqp (by omega) ?_
        first | refine hs.ldf 0 rfl rfl ?_ | refine hs.ldg 0 rfl rfl ?_
        try simp only [DI_int', DB_bool, DS_string, DP_pointer, DSl_slice, DM_map, DA_agg, DTup_tuple, DCons_cons, DNil_nil, NN_some, BIf_true, BIf_false, BIf_same, List.toList_toArray, Bool.not_true, Bool.not_false]
        by_cases hib : i = b
        · refine BIf_beqp (by omega) ?_
          first | refine hs.ldf 0 rfl rfl ?_ | refine hs.ldg 0 rfl rfl ?_
          try simp only [DI_int', DB_bool, DS_string, DP_pointer, DSl_slice, DM_map, DA_agg, DTup_tuple, DCons_cons, DNil_nil, NN_some, BIf_true, BIf_false, BIf_same, List.toList_toArray, Bool.not_true, Bool.not_false]
          refine stp _ ?_
          rw [hval, if_pos (by unfold pulse; rw [if_pos hc0, hib]; simp)]
        · refine BIf_beqn (by omega) ?_
          first | refine hs.ldf 0 rfl rfl ?_ | refine hs.ldg 0 rfl rfl ?_
          try simp only [DI_int', DB_bool, DS_string, DP_pointer, DSl_slice, DM_map, DA_agg, DTup_tuple, DCons_cons, DNil_nil, NN_some, BIf_true, BIf_false, BIf_same, List.toList_toArray, Bool.not_true, Bool.not_false]
          refine BIf_dneg (by omega) ?_
          refine stp 0 ?_
          rw [hval, if_neg (by unfold pulse; rw [if_pos hc0]; simpa using hib)]
      · refine BIf_beqn (by omega) ?_
        first | refine hs.ldf 0 rfl rfl ?_ | refine hs.ldg 0 rfl rfl ?_
        try simp only [DI_int', DB_bool, DS_string, DP_pointer, DSl_slice, DM_map, DA_agg, DTup_tuple, DCons_cons, DNil_nil, NN_some, BIf_true, BIf_false, BIf_same, List.toList_toArray, Bool.not_true, Bool.not_false]
        refine BIf_dpos (by omega) ?_
        first | refine hs.ldf 0 rfl rfl ?_ | refine hs.ldg 0 rfl rfl ?_
        try simp only [DI_int', DB_bool, DS_string, DP_pointer, DSl_slice, DM_map, DA_agg, DTup_tuple, DCons_cons, DNil_nil, NN_some, BIf_true, BIf_false, BIf_same, List.toList_toArray, Bool.not_true, Bool.not_false]
        refine ⟨by omega, by simp, ?_⟩
        first | refine hs.ldf 0 rfl rfl ?_ | refine hs.ldg 0 rfl rfl ?_
        try simp only [DI_int', DB_bool, DS_string, DP_pointer, DSl_slice, DM_map, DA_agg, DTup_tuple, DCons_cons, DNil_nil, NN_some, BIf_true, BIf_false, BIf_same, List.toList_toArray, Bool.not_true, Bool.not_false]
        first | refine hs.ldf 0 rfl rfl ?_ | refine hs.ldg 0 rfl rfl ?_
        try simp only [DI_int', DB_bool, DS_string, DP_pointer, DSl_slice, DM_map, DA_agg, DTup_tuple, DCons_cons, DNil_nil, NN_some, BIf_true, BIf_false, BIf_same, List.toList_toArray, Bool.not_true, Bool.not_false]
        refine ⟨by omega, by simp, ?_⟩
        rw [show Int.tmod (i : Int) (c : Int) = ((i % c : Nat) : Int) from rfl, show Int.tmod (b : Int) (c : Int) = ((b % c : Nat) : Int) from rfl]
        by_cases hm : i % c = b % c
        · refine BIf_beqp (by rw [hm]) ?_
          first | refine hs.ldf 0 rfl rfl ?_ | refine hs.ldg 0 rfl rfl ?_
          try simp only [DI_int', DB_bool, DS_string, DP_pointer, DSl_slice, DM_map, DA_agg, DTup_tuple, DCons_cons, DNil_nil, NN_some, BIf_true, BIf_false, BIf_same, List.toList_toArray, Bool.not_true, Bool.not_false]
          refine stp _ ?_
          rw [hval, if_pos (by unfold pulse; rw [if_neg hc0, hm]; simp)]
        · refine BIf_beqn (fun e => hm (Int.ofNat.inj e)) ?_
          refine stp 0 ?_
          rw [hval, if_neg (by unfold pulse; rw [if_neg hc0]; simpa using hm)]
    refine BIf_beqn k5 ?_
    obtain rfl : k = 1 := by omega
    refine stp _ ?_
    cases i with
    | zero => rfl
    | succ i => rfl

theorem rRow_tr {k : Int} {a b c n : Nat} (hg : goodR k a b c = true) (hn : n ≤ 1000000) :
    Tr Tryd.prog 31 #[.agg #[.int .i64 k, .int .u64 (a : Int), .int .u64 (b : Int), .int .u64 (c : Int)], .int .i64 (n : Int)] [] fun v M =>
      ∃ A m, n ≤ m ∧ v = .slice A n m ∧ M = [Own 22 1 A n m (natV (vals k a b c 0 n))] := fun H hs => by
  apply W_abacistref38_Row.ok
  unfold W_abacistref38_Row
  refine hs.nw fun b1 H hs => ?_
  first | refine hs.ldf 0 rfl rfl ?_ | refine hs.ldg 0 rfl rfl ?_
  try simp only [DI_int', DB_bool, DS_string, DP_pointer, DSl_slice, DM_map, DA_agg, DTup_tuple, DCons_cons, DNil_nil, NN_some, BIf_true, BIf_false, BIf_same, List.toList_toArray, Bool.not_true, Bool.not_false]
  refine ⟨n + 1, ?_⟩
  have e0 : Sep [pts b1 (ruleO k a b c), Own 22 1 none 0 0 (natV (vals k a b c 0 0))] H := by
    have : Sep (Own 22 1 none 0 0 [] :: [pts b1 (ruleO k a b c)]) H := ⟨fun _ => none, H, fun _ _ h => (nomatch h), Hp.le_refl _, fun _ => .inl rfl, Own.none _ _ _, hs⟩
    exact this.re [1, 0] rfl
  refine rRow_loop _ hg hn (fun A m H hm hs => ?_) n 0 none 0 H (by omega) (Nat.le_refl _) e0
  exact ⟨_, ⟨A, m, hm, rfl, rfl⟩, hs.re [1] rfl⟩

theorem Same_loop (H : Hp) (A B : Option Addr) (n m m' : Nat) (ws : List Nat) (hn : n = ws.length) (hl : n ≤ 1000000000) (ha : Cells H A (natV ws)) (hb : Cells H B (natV ws)) :
    ∀ (t i : Nat), i + t = n → W_abacistref04_Same.l4 (RetE (.bool true) H) (t + 1) A n m B n m' (i : Int) H
  | 0, i, h => by
    unfold W_abacistref04_Same.l4
    exact BIf_dneg (by omega) (RetE.mk _ _)
  | t + 1, i, h => by
    unfold W_abacistref04_Same.l4
    refine BIf_dpos (by omega) ?_
    have hg : (natV ws)[i]? = some (.int .u64 ((ws[i]'(by omega) : Nat) : Int)) := by
      rw [natV_get, List.getElem?_eq_getElem (by omega)]; rfl
    refine ha.read hg rfl (by rw [natV_length]; omega) ?_
    simp only [DI_int', DB_bool, DS_string, DP_pointer, DSl_slice, DM_map, DA_agg, DTup_tuple, DCons_cons, DNil_nil, NN_some, BIf_true, BIf_false, BIf_same, List.toList_toArray, Bool.not_true, Bool.not_false]
    refine hb.read hg rfl (by rw [natV_length]; omega) ?_
    simp only [DI_int', DB_bool, DS_string, DP_pointer, DSl_slice, DM_map, DA_agg, DTup_tuple, DCons_cons, DNil_nil, NN_some, BIf_true, BIf_false, BIf_same, List.toList_toArray, Bool.not_true, Bool.not_false]
    refine BIf_bnen rfl ?_
    rw [i64w (x := (i : Int) + 1) (by omega) (by omega)]
    exact Same_loop H A B n m m' ws hn hl ha hb t (i + 1) (by omega)
theorem Same_ok (A B : Option Addr) (n m m' : Nat) (ws : List Nat) (hn : n = ws.length) (hl : n ≤ 1000000000) (H : Hp) (ha : Cells H A (natV ws)) (hb : Cells H B (natV ws)) :
    HCalls Tryd.prog 21 #[.slice A n m, .slice B n m'] H (RetE (.bool true) H) := by
  apply W_abacistref04_Same.ok
  unfold W_abacistref04_Same
  refine BIf_bnen rfl ⟨n + 1, ?_⟩
  exact Same_loop H A B n m m' ws hn hl ha hb n 0 (by omega)

end Go.Proofs.YtgkdkemhiglpdaaDoor.Gen

end
section
/-! Wlstrconv -/
/- Formulas of functions, printed by wip/tools/hwp.py. -/
set_option maxRecDepth 100000
set_option linter.unusedVariables false
namespace Go.Proofs.YtgkdkemhiglpdaaDoor.W
open Go Go.Hw

theorem mixWlstrconv : Tryd.prog.follows .mixedOrders = true := by kernel_rfl
-- strconv.FormatUint
def W_strconv_FormatUint (x1 : Int) (x2 : Int) (H : Hp) (K : Value → Hp → Prop) : Prop :=
  HCalls Tryd.prog 102 #[.int .u64 x1, .int .i64 x2] H fun v1 H1 => DS v1 fun s1 => K (.string s1) H1
def W_strconv_FormatUint.Λ (_ : Value → Hp → Prop) : Cuts := Cuts.none (fun _ => none)
theorem W_strconv_FormatUint.ok (x1 : Int) (x2 : Int) (H : Hp) (K : Value → Hp → Prop) (h : W_strconv_FormatUint x1 x2 H K) : HCalls Tryd.prog 74 #[.int .u64 x1, .int .i64 x2] H K :=
  hcalls Tryd.func74 rfl (Nat.le_of_ble_eq_true rfl) (hw_safe (Λ := Cuts.none (fun _ => none)) mixWlstrconv _ _ _ _ _ (Eq.mp (by kernel_rfl) h) (obs_none _ _ _ _ _))

-- internal/strconv.FormatUint
def W_internal_strconv_FormatUint (x1 : Int) (x2 : Int) (H : Hp) (K : Value → Hp → Prop) : Prop :=
  BIf (x2 == (10 : Int)) (BIf (decide (x1 < (100 : Int))) (HCalls Tryd.prog 119 #[.int .i64 (IntKind.i64.wrap x1)] H fun v1 H1 => DS v1 fun s1 => K (.string s1) H1) (Nw H (.obj (.cells #[.int .u8 (0 : Int), .int .u8 (0 : Int), .int .u8 (0 : Int), .int .u8 (0 : Int), .int .u8 (0 : Int), .int .u8 (0 : Int), .int .u8 (0 : Int), .int .u8 (0 : Int), .int .u8 (0 : Int), .int .u8 (0 : Int), .int .u8 (0 : Int), .int .u8 (0 : Int), .int .u8 (0 : Int), .int .u8 (0 : Int), .int .u8 (0 : Int), .int .u8 (0 : Int), .int .u8 (0 : Int), .int .u8 (0 : Int), .int .u8 (0 : Int), .int .u8 (0 : Int), .int .u8 (0 : Int), .int .u8 (0 : Int), .int .u8 (0 : Int), .int .u8 (0 : Int)] 191)) fun b1 H2 => HCalls Tryd.prog 120 #[.int .u64 x1] H2 fun v2 H3 => DI .i64 v2 fun x3 => slB 24 24 none (some x3) fun n1 n2 => HCalls Tryd.prog 121 #[.slice (slA (some (⟨b1, 0, none⟩ : Addr)) 24 n1 1) (n2 - n1) (24 - n1), .int .u64 x1] H3 fun v3 H4 => slB 24 24 none (some x3) fun n3 n4 => BsK H4 (slA (some (⟨b1, 0, none⟩ : Addr)) 24 n3 1) (n4 - n3) fun s2 => K (.string s2) H4)) (HCalls Tryd.prog 122 #[.slice none 0 0, .int .u64 x1, .int .i64 x2, .bool false, .bool false] H fun v4 H5 => DTup v4 fun l1 => DCons l1 fun v5 l2 => DSl v5 fun A1 n5 m1 => DCons l2 fun v6 l3 => DS v6 fun s3 => DNil l3 (K (.string s3) H5))
def W_internal_strconv_FormatUint.Λ (_ : Value → Hp → Prop) : Cuts := Cuts.none (fun _ => none)
theorem W_internal_strconv_FormatUint.ok (x1 : Int) (x2 : Int) (H : Hp) (K : Value → Hp → Prop) (h : W_internal_strconv_FormatUint x1 x2 H K) : HCalls Tryd.prog 102 #[.int .u64 x1, .int .i64 x2] H K :=
  hcalls Tryd.func102 rfl (Nat.le_of_ble_eq_true rfl) (hw_safe (Λ := Cuts.none (fun _ => none)) mixWlstrconv _ _ _ _ _ (Eq.mp (by kernel_rfl) h) (obs_none _ _ _ _ _))

-- internal/strconv.small
def W_internal_strconv_small (x1 : Int) (H : Hp) (K : Value → Hp → Prop) : Prop :=
  BIf (decide (x1 < (10 : Int))) (slB (((⟨#[48, 49, 50, 51, 52, 53, 54, 55, 56, 57, 97, 98, 99, 100, 101, 102, 103, 104, 105, 106, 107, 108, 109, 110, 111, 112, 113, 114, 115, 116, 117, 118, 119, 120, 121, 122]⟩) : ByteArray).size) (((⟨#[48, 49, 50, 51, 52, 53, 54, 55, 56, 57, 97, 98, 99, 100, 101, 102, 103, 104, 105, 106, 107, 108, 109, 110, 111, 112, 113, 114, 115, 116, 117, 118, 119, 120, 121, 122]⟩) : ByteArray).size) (some x1) (some (IntKind.i64.wrap (x1 + (1 : Int)))) fun n1 n2 => K (.string (((⟨#[48, 49, 50, 51, 52, 53, 54, 55, 56, 57, 97, 98, 99, 100, 101, 102, 103, 104, 105, 106, 107, 108, 109, 110, 111, 112, 113, 114, 115, 116, 117, 118, 119, 120, 121, 122]⟩) : ByteArray).extract n1 n2)) H) (slB (((⟨#[48, 48, 48, 49, 48, 50, 48, 51, 48, 52, 48, 53, 48, 54, 48, 55, 48, 56, 48, 57, 49, 48, 49, 49, 49, 50, 49, 51, 49, 52, 49, 53, 49, 54, 49, 55, 49, 56, 49, 57, 50, 48, 50, 49, 50, 50, 50, 51, 50, 52, 50, 53, 50, 54, 50, 55, 50, 56, 50, 57, 51, 48, 51, 49, 51, 50, 51, 51, 51, 52, 51, 53, 51, 54, 51, 55, 51, 56, 51, 57, 52, 48, 52, 49, 52, 50, 52, 51, 52, 52, 52, 53, 52, 54, 52, 55, 52, 56, 52, 57, 53, 48, 53, 49, 53, 50, 53, 51, 53, 52, 53, 53, 53, 54, 53, 55, 53, 56, 53, 57, 54, 48, 54, 49, 54, 50, 54, 51, 54, 52, 54, 53, 54, 54, 54, 55, 54, 56, 54, 57, 55, 48, 55, 49, 55, 50, 55, 51, 55, 52, 55, 53, 55, 54, 55, 55, 55, 56, 55, 57, 56, 48, 56, 49, 56, 50, 56, 51, 56, 52, 56, 53, 56, 54, 56, 55, 56, 56, 56, 57, 57, 48, 57, 49, 57, 50, 57, 51, 57, 52, 57, 53, 57, 54, 57, 55, 57, 56, 57, 57]⟩) : ByteArray).size) (((⟨#[48, 48, 48, 49, 48, 50, 48, 51, 48, 52, 48, 53, 48, 54, 48, 55, 48, 56, 48, 57, 49, 48, 49, 49, 49, 50, 49, 51, 49, 52, 49, 53, 49, 54, 49, 55, 49, 56, 49, 57, 50, 48, 50, 49, 50, 50, 50, 51, 50, 52, 50, 53, 50, 54, 50, 55, 50, 56, 50, 57, 51, 48, 51, 49, 51, 50, 51, 51, 51, 52, 51, 53, 51, 54, 51, 55, 51, 56, 51, 57, 52, 48, 52, 49, 52, 50, 52, 51, 52, 52, 52, 53, 52, 54, 52, 55, 52, 56, 52, 57, 53, 48, 53, 49, 53, 50, 53, 51, 53, 52, 53, 53, 53, 54, 53, 55, 53, 56, 53, 57, 54, 48, 54, 49, 54, 50, 54, 51, 54, 52, 54, 53, 54, 54, 54, 55, 54, 56, 54, 57, 55, 48, 55, 49, 55, 50, 55, 51, 55, 52, 55, 53, 55, 54, 55, 55, 55, 56, 55, 57, 56, 48, 56, 49, 56, 50, 56, 51, 56, 52, 56, 53, 56, 54, 56, 55, 56, 56, 56, 57, 57, 48, 57, 49, 57, 50, 57, 51, 57, 52, 57, 53, 57, 54, 57, 55, 57, 56, 57, 57]⟩) : ByteArray).size) (some (IntKind.i64.wrap (x1 * (2 : Int)))) (some (IntKind.i64.wrap ((IntKind.i64.wrap (x1 * (2 : Int))) + (2 : Int)))) fun n3 n4 => K (.string (((⟨#[48, 48, 48, 49, 48, 50, 48, 51, 48, 52, 48, 53, 48, 54, 48, 55, 48, 56, 48, 57, 49, 48, 49, 49, 49, 50, 49, 51, 49, 52, 49, 53, 49, 54, 49, 55, 49, 56, 49, 57, 50, 48, 50, 49, 50, 50, 50, 51, 50, 52, 50, 53, 50, 54, 50, 55, 50, 56, 50, 57, 51, 48, 51, 49, 51, 50, 51, 51, 51, 52, 51, 53, 51, 54, 51, 55, 51, 56, 51, 57, 52, 48, 52, 49, 52, 50, 52, 51, 52, 52, 52, 53, 52, 54, 52, 55, 52, 56, 52, 57, 53, 48, 53, 49, 53, 50, 53, 51, 53, 52, 53, 53, 53, 54, 53, 55, 53, 56, 53, 57, 54, 48, 54, 49, 54, 50, 54, 51, 54, 52, 54, 53, 54, 54, 54, 55, 54, 56, 54, 57, 55, 48, 55, 49, 55, 50, 55, 51, 55, 52, 55, 53, 55, 54, 55, 55, 55, 56, 55, 57, 56, 48, 56, 49, 56, 50, 56, 51, 56, 52, 56, 53, 56, 54, 56, 55, 56, 56, 56, 57, 57, 48, 57, 49, 57, 50, 57, 51, 57, 52, 57, 53, 57, 54, 57, 55, 57, 56, 57, 57]⟩) : ByteArray).extract n3 n4)) H)
def W_internal_strconv_small.Λ (_ : Value → Hp → Prop) : Cuts := Cuts.none (fun _ => none)
theorem W_internal_strconv_small.ok (x1 : Int) (H : Hp) (K : Value → Hp → Prop) (h : W_internal_strconv_small x1 H K) : HCalls Tryd.prog 119 #[.int .i64 x1] H K :=
  hcalls Tryd.func119 rfl (Nat.le_of_ble_eq_true rfl) (hw_safe (Λ := Cuts.none (fun _ => none)) mixWlstrconv _ _ _ _ _ (Eq.mp (by kernel_rfl) h) (obs_none _ _ _ _ _))

-- internal/strconv.numDigits
def W_internal_strconv_numDigits (x1 : Int) (H : Hp) (K : Value → Hp → Prop) : Prop :=
  HCalls Tryd.prog 134 #[.int .u64 x1] H fun v1 H1 => DI .i64 v1 fun x2 => HCalls Tryd.prog 133 #[.int .i64 x2] H1 fun v2 H2 => DI .i64 v2 fun x3 => ixI x3 20 (Ld H2 ((⟨3, 0, none⟩ : Addr).add (x3.toNat * 1)) fun v3 => DI .u64 v3 fun x4 => HCalls Tryd.prog 135 #[.bool (decide (x1 ≥ x4))] H2 fun v4 H3 => DI .i64 v4 fun x5 => K (.int .i64 (IntKind.i64.wrap (x3 + x5))) H3)
def W_internal_strconv_numDigits.Λ (_ : Value → Hp → Prop) : Cuts := Cuts.none (fun _ => none)
theorem W_internal_strconv_numDigits.ok (x1 : Int) (H : Hp) (K : Value → Hp → Prop) (h : W_internal_strconv_numDigits x1 H K) : HCalls Tryd.prog 120 #[.int .u64 x1] H K :=
  hcalls Tryd.func120 rfl (Nat.le_of_ble_eq_true rfl) (hw_safe (Λ := Cuts.none (fun _ => none)) mixWlstrconv _ _ _ _ _ (Eq.mp (by kernel_rfl) h) (obs_none _ _ _ _ _))

-- internal/strconv.formatBase10
def W_internal_strconv_formatBase10.j25 (K : Value → Hp → Prop) (A4 : Option Addr) (n4 : Nat) (m4 : Nat) (x20 : Int) (x21 : Int) (H : Hp) : Prop :=
  BIf (decide (x20 > (0 : Int))) (ixI (0 : Int) n4 (NN A4 fun a15 => St H ((a15.add ((0 : Int).toNat * 1)).add 0) (.int .u8 (IntKind.u8.wrap (IntKind.u32.wrap ((48 : Int) + x21)))) fun H15 => K (.tuple #[]) H15)) (K (.tuple #[]) H)
def W_internal_strconv_formatBase10.j20 (K : Value → Hp → Prop) (A3 : Option Addr) (n3 : Nat) (m3 : Nat) (x16 : Int) (x17 : Int) (H : Hp) : Prop :=
  BIf (decide (x16 ≥ (2 : Int))) (((100 : Int) ≠ 0 ∧ IntKind.u32 = IntKind.u32 ∧ ((100 : Int) ≠ 0 ∧ IntKind.u32 = IntKind.u32 ∧ (0 ≤ (IntKind.u32.wrap ((IntKind.u32.wrap ((Int.tmod x17 (100 : Int)) * (2 : Int))) + (1 : Int))) ∧ ixB ((⟨#[48, 48, 48, 49, 48, 50, 48, 51, 48, 52, 48, 53, 48, 54, 48, 55, 48, 56, 48, 57, 49, 48, 49, 49, 49, 50, 49, 51, 49, 52, 49, 53, 49, 54, 49, 55, 49, 56, 49, 57, 50, 48, 50, 49, 50, 50, 50, 51, 50, 52, 50, 53, 50, 54, 50, 55, 50, 56, 50, 57, 51, 48, 51, 49, 51, 50, 51, 51, 51, 52, 51, 53, 51, 54, 51, 55, 51, 56, 51, 57, 52, 48, 52, 49, 52, 50, 52, 51, 52, 52, 52, 53, 52, 54, 52, 55, 52, 56, 52, 57, 53, 48, 53, 49, 53, 50, 53, 51, 53, 52, 53, 53, 53, 54, 53, 55, 53, 56, 53, 57, 54, 48, 54, 49, 54, 50, 54, 51, 54, 52, 54, 53, 54, 54, 54, 55, 54, 56, 54, 57, 55, 48, 55, 49, 55, 50, 55, 51, 55, 52, 55, 53, 55, 54, 55, 55, 55, 56, 55, 57, 56, 48, 56, 49, 56, 50, 56, 51, 56, 52, 56, 53, 56, 54, 56, 55, 56, 56, 56, 57, 57, 48, 57, 49, 57, 50, 57, 51, 57, 52, 57, 53, 57, 54, 57, 55, 57, 56, 57, 57]⟩) : ByteArray) (IntKind.u32.wrap ((IntKind.u32.wrap ((Int.tmod x17 (100 : Int)) * (2 : Int))) + (1 : Int))).toNat fun x18 => (0 ≤ (IntKind.u32.wrap ((Int.tmod x17 (100 : Int)) * (2 : Int))) ∧ ixB ((⟨#[48, 48, 48, 49, 48, 50, 48, 51, 48, 52, 48, 53, 48, 54, 48, 55, 48, 56, 48, 57, 49, 48, 49, 49, 49, 50, 49, 51, 49, 52, 49, 53, 49, 54, 49, 55, 49, 56, 49, 57, 50, 48, 50, 49, 50, 50, 50, 51, 50, 52, 50, 53, 50, 54, 50, 55, 50, 56, 50, 57, 51, 48, 51, 49, 51, 50, 51, 51, 51, 52, 51, 53, 51, 54, 51, 55, 51, 56, 51, 57, 52, 48, 52, 49, 52, 50, 52, 51, 52, 52, 52, 53, 52, 54, 52, 55, 52, 56, 52, 57, 53, 48, 53, 49, 53, 50, 53, 51, 53, 52, 53, 53, 53, 54, 53, 55, 53, 56, 53, 57, 54, 48, 54, 49, 54, 50, 54, 51, 54, 52, 54, 53, 54, 54, 54, 55, 54, 56, 54, 57, 55, 48, 55, 49, 55, 50, 55, 51, 55, 52, 55, 53, 55, 54, 55, 55, 55, 56, 55, 57, 56, 48, 56, 49, 56, 50, 56, 51, 56, 52, 56, 53, 56, 54, 56, 55, 56, 56, 56, 57, 57, 48, 57, 49, 57, 50, 57, 51, 57, 52, 57, 53, 57, 54, 57, 55, 57, 56, 57, 57]⟩) : ByteArray) (IntKind.u32.wrap ((Int.tmod x17 (100 : Int)) * (2 : Int))).toNat fun x19 => ixI (IntKind.i64.wrap (x16 - (1 : Int))) n3 (NN A3 fun a13 => St H ((a13.add ((IntKind.i64.wrap (x16 - (1 : Int))).toNat * 1)).add 0) (.int .u8 x18) fun H13 => ixI (IntKind.i64.wrap (x16 - (2 : Int))) n3 (NN A3 fun a14 => St H13 ((a14.add ((IntKind.i64.wrap (x16 - (2 : Int))).toNat * 1)).add 0) (.int .u8 x19) fun H14 => W_internal_strconv_formatBase10.j25 K A3 n3 m3 (IntKind.i64.wrap (x16 - (2 : Int))) (IntKind.u32.wrap (Int.tdiv x17 (100 : Int))) H14))))))) (W_internal_strconv_formatBase10.j25 K A3 n3 m3 x16 x17 H)
def W_internal_strconv_formatBase10.l1 (K : Value → Hp → Prop) : Nat → Option Addr → Nat → Nat → Int → Int → Hp → Prop
  | 0, _, _, _, _, _, _ => False
  | k + 1, A2, n2, m2, x2, x3, H =>
    let R1 := W_internal_strconv_formatBase10.l1 K k
    BIf (decide (x3 ≥ (8 : Int))) (((100000000 : Int) ≠ 0 ∧ IntKind.u64 = IntKind.u64 ∧ ((100000000 : Int) ≠ 0 ∧ IntKind.u64 = IntKind.u64 ∧ ((10000 : Int) ≠ 0 ∧ IntKind.u32 = IntKind.u32 ∧ ((10000 : Int) ≠ 0 ∧ IntKind.u32 = IntKind.u32 ∧ ((100 : Int) ≠ 0 ∧ IntKind.u32 = IntKind.u32 ∧ ((100 : Int) ≠ 0 ∧ IntKind.u32 = IntKind.u32 ∧ ((100 : Int) ≠ 0 ∧ IntKind.u32 = IntKind.u32 ∧ ((100 : Int) ≠ 0 ∧ IntKind.u32 = IntKind.u32 ∧ (0 ≤ (IntKind.u32.wrap ((IntKind.u32.wrap ((Int.tmod (Int.tmod (IntKind.u32.wrap (Int.tmod x2 (100000000 : Int))) (10000 : Int)) (100 : Int)) * (2 : Int))) + (1 : Int))) ∧ ixB ((⟨#[48, 48, 48, 49, 48, 50, 48, 51, 48, 52, 48, 53, 48, 54, 48, 55, 48, 56, 48, 57, 49, 48, 49, 49, 49, 50, 49, 51, 49, 52, 49, 53, 49, 54, 49, 55, 49, 56, 49, 57, 50, 48, 50, 49, 50, 50, 50, 51, 50, 52, 50, 53, 50, 54, 50, 55, 50, 56, 50, 57, 51, 48, 51, 49, 51, 50, 51, 51, 51, 52, 51, 53, 51, 54, 51, 55, 51, 56, 51, 57, 52, 48, 52, 49, 52, 50, 52, 51, 52, 52, 52, 53, 52, 54, 52, 55, 52, 56, 52, 57, 53, 48, 53, 49, 53, 50, 53, 51, 53, 52, 53, 53, 53, 54, 53, 55, 53, 56, 53, 57, 54, 48, 54, 49, 54, 50, 54, 51, 54, 52, 54, 53, 54, 54, 54, 55, 54, 56, 54, 57, 55, 48, 55, 49, 55, 50, 55, 51, 55, 52, 55, 53, 55, 54, 55, 55, 55, 56, 55, 57, 56, 48, 56, 49, 56, 50, 56, 51, 56, 52, 56, 53, 56, 54, 56, 55, 56, 56, 56, 57, 57, 48, 57, 49, 57, 50, 57, 51, 57, 52, 57, 53, 57, 54, 57, 55, 57, 56, 57, 57]⟩) : ByteArray) (IntKind.u32.wrap ((IntKind.u32.wrap ((Int.tmod (Int.tmod (IntKind.u32.wrap (Int.tmod x2 (100000000 : Int))) (10000 : Int)) (100 : Int)) * (2 : Int))) + (1 : Int))).toNat fun x4 => (0 ≤ (IntKind.u32.wrap ((Int.tmod (Int.tmod (IntKind.u32.wrap (Int.tmod x2 (100000000 : Int))) (10000 : Int)) (100 : Int)) * (2 : Int))) ∧ ixB ((⟨#[48, 48, 48, 49, 48, 50, 48, 51, 48, 52, 48, 53, 48, 54, 48, 55, 48, 56, 48, 57, 49, 48, 49, 49, 49, 50, 49, 51, 49, 52, 49, 53, 49, 54, 49, 55, 49, 56, 49, 57, 50, 48, 50, 49, 50, 50, 50, 51, 50, 52, 50, 53, 50, 54, 50, 55, 50, 56, 50, 57, 51, 48, 51, 49, 51, 50, 51, 51, 51, 52, 51, 53, 51, 54, 51, 55, 51, 56, 51, 57, 52, 48, 52, 49, 52, 50, 52, 51, 52, 52, 52, 53, 52, 54, 52, 55, 52, 56, 52, 57, 53, 48, 53, 49, 53, 50, 53, 51, 53, 52, 53, 53, 53, 54, 53, 55, 53, 56, 53, 57, 54, 48, 54, 49, 54, 50, 54, 51, 54, 52, 54, 53, 54, 54, 54, 55, 54, 56, 54, 57, 55, 48, 55, 49, 55, 50, 55, 51, 55, 52, 55, 53, 55, 54, 55, 55, 55, 56, 55, 57, 56, 48, 56, 49, 56, 50, 56, 51, 56, 52, 56, 53, 56, 54, 56, 55, 56, 56, 56, 57, 57, 48, 57, 49, 57, 50, 57, 51, 57, 52, 57, 53, 57, 54, 57, 55, 57, 56, 57, 57]⟩) : ByteArray) (IntKind.u32.wrap ((Int.tmod (Int.tmod (IntKind.u32.wrap (Int.tmod x2 (100000000 : Int))) (10000 : Int)) (100 : Int)) * (2 : Int))).toNat fun x5 => ixI (IntKind.i64.wrap (x3 - (1 : Int))) n2 (NN A2 fun a1 => St H ((a1.add ((IntKind.i64.wrap (x3 - (1 : Int))).toNat * 1)).add 0) (.int .u8 x4) fun H1 => ixI (IntKind.i64.wrap (x3 - (2 : Int))) n2 (NN A2 fun a2 => St H1 ((a2.add ((IntKind.i64.wrap (x3 - (2 : Int))).toNat * 1)).add 0) (.int .u8 x5) fun H2 => (0 ≤ (IntKind.u32.wrap ((IntKind.u32.wrap ((IntKind.u32.wrap (Int.tdiv (Int.tmod (IntKind.u32.wrap (Int.tmod x2 (100000000 : Int))) (10000 : Int)) (100 : Int))) * (2 : Int))) + (1 : Int))) ∧ ixB ((⟨#[48, 48, 48, 49, 48, 50, 48, 51, 48, 52, 48, 53, 48, 54, 48, 55, 48, 56, 48, 57, 49, 48, 49, 49, 49, 50, 49, 51, 49, 52, 49, 53, 49, 54, 49, 55, 49, 56, 49, 57, 50, 48, 50, 49, 50, 50, 50, 51, 50, 52, 50, 53, 50, 54, 50, 55, 50, 56, 50, 57, 51, 48, 51, 49, 51, 50, 51, 51, 51, 52, 51, 53, 51, 54, 51, 55, 51, 56, 51, 57, 52, 48, 52, 49, 52, 50, 52, 51, 52, 52, 52, 53, 52, 54, 52, 55, 52, 56, 52, 57, 53, 48, 53, 49, 53, 50, 53, 51, 53, 52, 53, 53, 53, 54, 53, 55, 53, 56, 53, 57, 54, 48, 54, 49, 54, 50, 54, 51, 54, 52, 54, 53, 54, 54, 54, 55, 54, 56, 54, 57, 55, 48, 55, 49, 55, 50, 55, 51, 55, 52, 55, 53, 55, 54, 55, 55, 55, 56, 55, 57, 56, 48, 56, 49, 56, 50, 56, 51, 56, 52, 56, 53, 56, 54, 56, 55, 56, 56, 56, 57, 57, 48, 57, 49, 57, 50, 57, 51, 57, 52, 57, 53, 57, 54, 57, 55, 57, 56, 57, 57]⟩) : ByteArray) (IntKind.u32.wrap ((IntKind.u32.wrap ((IntKind.u32.wrap (Int.tdiv (Int.tmod (IntKind.u32.wrap (Int.tmod x2 (100000000 : Int))) (10000 : Int)) (100 : Int))) * (2 : Int))) + (1 : Int))).toNat fun x6 => (0 ≤ (IntKind.u32.wrap ((IntKind.u32.wrap (Int.tdiv (Int.tmod (IntKind.u32.wrap (Int.tmod x2 (100000000 : Int))) (10000 : Int)) (100 : Int))) * (2 : Int))) ∧ ixB ((⟨#[48, 48, 48, 49, 48, 50, 48, 51, 48, 52, 48, 53, 48, 54, 48, 55, 48, 56, 48, 57, 49, 48, 49, 49, 49, 50, 49, 51, 49, 52, 49, 53, 49, 54, 49, 55, 49, 56, 49, 57, 50, 48, 50, 49, 50, 50, 50, 51, 50, 52, 50, 53, 50, 54, 50, 55, 50, 56, 50, 57, 51, 48, 51, 49, 51, 50, 51, 51, 51, 52, 51, 53, 51, 54, 51, 55, 51, 56, 51, 57, 52, 48, 52, 49, 52, 50, 52, 51, 52, 52, 52, 53, 52, 54, 52, 55, 52, 56, 52, 57, 53, 48, 53, 49, 53, 50, 53, 51, 53, 52, 53, 53, 53, 54, 53, 55, 53, 56, 53, 57, 54, 48, 54, 49, 54, 50, 54, 51, 54, 52, 54, 53, 54, 54, 54, 55, 54, 56, 54, 57, 55, 48, 55, 49, 55, 50, 55, 51, 55, 52, 55, 53, 55, 54, 55, 55, 55, 56, 55, 57, 56, 48, 56, 49, 56, 50, 56, 51, 56, 52, 56, 53, 56, 54, 56, 55, 56, 56, 56, 57, 57, 48, 57, 49, 57, 50, 57, 51, 57, 52, 57, 53, 57, 54, 57, 55, 57, 56, 57, 57]⟩) : ByteArray) (IntKind.u32.wrap ((IntKind.u32.wrap (Int.tdiv (Int.tmod (IntKind.u32.wrap (Int.tmod x2 (100000000 : Int))) (10000 : Int)) (100 : Int))) * (2 : Int))).toNat fun x7 => ixI (IntKind.i64.wrap (x3 - (3 : Int))) n2 (NN A2 fun a3 => St H2 ((a3.add ((IntKind.i64.wrap (x3 - (3 : Int))).toNat * 1)).add 0) (.int .u8 x6) fun H3 => ixI (IntKind.i64.wrap (x3 - (4 : Int))) n2 (NN A2 fun a4 => St H3 ((a4.add ((IntKind.i64.wrap (x3 - (4 : Int))).toNat * 1)).add 0) (.int .u8 x7) fun H4 => (0 ≤ (IntKind.u32.wrap ((IntKind.u32.wrap ((Int.tmod (IntKind.u32.wrap (Int.tdiv (IntKind.u32.wrap (Int.tmod x2 (100000000 : Int))) (10000 : Int))) (100 : Int)) * (2 : Int))) + (1 : Int))) ∧ ixB ((⟨#[48, 48, 48, 49, 48, 50, 48, 51, 48, 52, 48, 53, 48, 54, 48, 55, 48, 56, 48, 57, 49, 48, 49, 49, 49, 50, 49, 51, 49, 52, 49, 53, 49, 54, 49, 55, 49, 56, 49, 57, 50, 48, 50, 49, 50, 50, 50, 51, 50, 52, 50, 53, 50, 54, 50, 55, 50, 56, 50, 57, 51, 48, 51, 49, 51, 50, 51, 51, 51, 52, 51, 53, 51, 54, 51, 55, 51, 56, 51, 57, 52, 48, 52, 49, 52, 50, 52, 51, 52, 52, 52, 53, 52, 54, 52, 55, 52, 56, 52, 57, 53, 48, 53, 49, 53, 50, 53, 51, 53, 52, 53, 53, 53, 54, 53, 55, 53, 56, 53, 57, 54, 48, 54, 49, 54, 50, 54, 51, 54, 52, 54, 53, 54, 54, 54, 55, 54, 56, 54, 57, 55, 48, 55, 49, 55, 50, 55, 51, 55, 52, 55, 53, 55, 54, 55, 55, 55, 56, 55, 57, 56, 48, 56, 49, 56, 50, 56, 51, 56, 52, 56, 53, 56, 54, 56, 55, 56, 56, 56, 57, 57, 48, 57, 49, 57, 50, 57, 51, 57, 52, 57, 53, 57, 54, 57, 55, 57, 56, 57, 57]⟩) : ByteArray) (IntKind.u32.wrap ((IntKind.u32.wrap ((Int.tmod (IntKind.u32.wrap (Int.tdiv (IntKind.u32.wrap (Int.tmod x2 (100000000 : Int))) (10000 : Int))) (100 : Int)) * (2 : Int))) + (1 : Int))).toNat fun x8 => (0 ≤ (IntKind.u32.wrap ((Int.tmod (IntKind.u32.wrap (Int.tdiv (IntKind.u32.wrap (Int.tmod x2 (100000000 : Int))) (10000 : Int))) (100 : Int)) * (2 : Int))) ∧ ixB ((⟨#[48, 48, 48, 49, 48, 50, 48, 51, 48, 52, 48, 53, 48, 54, 48, 55, 48, 56, 48, 57, 49, 48, 49, 49, 49, 50, 49, 51, 49, 52, 49, 53, 49, 54, 49, 55, 49, 56, 49, 57, 50, 48, 50, 49, 50, 50, 50, 51, 50, 52, 50, 53, 50, 54, 50, 55, 50, 56, 50, 57, 51, 48, 51, 49, 51, 50, 51, 51, 51, 52, 51, 53, 51, 54, 51, 55, 51, 56, 51, 57, 52, 48, 52, 49, 52, 50, 52, 51, 52, 52, 52, 53, 52, 54, 52, 55, 52, 56, 52, 57, 53, 48, 53, 49, 53, 50, 53, 51, 53, 52, 53, 53, 53, 54, 53, 55, 53, 56, 53, 57, 54, 48, 54, 49, 54, 50, 54, 51, 54, 52, 54, 53, 54, 54, 54, 55, 54, 56, 54, 57, 55, 48, 55, 49, 55, 50, 55, 51, 55, 52, 55, 53, 55, 54, 55, 55, 55, 56, 55, 57, 56, 48, 56, 49, 56, 50, 56, 51, 56, 52, 56, 53, 56, 54, 56, 55, 56, 56, 56, 57, 57, 48, 57, 49, 57, 50, 57, 51, 57, 52, 57, 53, 57, 54, 57, 55, 57, 56, 57, 57]⟩) : ByteArray) (IntKind.u32.wrap ((Int.tmod (IntKind.u32.wrap (Int.tdiv (IntKind.u32.wrap (Int.tmod x2 (100000000 : Int))) (10000 : Int))) (100 : Int)) * (2 : Int))).toNat fun x9 => ixI (IntKind.i64.wrap (x3 - (5 : Int))) n2 (NN A2 fun a5 => St H4 ((a5.add ((IntKind.i64.wrap (x3 - (5 : Int))).toNat * 1)).add 0) (.int .u8 x8) fun H5 => ixI (IntKind.i64.wrap (x3 - (6 : Int))) n2 (NN A2 fun a6 => St H5 ((a6.add ((IntKind.i64.wrap (x3 - (6 : Int))).toNat * 1)).add 0) (.int .u8 x9) fun H6 => (0 ≤ (IntKind.u32.wrap ((IntKind.u32.wrap ((IntKind.u32.wrap (Int.tdiv (IntKind.u32.wrap (Int.tdiv (IntKind.u32.wrap (Int.tmod x2 (100000000 : Int))) (10000 : Int))) (100 : Int))) * (2 : Int))) + (1 : Int))) ∧ ixB ((⟨#[48, 48, 48, 49, 48, 50, 48, 51, 48, 52, 48, 53, 48, 54, 48, 55, 48, 56, 48, 57, 49, 48, 49, 49, 49, 50, 49, 51, 49, 52, 49, 53, 49, 54, 49, 55, 49, 56, 49, 57, 50, 48, 50, 49, 50, 50, 50, 51, 50, 52, 50, 53, 50, 54, 50, 55, 50, 56, 50, 57, 51, 48, 51, 49, 51, 50, 51, 51, 51, 52, 51, 53, 51, 54, 51, 55, 51, 56, 51, 57, 52, 48, 52, 49, 52, 50, 52, 51, 52, 52, 52, 53, 52, 54, 52, 55, 52, 56, 52, 57, 53, 48, 53, 49, 53, 50, 53, 51, 53, 52, 53, 53, 53, 54, 53, 55, 53, 56, 53, 57, 54, 48, 54, 49, 54, 50, 54, 51, 54, 52, 54, 53, 54, 54, 54, 55, 54, 56, 54, 57, 55, 48, 55, 49, 55, 50, 55, 51, 55, 52, 55, 53, 55, 54, 55, 55, 55, 56, 55, 57, 56, 48, 56, 49, 56, 50, 56, 51, 56, 52, 56, 53, 56, 54, 56, 55, 56, 56, 56, 57, 57, 48, 57, 49, 57, 50, 57, 51, 57, 52, 57, 53, 57, 54, 57, 55, 57, 56, 57, 57]⟩) : ByteArray) (IntKind.u32.wrap ((IntKind.u32.wrap ((IntKind.u32.wrap (Int.tdiv (IntKind.u32.wrap (Int.tdiv (IntKind.u32.wrap (Int.tmod x2 (100000000 : Int))) (10000 : Int))) (100 : Int))) * (2 : Int))) + (1 : Int))).toNat fun x10 => (0 ≤ (IntKind.u32.wrap ((IntKind.u32.wrap (Int.tdiv (IntKind.u32.wrap (Int.tdiv (IntKind.u32.wrap (Int.tmod x2 (100000000 : Int))) (10000 : Int))) (100 : Int))) * (2 : Int))) ∧ ixB ((⟨#[48, 48, 48, 49, 48, 50, 48, 51, 48, 52, 48, 53, 48, 54, 48, 55, 48, 56, 48, 57, 49, 48, 49, 49, 49, 50, 49, 51, 49, 52, 49, 53, 49, 54, 49, 55, 49, 56, 49, 57, 50, 48, 50, 49, 50, 50, 50, 51, 50, 52, 50, 53, 50, 54, 50, 55, 50, 56, 50, 57, 51, 48, 51, 49, 51, 50, 51, 51, 51, 52, 51, 53, 51, 54, 51, 55, 51, 56, 51, 57, 52, 48, 52, 49, 52, 50, 52, 51, 52, 52, 52, 53, 52, 54, 52, 55, 52, 56, 52, 57, 53, 48, 53, 49, 53, 50, 53, 51, 53, 52, 53, 53, 53, 54, 53, 55, 53, 56, 53, 57, 54, 48, 54, 49, 54, 50, 54, 51, 54, 52, 54, 53, 54, 54, 54, 55, 54, 56, 54, 57, 55, 48, 55, 49, 55, 50, 55, 51, 55, 52, 55, 53, 55, 54, 55, 55, 55, 56, 55, 57, 56, 48, 56, 49, 56, 50, 56, 51, 56, 52, 56, 53, 56, 54, 56, 55, 56, 56, 56, 57, 57, 48, 57, 49, 57, 50, 57, 51, 57, 52, 57, 53, 57, 54, 57, 55, 57, 56, 57, 57]⟩) : ByteArray) (IntKind.u32.wrap ((IntKind.u32.wrap (Int.tdiv (IntKind.u32.wrap (Int.tdiv (IntKind.u32.wrap (Int.tmod x2 (100000000 : Int))) (10000 : Int))) (100 : Int))) * (2 : Int))).toNat fun x11 => ixI (IntKind.i64.wrap (x3 - (7 : Int))) n2 (NN A2 fun a7 => St H6 ((a7.add ((IntKind.i64.wrap (x3 - (7 : Int))).toNat * 1)).add 0) (.int .u8 x10) fun H7 => ixI (IntKind.i64.wrap (x3 - (8 : Int))) n2 (NN A2 fun a8 => St H7 ((a8.add ((IntKind.i64.wrap (x3 - (8 : Int))).toNat * 1)).add 0) (.int .u8 x11) fun H8 => R1 A2 n2 m2 (IntKind.u64.wrap (Int.tdiv x2 (100000000 : Int))) (IntKind.i64.wrap (x3 - (8 : Int))) H8))))))))))))))))))))))))) (BIf (decide (x3 ≥ (4 : Int))) (((10000 : Int) ≠ 0 ∧ IntKind.u32 = IntKind.u32 ∧ ((10000 : Int) ≠ 0 ∧ IntKind.u32 = IntKind.u32 ∧ ((100 : Int) ≠ 0 ∧ IntKind.u32 = IntKind.u32 ∧ ((100 : Int) ≠ 0 ∧ IntKind.u32 = IntKind.u32 ∧ (0 ≤ (IntKind.u32.wrap ((IntKind.u32.wrap ((Int.tmod (Int.tmod (IntKind.u32.wrap x2) (10000 : Int)) (100 : Int)) * (2 : Int))) + (1 : Int))) ∧ ixB ((⟨#[48, 48, 48, 49, 48, 50, 48, 51, 48, 52, 48, 53, 48, 54, 48, 55, 48, 56, 48, 57, 49, 48, 49, 49, 49, 50, 49, 51, 49, 52, 49, 53, 49, 54, 49, 55, 49, 56, 49, 57, 50, 48, 50, 49, 50, 50, 50, 51, 50, 52, 50, 53, 50, 54, 50, 55, 50, 56, 50, 57, 51, 48, 51, 49, 51, 50, 51, 51, 51, 52, 51, 53, 51, 54, 51, 55, 51, 56, 51, 57, 52, 48, 52, 49, 52, 50, 52, 51, 52, 52, 52, 53, 52, 54, 52, 55, 52, 56, 52, 57, 53, 48, 53, 49, 53, 50, 53, 51, 53, 52, 53, 53, 53, 54, 53, 55, 53, 56, 53, 57, 54, 48, 54, 49, 54, 50, 54, 51, 54, 52, 54, 53, 54, 54, 54, 55, 54, 56, 54, 57, 55, 48, 55, 49, 55, 50, 55, 51, 55, 52, 55, 53, 55, 54, 55, 55, 55, 56, 55, 57, 56, 48, 56, 49, 56, 50, 56, 51, 56, 52, 56, 53, 56, 54, 56, 55, 56, 56, 56, 57, 57, 48, 57, 49, 57, 50, 57, 51, 57, 52, 57, 53, 57, 54, 57, 55, 57, 56, 57, 57]⟩) : ByteArray) (IntKind.u32.wrap ((IntKind.u32.wrap ((Int.tmod (Int.tmod (IntKind.u32.wrap x2) (10000 : Int)) (100 : Int)) * (2 : Int))) + (1 : Int))).toNat fun x12 => (0 ≤ (IntKind.u32.wrap ((Int.tmod (Int.tmod (IntKind.u32.wrap x2) (10000 : Int)) (100 : Int)) * (2 : Int))) ∧ ixB ((⟨#[48, 48, 48, 49, 48, 50, 48, 51, 48, 52, 48, 53, 48, 54, 48, 55, 48, 56, 48, 57, 49, 48, 49, 49, 49, 50, 49, 51, 49, 52, 49, 53, 49, 54, 49, 55, 49, 56, 49, 57, 50, 48, 50, 49, 50, 50, 50, 51, 50, 52, 50, 53, 50, 54, 50, 55, 50, 56, 50, 57, 51, 48, 51, 49, 51, 50, 51, 51, 51, 52, 51, 53, 51, 54, 51, 55, 51, 56, 51, 57, 52, 48, 52, 49, 52, 50, 52, 51, 52, 52, 52, 53, 52, 54, 52, 55, 52, 56, 52, 57, 53, 48, 53, 49, 53, 50, 53, 51, 53, 52, 53, 53, 53, 54, 53, 55, 53, 56, 53, 57, 54, 48, 54, 49, 54, 50, 54, 51, 54, 52, 54, 53, 54, 54, 54, 55, 54, 56, 54, 57, 55, 48, 55, 49, 55, 50, 55, 51, 55, 52, 55, 53, 55, 54, 55, 55, 55, 56, 55, 57, 56, 48, 56, 49, 56, 50, 56, 51, 56, 52, 56, 53, 56, 54, 56, 55, 56, 56, 56, 57, 57, 48, 57, 49, 57, 50, 57, 51, 57, 52, 57, 53, 57, 54, 57, 55, 57, 56, 57, 57]⟩) : ByteArray) (IntKind.u32.wrap ((Int.tmod (Int.tmod (IntKind.u32.wrap x2) (10000 : Int)) (100 : Int)) * (2 : Int))).toNat fun x13 => ixI (IntKind.i64.wrap (x3 - (1 : Int))) n2 (NN A2 fun a9 => St H ((a9.add ((IntKind.i64.wrap (x3 - (1 : Int))).toNat * 1)).add 0) (.int .u8 x12) fun H9 => ixI (IntKind.i64.wrap (x3 - (2 : Int))) n2 (NN A2 fun a10 => St H9 ((a10.add ((IntKind.i64.wrap (x3 - (2 : Int))).toNat * 1)).add 0) (.int .u8 x13) fun H10 => (0 ≤ (IntKind.u32.wrap ((IntKind.u32.wrap ((IntKind.u32.wrap (Int.tdiv (Int.tmod (IntKind.u32.wrap x2) (10000 : Int)) (100 : Int))) * (2 : Int))) + (1 : Int))) ∧ ixB ((⟨#[48, 48, 48, 49, 48, 50, 48, 51, 48, 52, 48, 53, 48, 54, 48, 55, 48, 56, 48, 57, 49, 48, 49, 49, 49, 50, 49, 51, 49, 52, 49, 53, 49, 54, 49, 55, 49, 56, 49, 57, 50, 48, 50, 49, 50, 50, 50, 51, 50, 52, 50, 53, 50, 54, 50, 55, 50, 56, 50, 57, 51, 48, 51, 49, 51, 50, 51, 51, 51, 52, 51, 53, 51, 54, 51, 55, 51, 56, 51, 57, 52, 48, 52, 49, 52, 50, 52, 51, 52, 52, 52, 53, 52, 54, 52, 55, 52, 56, 52, 57, 53, 48, 53, 49, 53, 50, 53, 51, 53, 52, 53, 53, 53, 54, 53, 55, 53, 56, 53, 57, 54, 48, 54, 49, 54, 50, 54, 51, 54, 52, 54, 53, 54, 54, 54, 55, 54, 56, 54, 57, 55, 48, 55, 49, 55, 50, 55, 51, 55, 52, 55, 53, 55, 54, 55, 55, 55, 56, 55, 57, 56, 48, 56, 49, 56, 50, 56, 51, 56, 52, 56, 53, 56, 54, 56, 55, 56, 56, 56, 57, 57, 48, 57, 49, 57, 50, 57, 51, 57, 52, 57, 53, 57, 54, 57, 55, 57, 56, 57, 57]⟩) : ByteArray) (IntKind.u32.wrap ((IntKind.u32.wrap ((IntKind.u32.wrap (Int.tdiv (Int.tmod (IntKind.u32.wrap x2) (10000 : Int)) (100 : Int))) * (2 : Int))) + (1 : Int))).toNat fun x14 => (0 ≤ (IntKind.u32.wrap ((IntKind.u32.wrap (Int.tdiv (Int.tmod (IntKind.u32.wrap x2) (10000 : Int)) (100 : Int))) * (2 : Int))) ∧ ixB ((⟨#[48, 48, 48, 49, 48, 50, 48, 51, 48, 52, 48, 53, 48, 54, 48, 55, 48, 56, 48, 57, 49, 48, 49, 49, 49, 50, 49, 51, 49, 52, 49, 53, 49, 54, 49, 55, 49, 56, 49, 57, 50, 48, 50, 49, 50, 50, 50, 51, 50, 52, 50, 53, 50, 54, 50, 55, 50, 56, 50, 57, 51, 48, 51, 49, 51, 50, 51, 51, 51, 52, 51, 53, 51, 54, 51, 55, 51, 56, 51, 57, 52, 48, 52, 49, 52, 50, 52, 51, 52, 52, 52, 53, 52, 54, 52, 55, 52, 56, 52, 57, 53, 48, 53, 49, 53, 50, 53, 51, 53, 52, 53, 53, 53, 54, 53, 55, 53, 56, 53, 57, 54, 48, 54, 49, 54, 50, 54, 51, 54, 52, 54, 53, 54, 54, 54, 55, 54, 56, 54, 57, 55, 48, 55, 49, 55, 50, 55, 51, 55, 52, 55, 53, 55, 54, 55, 55, 55, 56, 55, 57, 56, 48, 56, 49, 56, 50, 56, 51, 56, 52, 56, 53, 56, 54, 56, 55, 56, 56, 56, 57, 57, 48, 57, 49, 57, 50, 57, 51, 57, 52, 57, 53, 57, 54, 57, 55, 57, 56, 57, 57]⟩) : ByteArray) (IntKind.u32.wrap ((IntKind.u32.wrap (Int.tdiv (Int.tmod (IntKind.u32.wrap x2) (10000 : Int)) (100 : Int))) * (2 : Int))).toNat fun x15 => ixI (IntKind.i64.wrap (x3 - (3 : Int))) n2 (NN A2 fun a11 => St H10 ((a11.add ((IntKind.i64.wrap (x3 - (3 : Int))).toNat * 1)).add 0) (.int .u8 x14) fun H11 => ixI (IntKind.i64.wrap (x3 - (4 : Int))) n2 (NN A2 fun a12 => St H11 ((a12.add ((IntKind.i64.wrap (x3 - (4 : Int))).toNat * 1)).add 0) (.int .u8 x15) fun H12 => W_internal_strconv_formatBase10.j20 K A2 n2 m2 (IntKind.i64.wrap (x3 - (4 : Int))) (IntKind.u32.wrap (Int.tdiv (IntKind.u32.wrap x2) (10000 : Int))) H12))))))))))))) (W_internal_strconv_formatBase10.j20 K A2 n2 m2 x3 (IntKind.u32.wrap x2) H))
def W_internal_strconv_formatBase10 (A1 : Option Addr) (n1 : Nat) (m1 : Nat) (x1 : Int) (H : Hp) (K : Value → Hp → Prop) : Prop :=
  (∃ k, W_internal_strconv_formatBase10.l1 K k A1 n1 m1 x1 ((n1 : Nat) : Int) H)
def W_internal_strconv_formatBase10.l1.L (K : Value → Hp → Prop) (k : Nat) : Mid := fun E D H =>
  DG (E.get? 0) fun w0 => DSl w0 fun A2 n2 m2 => DG (E.get? 1) fun w1 => DI .u64 w1 fun x2 => DG (E.get? 4) fun w4 => DI .i64 w4 fun x3 => DNilD D (W_internal_strconv_formatBase10.l1 K k A2 n2 m2 x2 x3 H)
def W_internal_strconv_formatBase10.Λ1 (_ : Value → Hp → Prop) (_R1 : Option Addr → Nat → Nat → Int → Int → Hp → Prop) : Cuts := Cuts.none (fun i => match Nat.beq i 23 with | true => some ([], [], 0) | false => match Nat.beq i 18 with | true => some ([], [], 0) | false => match Nat.beq i 17 with | true => some ([], [], 0) | false => match Nat.beq i 10 with | true => some ([], [], 0) | false => match Nat.beq i 9 with | true => some ([], [], 0) | false => match Nat.beq i 8 with | true => some ([], [], 0) | false => match Nat.beq i 7 with | true => some ([], [], 0) | false => none)
def W_internal_strconv_formatBase10.Λ (K : Value → Hp → Prop) : Cuts := ⟨fun i => match Nat.beq i 25 with | true => some (fun E D H => DG (E.get? 0) fun w0 => DSl w0 fun A4 n4 m4 => DG (E.get? 4) fun w4 => DI .i64 w4 fun x20 => DG (E.get? 12) fun w12 => DI .u32 w12 fun x21 => DNilD D (W_internal_strconv_formatBase10.j25 K A4 n4 m4 x20 x21 H)) | false => match Nat.beq i 20 with | true => some (fun E D H => DG (E.get? 0) fun w0 => DSl w0 fun A3 n3 m3 => DG (E.get? 4) fun w4 => DI .i64 w4 fun x16 => DG (E.get? 12) fun w12 => DI .u32 w12 fun x17 => DNilD D (W_internal_strconv_formatBase10.j20 K A3 n3 m3 x16 x17 H)) | false => none, fun i => match Nat.beq i 1 with | true => some (fun E D H => ∃ k, W_internal_strconv_formatBase10.l1.L K k E D H) | false => none, (fun i => match Nat.beq i 23 with | true => some ([], [], 0) | false => match Nat.beq i 18 with | true => some ([], [], 0) | false => match Nat.beq i 17 with | true => some ([], [], 0) | false => match Nat.beq i 10 with | true => some ([], [], 0) | false => match Nat.beq i 9 with | true => some ([], [], 0) | false => match Nat.beq i 8 with | true => some ([], [], 0) | false => match Nat.beq i 7 with | true => some ([], [], 0) | false => none)⟩
theorem W_internal_strconv_formatBase10.ok (A1 : Option Addr) (n1 : Nat) (m1 : Nat) (x1 : Int) (H : Hp) (K : Value → Hp → Prop) (h : W_internal_strconv_formatBase10 A1 n1 m1 x1 H K) : HCalls Tryd.prog 121 #[.slice A1 n1 m1, .int .u64 x1] H K :=
  hcalls Tryd.func121 rfl (Nat.le_of_ble_eq_true rfl) (hw_safe (Λ := (W_internal_strconv_formatBase10.Λ K)) mixWlstrconv _ _ _ _ _ (Eq.mp (by kernel_rfl) h) (obs_seq obs_region rfl (obs_seq (obs_block (obs_loop rfl (fun E D H h => by
      refine Safe.loop' (W_internal_strconv_formatBase10.l1.L K) (fun E D H h => ?_) (fun k E D H h => ?_) E D H h
      · obtain ⟨w0, e0, g1⟩ := DG.out h; obtain ⟨A2, n2, m2, rfl, g2⟩ := DSl.out g1; obtain ⟨w1, e1, g3⟩ := DG.out g2; obtain ⟨x2, rfl, g4⟩ := DI.out g3; obtain ⟨w4, e4, g5⟩ := DG.out g4; obtain ⟨x3, rfl, g6⟩ := DI.out g5; obtain ⟨rfl, h'⟩ := DNilD.out g6; exact h'
      · obtain ⟨w0, e0, g1⟩ := DG.out h
        obtain ⟨A2, n2, m2, rfl, g2⟩ := DSl.out g1
        obtain ⟨w1, e1, g3⟩ := DG.out g2
        obtain ⟨x2, rfl, g4⟩ := DI.out g3
        obtain ⟨w4, e4, g5⟩ := DG.out g4
        obtain ⟨x3, rfl, g6⟩ := DI.out g5
        obtain ⟨rfl, h'⟩ := DNilD.out g6
        exact (hw_safe (Λ := (W_internal_strconv_formatBase10.Λ1 K (W_internal_strconv_formatBase10.l1 K k))) mixWlstrconv _ _ [(0, .slice A2 n2 m2), (1, .int .u64 x2), (4, .int .i64 x3)] [] H (Eq.mp (by kernel_rfl) h') (obs_seq (obs_seq obs_region rfl (obs_cond obs_skip obs_exit)) rfl (obs_block (obs_seq obs_region rfl (obs_seq obs_region rfl (obs_seq obs_region rfl (obs_seq obs_region rfl (obs_seq obs_region rfl (obs_seq obs_region rfl (obs_seq obs_region rfl (obs_seq obs_region rfl (obs_seq obs_region rfl obs_region)))))))))))).weaken (EnvLe.cons e0 (EnvLe.cons e1 (EnvLe.cons e4 (EnvLe.nil _)))) (Hp.le_refl _)))) rfl (obs_seq obs_region rfl (obs_seqc (obs_seq obs_region rfl (obs_cond (obs_seq obs_region rfl (obs_seq obs_region rfl (obs_seq obs_region rfl (obs_seq obs_region rfl (obs_seq obs_region rfl obs_region))))) obs_skip)) rfl (fun E D H h => by
      obtain ⟨w0, e0, g1⟩ := DG.out h
      obtain ⟨A3, n3, m3, rfl, g2⟩ := DSl.out g1
      obtain ⟨w4, e4, g3⟩ := DG.out g2
      obtain ⟨x16, rfl, g4⟩ := DI.out g3
      obtain ⟨w12, e12, g5⟩ := DG.out g4
      obtain ⟨x17, rfl, g6⟩ := DI.out g5
      obtain ⟨rfl, h'⟩ := DNilD.out g6
      exact (hw_safe (Λ := (W_internal_strconv_formatBase10.Λ K)) mixWlstrconv _ _ [(0, .slice A3 n3 m3), (4, .int .i64 x16), (12, .int .u32 x17)] [] H (Eq.mp (by kernel_rfl) h') (obs_seqc (obs_seq obs_region rfl (obs_cond (obs_seq obs_region rfl (obs_seq obs_region rfl (obs_seq obs_region rfl obs_region))) obs_skip)) rfl (fun E D H h => by
          obtain ⟨w0, e0, g1⟩ := DG.out h
          obtain ⟨A4, n4, m4, rfl, g2⟩ := DSl.out g1
          obtain ⟨w4, e4, g3⟩ := DG.out g2
          obtain ⟨x20, rfl, g4⟩ := DI.out g3
          obtain ⟨w12, e12, g5⟩ := DG.out g4
          obtain ⟨x21, rfl, g6⟩ := DI.out g5
          obtain ⟨rfl, h'⟩ := DNilD.out g6
          exact (hw_safe (Λ := (W_internal_strconv_formatBase10.Λ K)) mixWlstrconv _ _ [(0, .slice A4 n4 m4), (4, .int .i64 x20), (12, .int .u32 x21)] [] H (Eq.mp (by kernel_rfl) h') (obs_seq obs_region rfl (obs_cond obs_region obs_skip))).weaken (EnvLe.cons e0 (EnvLe.cons e4 (EnvLe.cons e12 (EnvLe.nil _)))) (Hp.le_refl _)))).weaken (EnvLe.cons e0 (EnvLe.cons e4 (EnvLe.cons e12 (EnvLe.nil _)))) (Hp.le_refl _)))))))

-- internal/strconv.log10Pow2
def W_internal_strconv_log10Pow2 (x1 : Int) (H : Hp) (K : Value → Hp → Prop) : Prop :=
  (0 ≤ (18 : Int) ∧ K (.int .i64 (shrI .i64 (IntKind.i64.wrap (x1 * (78913 : Int))) (18 : Int))) H)
def W_internal_strconv_log10Pow2.Λ (_ : Value → Hp → Prop) : Cuts := Cuts.none (fun _ => none)
theorem W_internal_strconv_log10Pow2.ok (x1 : Int) (H : Hp) (K : Value → Hp → Prop) (h : W_internal_strconv_log10Pow2 x1 H K) : HCalls Tryd.prog 133 #[.int .i64 x1] H K :=
  hcalls Tryd.func133 rfl (Nat.le_of_ble_eq_true rfl) (hw_safe (Λ := Cuts.none (fun _ => none)) mixWlstrconv _ _ _ _ _ (Eq.mp (by kernel_rfl) h) (obs_none _ _ _ _ _))

-- internal/strconv.bool2[int]
def W_internal_strconv_bool2_int (c1 : Bool) (H : Hp) (K : Value → Hp → Prop) : Prop :=
  BIf c1 (K (.int .i64 (1 : Int)) H) (K (.int .i64 (0 : Int)) H)
def W_internal_strconv_bool2_int.Λ (_ : Value → Hp → Prop) : Cuts := Cuts.none (fun _ => none)
theorem W_internal_strconv_bool2_int.ok (c1 : Bool) (H : Hp) (K : Value → Hp → Prop) (h : W_internal_strconv_bool2_int c1 H K) : HCalls Tryd.prog 135 #[.bool c1] H K :=
  hcalls Tryd.func135 rfl (Nat.le_of_ble_eq_true rfl) (hw_safe (Λ := Cuts.none (fun _ => none)) mixWlstrconv _ _ _ _ _ (Eq.mp (by kernel_rfl) h) (obs_none _ _ _ _ _))

-- internal/strconv.isPowerOfTwo
def W_internal_strconv_isPowerOfTwo (x1 : Int) (H : Hp) (K : Value → Hp → Prop) : Prop :=
  K (.bool ((bAnd .i64 x1 (IntKind.i64.wrap (x1 - (1 : Int)))) == (0 : Int))) H
def W_internal_strconv_isPowerOfTwo.Λ (_ : Value → Hp → Prop) : Cuts := Cuts.none (fun _ => none)
theorem W_internal_strconv_isPowerOfTwo.ok (x1 : Int) (H : Hp) (K : Value → Hp → Prop) (h : W_internal_strconv_isPowerOfTwo x1 H K) : HCalls Tryd.prog 136 #[.int .i64 x1] H K :=
  hcalls Tryd.func136 rfl (Nat.le_of_ble_eq_true rfl) (hw_safe (Λ := Cuts.none (fun _ => none)) mixWlstrconv _ _ _ _ _ (Eq.mp (by kernel_rfl) h) (obs_none _ _ _ _ _))

end Go.Proofs.YtgkdkemhiglpdaaDoor.W

end
section
/-! Wabacistlaw38 -/
/- Formulas of functions, printed by wip/tools/hwp.py. -/
set_option maxRecDepth 100000
set_option linter.unusedVariables false
namespace Go.Proofs.YtgkdkemhiglpdaaDoor.W
open Go Go.Hw

theorem mixWabacistlaw38 : Tryd.prog.follows .mixedOrders = true := by kernel_rfl
-- abacistlaw38.GenRows
def W_abacistlaw38_GenRows.j9 (K : Value → Hp → Prop) (x12 : Int) (x13 : Int) (a2 : Addr) (A2 : Option Addr) (n2 : Nat) (m2 : Nat) (x14 : Int) (x15 : Int) (x16 : Int) (H : Hp) : Prop :=
  LdA H a2 4 fun l14 => HCalls Tryd.prog 30 #[.agg l14.toArray] H fun v14 H11 => DB v14 fun c8 => BIf (!c8) (BIf (x14 == (18 : Int)) (BIf (x16 == (18 : Int)) (BIf (((n2 : Nat) : Int) == (0 : Int)) (K (.bool (x15 == (0 : Int))) H11) (K (.bool false) H11)) (K (.bool false) H11)) (K (.bool false) H11)) (BIf (decide (x12 < (0 : Int))) (BIf (x14 == (2 : Int)) (BIf (x16 == (2 : Int)) (BIf (((n2 : Nat) : Int) == (0 : Int)) (K (.bool (x15 == (0 : Int))) H11) (K (.bool false) H11)) (K (.bool false) H11)) (K (.bool false) H11)) (BIf (decide (x12 > (100 : Int))) (BIf (x14 == (2 : Int)) (BIf (x16 == (2 : Int)) (BIf (((n2 : Nat) : Int) == (0 : Int)) (K (.bool (x15 == (0 : Int))) H11) (K (.bool false) H11)) (K (.bool false) H11)) (K (.bool false) H11)) (LdA H11 a2 4 fun l15 => HCalls Tryd.prog 31 #[.agg l15.toArray, .int .i64 (IntKind.i64.wrap (x12 + (1 : Int)))] H11 fun v15 H12 => DSl v15 fun A3 n3 m3 => BIf (x16 != (0 : Int)) (K (.bool false) H12) (ixI x12 n3 (NN A3 fun a3 => Ld H12 (a3.add (x12.toNat * 1)) fun v16 => DI .u64 v16 fun x17 => BIf (x15 != x17) (K (.bool false) H12) (BIf (decide (x13 < (0 : Int))) (BIf (x14 == (14 : Int)) (K (.bool (((n2 : Nat) : Int) == (0 : Int))) H12) (K (.bool false) H12)) (BIf (decide (x13 > (60 : Int))) (BIf (x14 == (14 : Int)) (K (.bool (((n2 : Nat) : Int) == (0 : Int))) H12) (K (.bool false) H12)) (LdA H12 a2 4 fun l16 => HCalls Tryd.prog 32 #[.agg l16.toArray, .int .i64 x13] H12 fun v17 H13 => DTup v17 fun l17 => DCons l17 fun v18 l18 => DSl v18 fun A4 n4 m4 => DCons l18 fun v19 l19 => DI .i64 v19 fun x18 => DNil l19 (LdA H13 a2 4 fun l20 => HCalls Tryd.prog 31 #[.agg l20.toArray, .int .i64 (IntKind.i64.wrap (x12 + x13))] H13 fun v20 H14 => DSl v20 fun A5 n5 m5 => BIf (x14 == (0 : Int)) (BIf (x18 == (0 : Int)) (slB n5 m5 (some x12) none fun n6 n7 => HCalls Tryd.prog 21 #[.slice A2 n2 m2, .slice (slA A5 m5 n6 1) (n7 - n6) (m5 - n6)] H14 fun v21 H15 => DB v21 fun c9 => BIf c9 (slB n5 m5 none (some x13) fun n8 n9 => HCalls Tryd.prog 21 #[.slice A4 n4 m4, .slice (slA A5 m5 n8 1) (n9 - n8) (m5 - n8)] H15 fun v22 H16 => DB v22 fun c10 => K (.bool c10) H16) (K (.bool false) H15)) (K (.bool false) H14)) (K (.bool false) H14))))))))))
def W_abacistlaw38_GenRows.j5 (K : Value → Hp → Prop) (x7 : Int) (x8 : Int) (a1 : Addr) (H : Hp) : Prop :=
  LdA H a1 4 fun l1 => HCalls Tryd.prog 27 #[.agg l1.toArray, .int .i64 x7, .int .i64 x8] H fun v2 H3 => DTup v2 fun l2 => DCons l2 fun v3 l3 => DSl v3 fun A1 n1 m1 => DCons l3 fun v4 l4 => DI .i64 v4 fun x9 => DNil l4 (LdA H3 a1 4 fun l5 => HCalls Tryd.prog 28 #[.agg l5.toArray, .int .i64 x7] H3 fun v5 H4 => DTup v5 fun l6 => DCons l6 fun v6 l7 => DI .u64 v6 fun x10 => DCons l7 fun v7 l8 => DI .i64 v7 fun x11 => DNil l8 ((LdA H4 a1 4 fun l9 => (HCalls Tryd.prog 29 #[.agg l9.toArray] H4 fun v8 H5 => DB v8 fun c2 => LdA H5 a1 4 fun l10 => HCalls Tryd.prog 30 #[.agg l10.toArray] H5 fun v9 H6 => DB v9 fun c3 => BIf (!(c2 == c3)) (K (.bool false) H6) (W_abacistlaw38_GenRows.j9 K x7 x8 a1 A1 n1 m1 x9 x10 x11 H6)) ∧ (LdA H4 a1 4 fun l11 => HCalls Tryd.prog 29 #[.agg l9.toArray] H4 fun v10 H7 => DB v10 fun c4 => HCalls Tryd.prog 30 #[.agg l11.toArray] H7 fun v11 H8 => DB v11 fun c5 => BIf (!(c4 == c5)) (K (.bool false) H8) (W_abacistlaw38_GenRows.j9 K x7 x8 a1 A1 n1 m1 x9 x10 x11 H8))) ∧ (LdA H4 a1 4 fun l12 => LdA H4 a1 4 fun l13 => HCalls Tryd.prog 29 #[.agg l13.toArray] H4 fun v12 H9 => DB v12 fun c6 => HCalls Tryd.prog 30 #[.agg l12.toArray] H9 fun v13 H10 => DB v13 fun c7 => BIf (!(c6 == c7)) (K (.bool false) H10) (W_abacistlaw38_GenRows.j9 K x7 x8 a1 A1 n1 m1 x9 x10 x11 H10))))
def W_abacistlaw38_GenRows (x1 : Int) (x2 : Int) (x3 : Int) (x4 : Int) (x5 : Int) (x6 : Int) (H : Hp) (K : Value → Hp → Prop) : Prop :=
  Nw H (.obj (.cells #[.int .i64 x1, .int .u64 x2, .int .u64 x3, .int .u64 x4] 75)) fun b1 H1 => HCalls Tryd.prog 26 #[] H1 fun v1 H2 => DB v1 fun c1 => BIf (!c1) (K (.bool false) H2) (BIf (decide (x6 > (60 : Int))) (BIf (decide (x6 ≤ (1048576 : Int))) (K (.bool true) H2) (BIf (decide (x5 > (100 : Int))) (BIf (decide (x5 < (4294967296 : Int))) (K (.bool true) H2) (W_abacistlaw38_GenRows.j5 K x5 x6 (⟨b1, 0, none⟩ : Addr) H2)) (W_abacistlaw38_GenRows.j5 K x5 x6 (⟨b1, 0, none⟩ : Addr) H2))) (BIf (decide (x5 > (100 : Int))) (BIf (decide (x5 < (4294967296 : Int))) (K (.bool true) H2) (W_abacistlaw38_GenRows.j5 K x5 x6 (⟨b1, 0, none⟩ : Addr) H2)) (W_abacistlaw38_GenRows.j5 K x5 x6 (⟨b1, 0, none⟩ : Addr) H2)))
def W_abacistlaw38_GenRows.Λ (K : Value → Hp → Prop) : Cuts := ⟨fun i => match Nat.beq i 9 with | true => some (fun E D H => DG (E.get? 1) fun w1 => DI .i64 w1 fun x12 => DG (E.get? 2) fun w2 => DI .i64 w2 fun x13 => DG (E.get? 3) fun w3 => DP w3 fun pw3 => NN pw3 fun a2 => DG (E.get? 7) fun w7 => DSl w7 fun A2 n2 m2 => DG (E.get? 8) fun w8 => DI .i64 w8 fun x14 => DG (E.get? 9) fun w9 => DI .u64 w9 fun x15 => DG (E.get? 10) fun w10 => DI .i64 w10 fun x16 => DNilD D (W_abacistlaw38_GenRows.j9 K x12 x13 a2 A2 n2 m2 x14 x15 x16 H)) | false => match Nat.beq i 5 with | true => some (fun E D H => DG (E.get? 1) fun w1 => DI .i64 w1 fun x7 => DG (E.get? 2) fun w2 => DI .i64 w2 fun x8 => DG (E.get? 3) fun w3 => DP w3 fun pw3 => NN pw3 fun a1 => DNilD D (W_abacistlaw38_GenRows.j5 K x7 x8 a1 H)) | false => none, fun i => none, (fun i => match Nat.beq i 7 with | true => some ([], [], 0) | false => none)⟩
theorem W_abacistlaw38_GenRows.ok (x1 : Int) (x2 : Int) (x3 : Int) (x4 : Int) (x5 : Int) (x6 : Int) (H : Hp) (K : Value → Hp → Prop) (h : W_abacistlaw38_GenRows x1 x2 x3 x4 x5 x6 H K) : HCalls Tryd.prog 7 #[.agg #[.int .i64 x1, .int .u64 x2, .int .u64 x3, .int .u64 x4], .int .i64 x5, .int .i64 x6] H K :=
  hcalls Tryd.func7 rfl (Nat.le_of_ble_eq_true rfl) (hw_safe (Λ := (W_abacistlaw38_GenRows.Λ K)) mixWabacistlaw38 _ _ _ _ _ (Eq.mp (by kernel_rfl) h) (obs_seq obs_region rfl (obs_seq (obs_seq obs_region rfl (obs_cond (obs_seq obs_region rfl obs_ret) obs_skip)) rfl (obs_seqc (obs_seq obs_region rfl (obs_cond (obs_seq obs_region rfl obs_ret) obs_skip)) rfl (fun E D H h => by
      obtain ⟨w1, e1, g1⟩ := DG.out h
      obtain ⟨x7, rfl, g2⟩ := DI.out g1
      obtain ⟨w2, e2, g3⟩ := DG.out g2
      obtain ⟨x8, rfl, g4⟩ := DI.out g3
      obtain ⟨w3, e3, g5⟩ := DG.out g4
      obtain ⟨pw3, rfl, g6⟩ := DP.out g5
      obtain ⟨a1, rfl, g7⟩ := NN.out g6
      obtain ⟨rfl, h'⟩ := DNilD.out g7
      exact (hw_safe (Λ := (W_abacistlaw38_GenRows.Λ K)) mixWabacistlaw38 _ _ [(1, .int .i64 x7), (2, .int .i64 x8), (3, .pointer (some a1))] [] H (Eq.mp (by kernel_rfl) h') (obs_seq obs_region rfl (obs_seq obs_region rfl (obs_seqc (obs_seq obs_region rfl (obs_cond (obs_seq obs_region rfl obs_ret) obs_skip)) rfl (fun E D H h => by
          obtain ⟨w1, e1, g1⟩ := DG.out h
          obtain ⟨x12, rfl, g2⟩ := DI.out g1
          obtain ⟨w2, e2, g3⟩ := DG.out g2
          obtain ⟨x13, rfl, g4⟩ := DI.out g3
          obtain ⟨w3, e3, g5⟩ := DG.out g4
          obtain ⟨pw3, rfl, g6⟩ := DP.out g5
          obtain ⟨a2, rfl, g7⟩ := NN.out g6
          obtain ⟨w7, e7, g8⟩ := DG.out g7
          obtain ⟨A2, n2, m2, rfl, g9⟩ := DSl.out g8
          obtain ⟨w8, e8, g10⟩ := DG.out g9
          obtain ⟨x14, rfl, g11⟩ := DI.out g10
          obtain ⟨w9, e9, g12⟩ := DG.out g11
          obtain ⟨x15, rfl, g13⟩ := DI.out g12
          obtain ⟨w10, e10, g14⟩ := DG.out g13
          obtain ⟨x16, rfl, g15⟩ := DI.out g14
          obtain ⟨rfl, h'⟩ := DNilD.out g15
          exact (hw_safe (Λ := (W_abacistlaw38_GenRows.Λ K)) mixWabacistlaw38 _ _ [(1, .int .i64 x12), (2, .int .i64 x13), (3, .pointer (some a2)), (7, .slice A2 n2 m2), (8, .int .i64 x14), (9, .int .u64 x15), (10, .int .i64 x16)] [] H (Eq.mp (by kernel_rfl) h') (obs_seq (obs_seq obs_region rfl (obs_cond (obs_seq obs_region rfl obs_ret) obs_skip)) rfl (obs_seq (obs_seq obs_region rfl (obs_cond (obs_seq obs_region rfl obs_ret) obs_skip)) rfl (obs_seq obs_region rfl (obs_seq (obs_seq obs_region rfl (obs_cond (obs_seq obs_region rfl obs_ret) obs_skip)) rfl (obs_seq (obs_seq obs_region rfl (obs_cond (obs_seq obs_region rfl obs_ret) obs_skip)) rfl (obs_seq obs_region rfl (obs_seq obs_region rfl (obs_seq obs_region rfl obs_ret))))))))).weaken (EnvLe.cons e1 (EnvLe.cons e2 (EnvLe.cons e3 (EnvLe.cons e7 (EnvLe.cons e8 (EnvLe.cons e9 (EnvLe.cons e10 (EnvLe.nil _)))))))) (Hp.le_refl _)))))).weaken (EnvLe.cons e1 (EnvLe.cons e2 (EnvLe.cons e3 (EnvLe.nil _)))) (Hp.le_refl _))))))

-- abacistlaw38.GenFar
def W_abacistlaw38_GenFar.j28 (K : Value → Hp → Prop) (R9 : Int → Addr → Option Addr → Nat → Nat → Int → Hp → Prop) (x35 : Int) (a4 : Addr) (A3 : Option Addr) (n3 : Nat) (m3 : Nat) (x36 : Int) (x37 : Int) (H : Hp) : Prop :=
  ixI x36 n3 (NN A3 fun a5 => Ld H (a5.add (x36.toNat * 1)) fun v33 => DI .u64 v33 fun x38 => BIf (x38 != x37) (K (.bool false) H) (R9 x35 a4 A3 n3 m3 (IntKind.i64.wrap (x36 + (1 : Int))) H))
def W_abacistlaw38_GenFar.l9 (K : Value → Hp → Prop) : Nat → Int → Addr → Option Addr → Nat → Nat → Int → Hp → Prop
  | 0, _, _, _, _, _, _, _ => False
  | k + 1, x7, a1, A2, n2, m2, x8, H =>
    let R9 := W_abacistlaw38_GenFar.l9 K k
    BIf (decide (x8 < (3 : Int))) (LdA H a1 4 fun l6 => HCalls Tryd.prog 28 #[.agg l6.toArray, .int .i64 (IntKind.i64.wrap ((IntKind.i64.wrap x7) + x8))] H fun v6 H5 => DTup v6 fun l7 => DCons l7 fun v7 l8 => DI .u64 v7 fun x9 => DCons l8 fun v8 l9 => DI .i64 v8 fun x10 => DNil l9 (BIf (x10 != (0 : Int)) (K (.bool false) H5) (ixI x8 n2 (NN A2 fun a2 => Ld H5 (a2.add (x8.toNat * 1)) fun v9 => DI .u64 v9 fun x11 => BIf (x9 != x11) (K (.bool false) H5) (BIf (x8 == (0 : Int)) (R9 x7 a1 A2 n2 m2 (IntKind.i64.wrap (x8 + (1 : Int))) H5) (ixI (IntKind.i64.wrap (x8 - (1 : Int))) n2 (NN A2 fun a3 => Ld H5 (a3.add ((IntKind.i64.wrap (x8 - (1 : Int))).toNat * 1)) fun v10 => DI .u64 v10 fun x12 => Ld H5 (a1.add 0) fun v11 => DI .i64 v11 fun x13 => BIf (x13 == (2 : Int)) (Ld H5 (a1.add 2) fun v12 => DI .u64 v12 fun x14 => HCalls Tryd.prog 33 #[.int .u64 x12, .int .u64 x14] H5 fun v13 H6 => DI .u64 v13 fun x15 => W_abacistlaw38_GenFar.j28 K R9 x7 a1 A2 n2 m2 x8 x15 H6) (BIf (x13 == (3 : Int)) (Ld H5 (a1.add 2) fun v14 => DI .u64 v14 fun x16 => HCalls Tryd.prog 34 #[.int .u64 x12, .int .u64 x16] H5 fun v15 H7 => DI .u64 v15 fun x17 => W_abacistlaw38_GenFar.j28 K R9 x7 a1 A2 n2 m2 x8 x17 H7) (BIf (x13 == (4 : Int)) (Ld H5 (a1.add 2) fun v16 => DI .u64 v16 fun x18 => QCall Tryd.prog 34 #[.int .u64 x12, .int .u64 x18] H5 fun v17 => DI .u64 v17 fun x19 => Ld H5 (a1.add 3) fun v18 => DI .u64 v18 fun x20 => QCall Tryd.prog 33 #[.int .u64 x19, .int .u64 x20] H5 fun v19 => DI .u64 v19 fun x21 => W_abacistlaw38_GenFar.j28 K R9 x7 a1 A2 n2 m2 x8 x21 H5) (BIf (x13 == (5 : Int)) (Ld H5 (a1.add 3) fun v20 => DI .u64 v20 fun x22 => BIf (x22 == (0 : Int)) (Ld H5 (a1.add 2) fun v21 => DI .u64 v21 fun x23 => BIf ((IntKind.u64.wrap ((IntKind.u64.wrap x7) + (IntKind.u64.wrap x8))) == x23) (Ld H5 (a1.add 1) fun v30 => DI .u64 v30 fun x32 => W_abacistlaw38_GenFar.j28 K R9 x7 a1 A2 n2 m2 x8 x32 H5) (Ld H5 (a1.add 3) fun v22 => DI .u64 v22 fun x24 => BIf (decide (x24 > (0 : Int))) (Ld H5 (a1.add 3) fun v24 => DI .u64 v24 fun x26 => (x26 ≠ 0 ∧ IntKind.u64 = IntKind.u64 ∧ Ld H5 (a1.add 2) fun v26 => DI .u64 v26 fun x28 => Ld H5 (a1.add 3) fun v28 => DI .u64 v28 fun x30 => (x30 ≠ 0 ∧ IntKind.u64 = IntKind.u64 ∧ BIf ((Int.tmod (IntKind.u64.wrap ((IntKind.u64.wrap x7) + (IntKind.u64.wrap x8))) x26) == (Int.tmod x28 x30)) (Ld H5 (a1.add 1) fun v31 => DI .u64 v31 fun x33 => W_abacistlaw38_GenFar.j28 K R9 x7 a1 A2 n2 m2 x8 x33 H5) (W_abacistlaw38_GenFar.j28 K R9 x7 a1 A2 n2 m2 x8 (0 : Int) H5)))) (W_abacistlaw38_GenFar.j28 K R9 x7 a1 A2 n2 m2 x8 (0 : Int) H5))) (Ld H5 (a1.add 3) fun v23 => DI .u64 v23 fun x25 => BIf (decide (x25 > (0 : Int))) (Ld H5 (a1.add 3) fun v25 => DI .u64 v25 fun x27 => (x27 ≠ 0 ∧ IntKind.u64 = IntKind.u64 ∧ Ld H5 (a1.add 2) fun v27 => DI .u64 v27 fun x29 => Ld H5 (a1.add 3) fun v29 => DI .u64 v29 fun x31 => (x31 ≠ 0 ∧ IntKind.u64 = IntKind.u64 ∧ BIf ((Int.tmod (IntKind.u64.wrap ((IntKind.u64.wrap x7) + (IntKind.u64.wrap x8))) x27) == (Int.tmod x29 x31)) (Ld H5 (a1.add 1) fun v32 => DI .u64 v32 fun x34 => W_abacistlaw38_GenFar.j28 K R9 x7 a1 A2 n2 m2 x8 x34 H5) (W_abacistlaw38_GenFar.j28 K R9 x7 a1 A2 n2 m2 x8 (0 : Int) H5)))) (W_abacistlaw38_GenFar.j28 K R9 x7 a1 A2 n2 m2 x8 (0 : Int) H5))) (W_abacistlaw38_GenFar.j28 K R9 x7 a1 A2 n2 m2 x8 x12 H5))))))))))) (K (.bool true) H)
def W_abacistlaw38_GenFar (x1 : Int) (x2 : Int) (x3 : Int) (x4 : Int) (x5 : Int) (H : Hp) (K : Value → Hp → Prop) : Prop :=
  Nw H (.obj (.cells #[.int .i64 x1, .int .u64 x2, .int .u64 x3, .int .u64 x4] 75)) fun b1 H1 => HCalls Tryd.prog 26 #[] H1 fun v1 H2 => DB v1 fun c1 => BIf (!c1) (K (.bool false) H2) (LdA H2 (⟨b1, 0, none⟩ : Addr) 4 fun l1 => HCalls Tryd.prog 30 #[.agg l1.toArray] H2 fun v2 H3 => DB v2 fun c2 => BIf (!c2) (K (.bool true) H3) (BIf (decide (x5 > (4294967290 : Int))) (K (.bool true) H3) (LdA H3 (⟨b1, 0, none⟩ : Addr) 4 fun l2 => HCalls Tryd.prog 27 #[.agg l2.toArray, .int .i64 (IntKind.i64.wrap x5), .int .i64 (3 : Int)] H3 fun v3 H4 => DTup v3 fun l3 => DCons l3 fun v4 l4 => DSl v4 fun A1 n1 m1 => DCons l4 fun v5 l5 => DI .i64 v5 fun x6 => DNil l5 (BIf (x6 != (0 : Int)) (K (.bool false) H4) (BIf (((n1 : Nat) : Int) != (3 : Int)) (K (.bool false) H4) ((∃ k, W_abacistlaw38_GenFar.l9 K k x5 (⟨b1, 0, none⟩ : Addr) A1 n1 m1 (0 : Int) H4)))))))
def W_abacistlaw38_GenFar.l9.L (K : Value → Hp → Prop) (k : Nat) : Mid := fun E D H =>
  DG (E.get? 1) fun w1 => DI .u32 w1 fun x7 => DG (E.get? 2) fun w2 => DP w2 fun pw2 => NN pw2 fun a1 => DG (E.get? 5) fun w5 => DSl w5 fun A2 n2 m2 => DG (E.get? 7) fun w7 => DI .i64 w7 fun x8 => DNilD D (W_abacistlaw38_GenFar.l9 K k x7 a1 A2 n2 m2 x8 H)
def W_abacistlaw38_GenFar.Λ9 (K : Value → Hp → Prop) (R9 : Int → Addr → Option Addr → Nat → Nat → Int → Hp → Prop) : Cuts := ⟨fun i => match Nat.beq i 28 with | true => some (fun E D H => DG (E.get? 1) fun w1 => DI .u32 w1 fun x35 => DG (E.get? 2) fun w2 => DP w2 fun pw2 => NN pw2 fun a4 => DG (E.get? 5) fun w5 => DSl w5 fun A3 n3 m3 => DG (E.get? 7) fun w7 => DI .i64 w7 fun x36 => DG (E.get? 10) fun w10 => DI .u64 w10 fun x37 => DNilD D (W_abacistlaw38_GenFar.j28 K R9 x35 a4 A3 n3 m3 x36 x37 H)) | false => none, fun i => none, (fun _ => none)⟩
def W_abacistlaw38_GenFar.Λ (K : Value → Hp → Prop) : Cuts := ⟨fun i => none, fun i => match Nat.beq i 9 with | true => some (fun E D H => ∃ k, W_abacistlaw38_GenFar.l9.L K k E D H) | false => none, (fun _ => none)⟩
theorem W_abacistlaw38_GenFar.ok (x1 : Int) (x2 : Int) (x3 : Int) (x4 : Int) (x5 : Int) (H : Hp) (K : Value → Hp → Prop) (h : W_abacistlaw38_GenFar x1 x2 x3 x4 x5 H K) : HCalls Tryd.prog 8 #[.agg #[.int .i64 x1, .int .u64 x2, .int .u64 x3, .int .u64 x4], .int .u32 x5] H K :=
  hcalls Tryd.func8 rfl (Nat.le_of_ble_eq_true rfl) (hw_safe (Λ := (W_abacistlaw38_GenFar.Λ K)) mixWabacistlaw38 _ _ _ _ _ (Eq.mp (by kernel_rfl) h) (obs_seq obs_region rfl (obs_seq (obs_seq obs_region rfl (obs_cond (obs_seq obs_region rfl obs_ret) obs_skip)) rfl (obs_seq (obs_seq obs_region rfl (obs_cond (obs_seq obs_region rfl obs_ret) obs_skip)) rfl (obs_seq obs_region rfl (obs_seq (obs_seq obs_region rfl (obs_cond (obs_seq obs_region rfl obs_ret) obs_skip)) rfl (obs_seq (obs_seq obs_region rfl (obs_block (obs_loop rfl (fun E D H h => by
      refine Safe.loop' (W_abacistlaw38_GenFar.l9.L K) (fun E D H h => ?_) (fun k E D H h => ?_) E D H h
      · obtain ⟨w1, e1, g1⟩ := DG.out h; obtain ⟨x7, rfl, g2⟩ := DI.out g1; obtain ⟨w2, e2, g3⟩ := DG.out g2; obtain ⟨pw2, rfl, g4⟩ := DP.out g3; obtain ⟨a1, rfl, g5⟩ := NN.out g4; obtain ⟨w5, e5, g6⟩ := DG.out g5; obtain ⟨A2, n2, m2, rfl, g7⟩ := DSl.out g6; obtain ⟨w7, e7, g8⟩ := DG.out g7; obtain ⟨x8, rfl, g9⟩ := DI.out g8; obtain ⟨rfl, h'⟩ := DNilD.out g9; exact h'
      · obtain ⟨w1, e1, g1⟩ := DG.out h
        obtain ⟨x7, rfl, g2⟩ := DI.out g1
        obtain ⟨w2, e2, g3⟩ := DG.out g2
        obtain ⟨pw2, rfl, g4⟩ := DP.out g3
        obtain ⟨a1, rfl, g5⟩ := NN.out g4
        obtain ⟨w5, e5, g6⟩ := DG.out g5
        obtain ⟨A2, n2, m2, rfl, g7⟩ := DSl.out g6
        obtain ⟨w7, e7, g8⟩ := DG.out g7
        obtain ⟨x8, rfl, g9⟩ := DI.out g8
        obtain ⟨rfl, h'⟩ := DNilD.out g9
        exact (hw_safe (Λ := (W_abacistlaw38_GenFar.Λ9 K (W_abacistlaw38_GenFar.l9 K k))) mixWabacistlaw38 _ _ [(1, .int .u32 x7), (2, .pointer (some a1)), (5, .slice A2 n2 m2), (7, .int .i64 x8)] [] H (Eq.mp (by kernel_rfl) h') (obs_seq (obs_seq obs_region rfl (obs_cond obs_skip obs_exit)) rfl (obs_seq (obs_block (obs_seq obs_region rfl (obs_seq (obs_seq obs_region rfl (obs_cond (obs_seq obs_region rfl obs_ret) obs_skip)) rfl (obs_seq (obs_seq obs_region rfl (obs_cond obs_exit obs_skip)) rfl (obs_seq obs_region rfl (obs_seqc (obs_seq obs_region rfl (obs_block (obs_seq obs_region rfl (obs_cond obs_region (obs_seq obs_region rfl (obs_cond obs_region (obs_seq obs_region rfl (obs_cond obs_region (obs_seq obs_region rfl (obs_cond (obs_seq obs_region rfl (obs_seq obs_region rfl (obs_seq obs_region rfl (obs_cond obs_region obs_skip)))) obs_skip)))))))))) rfl (fun E D H h => by
            obtain ⟨w1, e1, g1⟩ := DG.out h
            obtain ⟨x35, rfl, g2⟩ := DI.out g1
            obtain ⟨w2, e2, g3⟩ := DG.out g2
            obtain ⟨pw2, rfl, g4⟩ := DP.out g3
            obtain ⟨a4, rfl, g5⟩ := NN.out g4
            obtain ⟨w5, e5, g6⟩ := DG.out g5
            obtain ⟨A3, n3, m3, rfl, g7⟩ := DSl.out g6
            obtain ⟨w7, e7, g8⟩ := DG.out g7
            obtain ⟨x36, rfl, g9⟩ := DI.out g8
            obtain ⟨w10, e10, g10⟩ := DG.out g9
            obtain ⟨x37, rfl, g11⟩ := DI.out g10
            obtain ⟨rfl, h'⟩ := DNilD.out g11
            exact (hw_safe (Λ := (W_abacistlaw38_GenFar.Λ9 K (W_abacistlaw38_GenFar.l9 K k))) mixWabacistlaw38 _ _ [(1, .int .u32 x35), (2, .pointer (some a4)), (5, .slice A3 n3 m3), (7, .int .i64 x36), (10, .int .u64 x37)] [] H (Eq.mp (by kernel_rfl) h') (obs_seq obs_region rfl (obs_cond (obs_seq obs_region rfl obs_ret) obs_skip))).weaken (EnvLe.cons e1 (EnvLe.cons e2 (EnvLe.cons e5 (EnvLe.cons e7 (EnvLe.cons e10 (EnvLe.nil _)))))) (Hp.le_refl _)))))))) rfl obs_region))).weaken (EnvLe.cons e1 (EnvLe.cons e2 (EnvLe.cons e5 (EnvLe.cons e7 (EnvLe.nil _))))) (Hp.le_refl _))))) rfl (obs_seq obs_region rfl obs_ret))))))))

-- abacistlaw38.GenSums
def W_abacistlaw38_GenSums.l14 (K : Value → Hp → Prop) : Nat → Int → Option Addr → Nat → Nat → Int → Int → Hp → Prop
  | 0, _, _, _, _, _, _, _ => False
  | k + 1, x8, A2, n2, m2, x9, x10, H =>
    let R14 := W_abacistlaw38_GenSums.l14 K k
    BIf (decide (x10 < ((n2 : Nat) : Int))) (ixI x10 n2 (NN A2 fun a1 => Ld H (a1.add (x10.toNat * 1)) fun v7 => DI .u64 v7 fun x11 => HCalls Tryd.prog 33 #[.int .u64 x9, .int .u64 x11] H fun v8 H6 => DI .u64 v8 fun x12 => R14 x8 A2 n2 m2 x12 (IntKind.i64.wrap (x10 + (1 : Int))) H6)) (K (.bool (x8 == x9)) H)
def W_abacistlaw38_GenSums (x1 : Int) (x2 : Int) (x3 : Int) (x4 : Int) (x5 : Int) (H : Hp) (K : Value → Hp → Prop) : Prop :=
  Nw H (.obj (.cells #[.int .i64 x1, .int .u64 x2, .int .u64 x3, .int .u64 x4] 75)) fun b1 H1 => HCalls Tryd.prog 26 #[] H1 fun v1 H2 => DB v1 fun c1 => BIf (!c1) (K (.bool false) H2) (LdA H2 (⟨b1, 0, none⟩ : Addr) 4 fun l1 => HCalls Tryd.prog 35 #[.agg l1.toArray, .int .i64 x5] H2 fun v2 H3 => DTup v2 fun l2 => DCons l2 fun v3 l3 => DI .u64 v3 fun x6 => DCons l3 fun v4 l4 => DI .i64 v4 fun x7 => DNil l4 (LdA H3 (⟨b1, 0, none⟩ : Addr) 4 fun l5 => HCalls Tryd.prog 30 #[.agg l5.toArray] H3 fun v5 H4 => DB v5 fun c2 => BIf (!c2) (BIf (x7 == (18 : Int)) (K (.bool (x6 == (0 : Int))) H4) (K (.bool false) H4)) (BIf (decide (x5 < (0 : Int))) (BIf (x7 == (2 : Int)) (K (.bool (x6 == (0 : Int))) H4) (K (.bool false) H4)) (BIf (decide (x5 > (4294967296 : Int))) (BIf (x7 == (2 : Int)) (K (.bool (x6 == (0 : Int))) H4) (K (.bool false) H4)) (BIf (x7 != (0 : Int)) (K (.bool false) H4) (BIf (decide (x5 ≤ (60 : Int))) (LdA H4 (⟨b1, 0, none⟩ : Addr) 4 fun l6 => HCalls Tryd.prog 31 #[.agg l6.toArray, .int .i64 x5] H4 fun v6 H5 => DSl v6 fun A1 n1 m1 => (∃ k, W_abacistlaw38_GenSums.l14 K k x6 A1 n1 m1 (0 : Int) (0 : Int) H5)) (LdA H4 (⟨b1, 0, none⟩ : Addr) 4 fun l7 => HCalls Tryd.prog 35 #[.agg l7.toArray, .int .i64 (IntKind.i64.wrap (x5 - (1 : Int)))] H4 fun v9 H7 => DTup v9 fun l8 => DCons l8 fun v10 l9 => DI .u64 v10 fun x13 => DCons l9 fun v11 l10 => DI .i64 v11 fun x14 => DNil l10 (LdA H7 (⟨b1, 0, none⟩ : Addr) 4 fun l11 => HCalls Tryd.prog 28 #[.agg l11.toArray, .int .i64 (IntKind.i64.wrap (x5 - (1 : Int)))] H7 fun v12 H8 => DTup v12 fun l12 => DCons l12 fun v13 l13 => DI .u64 v13 fun x15 => DCons l13 fun v14 l14 => DI .i64 v14 fun x16 => DNil l14 (BIf (x14 == (0 : Int)) (BIf (x16 == (0 : Int)) (HCalls Tryd.prog 33 #[.int .u64 x13, .int .u64 x15] H8 fun v15 H9 => DI .u64 v15 fun x17 => K (.bool (x6 == x17)) H9) (K (.bool false) H8)) (K (.bool false) H8))))))))))
def W_abacistlaw38_GenSums.l14.L (K : Value → Hp → Prop) (k : Nat) : Mid := fun E D H =>
  DG (E.get? 5) fun w5 => DI .u64 w5 fun x8 => DG (E.get? 7) fun w7 => DSl w7 fun A2 n2 m2 => DG (E.get? 8) fun w8 => DI .u64 w8 fun x9 => DG (E.get? 9) fun w9 => DI .i64 w9 fun x10 => DNilD D (W_abacistlaw38_GenSums.l14 K k x8 A2 n2 m2 x9 x10 H)
def W_abacistlaw38_GenSums.Λ14 (_ : Value → Hp → Prop) (_R14 : Int → Option Addr → Nat → Nat → Int → Int → Hp → Prop) : Cuts := Cuts.none (fun _ => none)
def W_abacistlaw38_GenSums.Λ (K : Value → Hp → Prop) : Cuts := ⟨fun i => none, fun i => match Nat.beq i 14 with | true => some (fun E D H => ∃ k, W_abacistlaw38_GenSums.l14.L K k E D H) | false => none, (fun _ => none)⟩
theorem W_abacistlaw38_GenSums.ok (x1 : Int) (x2 : Int) (x3 : Int) (x4 : Int) (x5 : Int) (H : Hp) (K : Value → Hp → Prop) (h : W_abacistlaw38_GenSums x1 x2 x3 x4 x5 H K) : HCalls Tryd.prog 9 #[.agg #[.int .i64 x1, .int .u64 x2, .int .u64 x3, .int .u64 x4], .int .i64 x5] H K :=
  hcalls Tryd.func9 rfl (Nat.le_of_ble_eq_true rfl) (hw_safe (Λ := (W_abacistlaw38_GenSums.Λ K)) mixWabacistlaw38 _ _ _ _ _ (Eq.mp (by kernel_rfl) h) (obs_seq obs_region rfl (obs_seq (obs_seq obs_region rfl (obs_cond (obs_seq obs_region rfl obs_ret) obs_skip)) rfl (obs_seq obs_region rfl (obs_seq (obs_seq obs_region rfl (obs_cond (obs_seq obs_region rfl obs_ret) obs_skip)) rfl (obs_seq (obs_seq obs_region rfl (obs_cond (obs_seq obs_region rfl obs_ret) obs_skip)) rfl (obs_seq (obs_seq obs_region rfl (obs_cond (obs_seq obs_region rfl obs_ret) obs_skip)) rfl (obs_seq (obs_seq obs_region rfl (obs_cond (obs_seq obs_region rfl (obs_seq obs_region rfl (obs_seq (obs_seq obs_region rfl (obs_block (obs_loop rfl (fun E D H h => by
      refine Safe.loop' (W_abacistlaw38_GenSums.l14.L K) (fun E D H h => ?_) (fun k E D H h => ?_) E D H h
      · obtain ⟨w5, e5, g1⟩ := DG.out h; obtain ⟨x8, rfl, g2⟩ := DI.out g1; obtain ⟨w7, e7, g3⟩ := DG.out g2; obtain ⟨A2, n2, m2, rfl, g4⟩ := DSl.out g3; obtain ⟨w8, e8, g5⟩ := DG.out g4; obtain ⟨x9, rfl, g6⟩ := DI.out g5; obtain ⟨w9, e9, g7⟩ := DG.out g6; obtain ⟨x10, rfl, g8⟩ := DI.out g7; obtain ⟨rfl, h'⟩ := DNilD.out g8; exact h'
      · obtain ⟨w5, e5, g1⟩ := DG.out h
        obtain ⟨x8, rfl, g2⟩ := DI.out g1
        obtain ⟨w7, e7, g3⟩ := DG.out g2
        obtain ⟨A2, n2, m2, rfl, g4⟩ := DSl.out g3
        obtain ⟨w8, e8, g5⟩ := DG.out g4
        obtain ⟨x9, rfl, g6⟩ := DI.out g5
        obtain ⟨w9, e9, g7⟩ := DG.out g6
        obtain ⟨x10, rfl, g8⟩ := DI.out g7
        obtain ⟨rfl, h'⟩ := DNilD.out g8
        exact (hw_safe (Λ := (W_abacistlaw38_GenSums.Λ14 K (W_abacistlaw38_GenSums.l14 K k))) mixWabacistlaw38 _ _ [(5, .int .u64 x8), (7, .slice A2 n2 m2), (8, .int .u64 x9), (9, .int .i64 x10)] [] H (Eq.mp (by kernel_rfl) h') (obs_seq (obs_seq obs_region rfl (obs_cond obs_skip obs_exit)) rfl (obs_seq (obs_block obs_region) rfl obs_region))).weaken (EnvLe.cons e5 (EnvLe.cons e7 (EnvLe.cons e8 (EnvLe.cons e9 (EnvLe.nil _))))) (Hp.le_refl _))))) rfl (obs_seq obs_region rfl obs_ret)))) obs_skip)) rfl (obs_seq obs_region rfl (obs_seq obs_region rfl (obs_seq obs_region rfl obs_ret)))))))))))

-- abacistlaw38.awake
def W_abacistlaw38_awake (H : Hp) (K : Value → Hp → Prop) : Prop :=
  HCalls Tryd.prog 32 #[.agg #[.int .i64 (2 : Int), .int .u64 (3 : Int), .int .u64 (2 : Int), .int .u64 (0 : Int)], .int .i64 (4 : Int)] H fun v1 H1 => DTup v1 fun l1 => DCons l1 fun v2 l2 => DSl v2 fun A1 n1 m1 => DCons l2 fun v3 l3 => DI .i64 v3 fun x1 => DNil l3 (BIf (x1 == (0 : Int)) (Nw H1 (.row [.int .u64 (3 : Int), .int .u64 (5 : Int), .int .u64 (7 : Int), .int .u64 (9 : Int)] 22 4) fun b1 H2 => HCalls Tryd.prog 21 #[.slice A1 n1 m1, .slice (some ⟨b1, 0, none⟩) 4 4] H2 fun v4 H3 => DB v4 fun c1 => BIf c1 (HCalls Tryd.prog 58 #[.agg #[.int .i64 (3 : Int), .int .u64 (1 : Int), .int .u64 (7 : Int), .int .u64 (0 : Int)]] H3 fun v5 H4 => DS v5 fun s1 => K (.bool (s1.toList == ((⟨#[112, 111, 119, 101, 114, 32, 49, 32, 55]⟩) : ByteArray).toList)) H4) (K (.bool false) H3)) (K (.bool false) H1))
def W_abacistlaw38_awake.Λ (_ : Value → Hp → Prop) : Cuts := Cuts.none (fun _ => none)
theorem W_abacistlaw38_awake.ok (H : Hp) (K : Value → Hp → Prop) (h : W_abacistlaw38_awake H K) : HCalls Tryd.prog 26 #[] H K :=
  hcalls Tryd.func26 rfl (Nat.le_of_ble_eq_true rfl) (hw_safe (Λ := Cuts.none (fun _ => none)) mixWabacistlaw38 _ _ _ _ _ (Eq.mp (by kernel_rfl) h) (obs_none _ _ _ _ _))

end Go.Proofs.YtgkdkemhiglpdaaDoor.W

end
section
/-! GenE -/
/- gen: a rule's line, of small numbers; the law's first look. -/
set_option maxRecDepth 100000
set_option linter.unusedSimpArgs false
set_option linter.unusedVariables false
set_option linter.unnecessarySimpa false
set_option linter.unusedSectionVars false
namespace Go.Proofs.YtgkdkemhiglpdaaDoor.Gen
open Go Go.Hw Go.Proofs.YtgkdkemhiglpdaaDoor.W Go.Proofs.YtgkdkemhiglpdaaDoor.Gol

theorem LdA_two {H : Hp} {g off : Nat} {u v : Value} {K : List Value → Prop} (h1 : H.cell? ⟨g, off, none⟩ = some u) (h2 : H.cell? ⟨g, off + 1, none⟩ = some v) (k : K [u, v]) : LdA H ⟨g, off, none⟩ 2 K := by
  have e0 : (⟨g, off, none⟩ : Addr).add 0 = ⟨g, off, none⟩ := by rw [Addr.add_lit']; rfl
  have e1 : (⟨g, off, none⟩ : Addr).add (0 + 1) = ⟨g, off + 1, none⟩ := by rw [Addr.add_lit']
  unfold LdA Hp.cells? Hp.cells? Hp.cells?
  rw [e0, e1, h1, h2]
  exact k

/-- Small numbers' texts. -/
theorem small_ok (x : Nat) (hx : x < 10) (H : Hp) : HCalls Tryd.prog 119 #[.int .i64 (x : Int)] H (RetE (.string ⟨#[UInt8.ofNat (48 + x)]⟩) H) := by
  apply W_internal_strconv_small.ok
  unfold W_internal_strconv_small
  refine BIf_dpos (by omega) ?_
  rw [i64w (x := (x : Int) + 1) (by omega) (by omega)]
  refine ⟨by omega, by show (x : Int) + 1 ≤ 36; omega, by omega, by omega, ?_⟩
  rw [show ((x : Int) + 1).toNat = x + 1 by omega, Int.toNat_natCast]
  have : ∀ y, y < 10 → ((⟨#[48, 49, 50, 51, 52, 53, 54, 55, 56, 57, 97, 98, 99, 100, 101, 102, 103, 104, 105, 106, 107, 108, 109, 110, 111, 112, 113, 114, 115, 116, 117, 118, 119, 120, 121, 122]⟩ : ByteArray).extract y (y + 1)) = ⟨#[UInt8.ofNat (48 + y)]⟩ := by decide
  exact ⟨congrArg Value.string (this x hx), rfl⟩
theorem Format_ok (x : Nat) (hx : x < 10) (H : Hp) : HCalls Tryd.prog 74 #[.int .u64 (x : Int), .int .i64 10] H (RetE (.string ⟨#[UInt8.ofNat (48 + x)]⟩) H) := by
  apply W_strconv_FormatUint.ok
  unfold W_strconv_FormatUint
  have h : HCalls Tryd.prog 102 #[.int .u64 (x : Int), .int .i64 10] H (RetE (.string ⟨#[UInt8.ofNat (48 + x)]⟩) H) := by
    apply W_internal_strconv_FormatUint.ok
    unfold W_internal_strconv_FormatUint
    refine BIf_beqp rfl (BIf_dpos (by omega) ?_)
    rw [i64n (by omega)]
    refine HCalls.use (small_ok x hx H) ?_
    simp only [DI_int', DB_bool, DS_string, DP_pointer, DSl_slice, DM_map, DA_agg, DTup_tuple, DCons_cons, DNil_nil, NN_some, BIf_true, BIf_false, BIf_same, List.toList_toArray, Bool.not_true, Bool.not_false]
    exact RetE.mk _ _
  refine HCalls.use h ?_
  simp only [DI_int', DB_bool, DS_string, DP_pointer, DSl_slice, DM_map, DA_agg, DTup_tuple, DCons_cons, DNil_nil, NN_some, BIf_true, BIf_false, BIf_same, List.toList_toArray, Bool.not_true, Bool.not_false]
  exact RetE.mk _ _

theorem cell_str : cellInfo Tryd.prog 9 = some (1, 16, some #[.string ByteArray.empty]) := by kernel_rfl

/-- Two small numbers' text. -/
theorem Text_two (A : Option Addr) (m : Nat) (x y : Nat) (hx : x < 10) (hy : y < 10) (H : Hp) (hc : Cells H A (natV [x, y])) :
    HCalls Tryd.prog 85 #[.slice A 2 m] H (RetE (.string ⟨#[UInt8.ofNat (48 + x), 32, UInt8.ofNat (48 + y)]⟩) H) := HCalls.ret (by
  apply W_codec_Text.ok
  unfold W_codec_Text
  have hs := Sep.start H
  have hs : Sep [own H, Own 9 1 none 0 0 []] H := by
    have : Sep (Own 9 1 none 0 0 [] :: [own H]) H := ⟨fun _ => none, H, fun _ _ h => (nomatch h), Hp.le_refl _, fun _ => .inl rfl, Own.none _ _ _, hs⟩
    exact this.re [1, 0] rfl
  refine ⟨3, ?_⟩
  unfold W_codec_Text.l3
  refine BIf_dpos (by decide) ?_
  refine hc.read (i := 0) rfl rfl (by rw [natV_length]; exact Nat.le_refl _) ?_
  simp only [DI_int', DB_bool, DS_string, DP_pointer, DSl_slice, DM_map, DA_agg, DTup_tuple, DCons_cons, DNil_nil, NN_some, BIf_true, BIf_false, BIf_same, List.toList_toArray, Bool.not_true, Bool.not_false]
  refine HCalls.use (Format_ok x hx H) ?_
  simp only [DI_int', DB_bool, DS_string, DP_pointer, DSl_slice, DM_map, DA_agg, DTup_tuple, DCons_cons, DNil_nil, NN_some, BIf_true, BIf_false, BIf_same, List.toList_toArray, Bool.not_true, Bool.not_false]
  refine Nw_cap ?_
  refine hs.app1 1 rfl cell_str (by omega) rfl (by omega) (by omega) fun A' m' H1 hs hcap => ?_
  simp only [DI_int', DB_bool, DS_string, DP_pointer, DSl_slice, DM_map, DA_agg, DTup_tuple, DCons_cons, DNil_nil, NN_some, BIf_true, BIf_false, BIf_same, List.toList_toArray, Bool.not_true, Bool.not_false]
  rw [show IntKind.i64.wrap ((0 : Int) + 1) = 1 by decide]
  unfold W_codec_Text.l3
  refine BIf_dpos (by decide) ?_
  refine (hc.le (hs.ow 0 rfl)).read (i := 1) rfl rfl (by rw [natV_length]; exact Nat.le_refl _) ?_
  simp only [DI_int', DB_bool, DS_string, DP_pointer, DSl_slice, DM_map, DA_agg, DTup_tuple, DCons_cons, DNil_nil, NN_some, BIf_true, BIf_false, BIf_same, List.toList_toArray, Bool.not_true, Bool.not_false]
  refine HCalls.use (Format_ok y hy H1) ?_
  simp only [DI_int', DB_bool, DS_string, DP_pointer, DSl_slice, DM_map, DA_agg, DTup_tuple, DCons_cons, DNil_nil, NN_some, BIf_true, BIf_false, BIf_same, List.toList_toArray, Bool.not_true, Bool.not_false]
  refine Nw_cap ?_
  refine hs.app1 1 rfl cell_str (by omega) rfl (by omega) (by omega) fun A' m' H1 hs hcap => ?_
  simp only [DI_int', DB_bool, DS_string, DP_pointer, DSl_slice, DM_map, DA_agg, DTup_tuple, DCons_cons, DNil_nil, NN_some, BIf_true, BIf_false, BIf_same, List.toList_toArray, Bool.not_true, Bool.not_false]
  rw [show IntKind.i64.wrap ((1 : Int) + 1) = 2 by decide]
  unfold W_codec_Text.l3
  refine BIf_dneg (by decide) ?_
  rcases hs.unown 1 rfl with ⟨_, h0, _⟩ | ⟨b, mm, rfl, hmm, hl, hs⟩
  · omega
  have hb := hs.get 1 rfl
  have hm' : 2 ≤ m' := hcap _ _ _ rfl
  refine HCalls.use (Join_hc (b := b) (m := m') (mm := mm) (e := 9) (H := H1) [⟨#[UInt8.ofNat (48 + x)]⟩, ⟨#[UInt8.ofNat (48 + y)]⟩] ⟨#[32]⟩ hb hm' (by show 2 ≤ _; omega) (by show 3 ≤ _; omega)) ?_
  simp only [DI_int', DB_bool, DS_string, DP_pointer, DSl_slice, DM_map, DA_agg, DTup_tuple, DCons_cons, DNil_nil, NN_some, BIf_true, BIf_false, BIf_same, List.toList_toArray, Bool.not_true, Bool.not_false]
  exact hs.fin 0 rfl _)

/-- What the laid tables hold. -/
def kindV : List Value := [.string ⟨#[]⟩, .int .i64 0, .string ⟨#[99, 111, 110, 115, 116]⟩, .int .i64 1, .string ⟨#[108, 105, 110, 101]⟩, .int .i64 2, .string ⟨#[112, 111, 119, 101, 114]⟩, .int .i64 2, .string ⟨#[99, 104, 97, 105, 110]⟩, .int .i64 3, .string ⟨#[112, 117, 108, 115, 101]⟩, .int .i64 3]
def Kinds (H : Hp) : Prop := Cells H (some ⟨1, 0, none⟩) kindV
theorem Kinds.le {H H' : Hp} (h : Kinds H) (k : H.le H') : Kinds H' := Cells.le h k

theorem Line_1_7 (H : Hp) (hK : Kinds H) : HCalls Tryd.prog 58 #[.agg #[.int .i64 3, .int .u64 1, .int .u64 7, .int .u64 0]] H (RetE (.string ⟨#[112, 111, 119, 101, 114, 32, 49, 32, 55]⟩) H) := HCalls.ret (by
  apply W_gen_Line.ok
  unfold W_gen_Line
  refine (Sep.start H).nw fun b1 H1 hs => ?_
  refine hs.ldw 1 rfl rfl ?_
  refine HCalls.use (Good_ok 3 1 7 0 H1) ?_
  rw [goodR_yes (k := 3) (a := 1) (b := 7) (c := 0) ⟨by omega, by omega, by omega, by omega, by omega, fun h => by omega⟩]
  simp only [DI_int', DB_bool, DS_string, DP_pointer, DSl_slice, DM_map, DA_agg, DTup_tuple, DCons_cons, DNil_nil, NN_some, BIf_true, BIf_false, BIf_same, List.toList_toArray, Bool.not_true, Bool.not_false]
  first | refine hs.ldf 1 rfl rfl ?_ | refine hs.ldg 1 rfl rfl ?_
  try simp only [DI_int', DB_bool, DS_string, DP_pointer, DSl_slice, DM_map, DA_agg, DTup_tuple, DCons_cons, DNil_nil, NN_some, BIf_true, BIf_false, BIf_same, List.toList_toArray, Bool.not_true, Bool.not_false]
  refine ⟨by decide, by decide, ?_⟩
  have hk := hK.le (hs.ow 0 rfl)
  have g1 : H1.cell? ⟨1, 6, none⟩ = some (.string ⟨#[112, 111, 119, 101, 114]⟩) := by
    obtain ⟨a, ha, hc⟩ := hk 6 _ rfl
    cases ha
    rw [Addr.add_lit'] at hc
    exact hc
  have g2 : H1.cell? ⟨1, 6 + 1, none⟩ = some (.int .i64 2) := by
    obtain ⟨a, ha, hc⟩ := hk 7 _ rfl
    cases ha
    rw [Addr.add_lit'] at hc
    exact hc
  rw [Addr.add_lit']
  refine LdA_two g1 g2 ?_
  refine hs.nw fun b2 H1 hs => ?_
  refine hs.stw 2 rfl rfl rfl rfl fun H1 hs => ?_
  first | refine hs.ldf 1 rfl rfl ?_ | refine hs.ldg 1 rfl rfl ?_
  try simp only [DI_int', DB_bool, DS_string, DP_pointer, DSl_slice, DM_map, DA_agg, DTup_tuple, DCons_cons, DNil_nil, NN_some, BIf_true, BIf_false, BIf_same, List.toList_toArray, Bool.not_true, Bool.not_false]
  first | refine hs.ldf 1 rfl rfl ?_ | refine hs.ldg 1 rfl rfl ?_
  try simp only [DI_int', DB_bool, DS_string, DP_pointer, DSl_slice, DM_map, DA_agg, DTup_tuple, DCons_cons, DNil_nil, NN_some, BIf_true, BIf_false, BIf_same, List.toList_toArray, Bool.not_true, Bool.not_false]
  first | refine hs.ldf 1 rfl rfl ?_ | refine hs.ldg 1 rfl rfl ?_
  try simp only [DI_int', DB_bool, DS_string, DP_pointer, DSl_slice, DM_map, DA_agg, DTup_tuple, DCons_cons, DNil_nil, NN_some, BIf_true, BIf_false, BIf_same, List.toList_toArray, Bool.not_true, Bool.not_false]
  first | refine hs.ldf 2 rfl rfl ?_ | refine hs.ldg 2 rfl rfl ?_
  try simp only [DI_int', DB_bool, DS_string, DP_pointer, DSl_slice, DM_map, DA_agg, DTup_tuple, DCons_cons, DNil_nil, NN_some, BIf_true, BIf_false, BIf_same, List.toList_toArray, Bool.not_true, Bool.not_false]
  have txt : ∀ {b H1}, Sep [own H, pts b1 (ruleO 3 1 7 0), pts b2 (.obj (.cells #[.string ⟨#[112, 111, 119, 101, 114]⟩, .int .i64 2] 152)), pts b (.row [.int .u64 1, .int .u64 7, .int .u64 0] 22 3)] H1 →
      HCalls Tryd.prog 85 #[.slice (slA (some ⟨b, 0, none⟩) 3 0 1) (2 - 0) (3 - 0)] H1 (RetE (.string ⟨#[49, 32, 55]⟩) H1) := fun {b H1} hs => by
    rw [slA_zero]
    refine Text_two (some ⟨b, 0, none⟩) 3 1 7 (by omega) (by omega) H1 ?_
    have := Cells.row (hs.get 3 rfl) 0 2
    exact this
  refine ⟨?_, ?_⟩
  · first | refine hs.ldf 2 rfl rfl ?_ | refine hs.ldg 2 rfl rfl ?_
    try simp only [DI_int', DB_bool, DS_string, DP_pointer, DSl_slice, DM_map, DA_agg, DTup_tuple, DCons_cons, DNil_nil, NN_some, BIf_true, BIf_false, BIf_same, List.toList_toArray, Bool.not_true, Bool.not_false]
    refine ⟨by decide, hs.nw fun b3 H1 hs => slB_to (r := 2) rfl (by omega) ?_⟩
    refine HCalls.use (txt hs) ?_
    simp only [DI_int', DB_bool, DS_string, DP_pointer, DSl_slice, DM_map, DA_agg, DTup_tuple, DCons_cons, DNil_nil, NN_some, BIf_true, BIf_false, BIf_same, List.toList_toArray, Bool.not_true, Bool.not_false]
    exact ⟨by decide, hs.fin 0 rfl _⟩
  · refine hs.nw fun b3 H1 hs => slB_to (r := 2) rfl (by omega) ⟨?_, ?_⟩
    · first | refine hs.ldf 2 rfl rfl ?_ | refine hs.ldg 2 rfl rfl ?_
      try simp only [DI_int', DB_bool, DS_string, DP_pointer, DSl_slice, DM_map, DA_agg, DTup_tuple, DCons_cons, DNil_nil, NN_some, BIf_true, BIf_false, BIf_same, List.toList_toArray, Bool.not_true, Bool.not_false]
      refine ⟨by decide, ?_⟩
      refine HCalls.use (txt hs) ?_
      simp only [DI_int', DB_bool, DS_string, DP_pointer, DSl_slice, DM_map, DA_agg, DTup_tuple, DCons_cons, DNil_nil, NN_some, BIf_true, BIf_false, BIf_same, List.toList_toArray, Bool.not_true, Bool.not_false]
      exact ⟨by decide, hs.fin 0 rfl _⟩
    · refine HCalls.use (txt hs) ?_
      simp only [DI_int', DB_bool, DS_string, DP_pointer, DSl_slice, DM_map, DA_agg, DTup_tuple, DCons_cons, DNil_nil, NN_some, BIf_true, BIf_false, BIf_same, List.toList_toArray, Bool.not_true, Bool.not_false]
      first | refine hs.ldf 2 rfl rfl ?_ | refine hs.ldg 2 rfl rfl ?_
      try simp only [DI_int', DB_bool, DS_string, DP_pointer, DSl_slice, DM_map, DA_agg, DTup_tuple, DCons_cons, DNil_nil, NN_some, BIf_true, BIf_false, BIf_same, List.toList_toArray, Bool.not_true, Bool.not_false]
      exact ⟨by decide, by decide, hs.fin 0 rfl _⟩)

theorem awake_ok (H : Hp) (hK : Kinds H) : HCalls Tryd.prog 26 #[] H (RetE (.bool true) H) := HCalls.ret (by
  apply W_abacistlaw38_awake.ok
  unfold W_abacistlaw38_awake
  have hs := Sep.start H
  have hg : goodR 2 3 2 0 = true := goodR_yes ⟨by omega, by omega, by omega, by omega, by omega, fun h => by omega⟩
  refine (Row_tr (k := 2) (a := 3) (b := 2) (c := 0) (n := 4) hg (by omega)).use hs [] rfl rfl ?_
  rintro _ _ H1 ⟨bo, mm, rfl, rfl⟩ hs
  simp only [DI_int', DB_bool, DS_string, DP_pointer, DSl_slice, DM_map, DA_agg, DTup_tuple, DCons_cons, DNil_nil, NN_some, BIf_true, BIf_false, BIf_same, List.toList_toArray, Bool.not_true, Bool.not_false]
  refine BIf_beqp rfl ?_
  refine hs.nw fun b1 H1 hs => ?_
  have hv : vals 2 3 2 0 0 4 = [3, 5, 7, 9] := by decide
  rw [hv] at hs
  have c1 : Cells H1 (some ⟨bo, 0, none⟩) (natV [3, 5, 7, 9]) := by
    have := Cells.row (hs.get 0 rfl) 0 4
    exact this
  have c2 : Cells H1 (some ⟨b1, 0, none⟩) (natV [3, 5, 7, 9]) := by
    have := Cells.row (hs.get 2 rfl) 0 4
    exact this
  refine HCalls.use (Same_ok (some ⟨bo, 0, none⟩) (some ⟨b1, 0, none⟩) 4 4 4 [3, 5, 7, 9] rfl (by omega) H1 c1 c2) ?_
  simp only [DI_int', DB_bool, DS_string, DP_pointer, DSl_slice, DM_map, DA_agg, DTup_tuple, DCons_cons, DNil_nil, NN_some, BIf_true, BIf_false, BIf_same, List.toList_toArray, Bool.not_true, Bool.not_false]
  refine HCalls.use (Line_1_7 H1 (hK.le (hs.ow 1 rfl))) ?_
  simp only [DI_int', DB_bool, DS_string, DP_pointer, DSl_slice, DM_map, DA_agg, DTup_tuple, DCons_cons, DNil_nil, NN_some, BIf_true, BIf_false, BIf_same, List.toList_toArray, Bool.not_true, Bool.not_false]
  rw [beq_self_eq_true]
  exact hs.fin 1 rfl _)

end Go.Proofs.YtgkdkemhiglpdaaDoor.Gen

end
section
/-! GenF -/
/- The law GenFar. -/
set_option maxRecDepth 100000
set_option linter.unusedSimpArgs false
set_option linter.unusedVariables false
set_option linter.unnecessarySimpa false
set_option linter.unusedSectionVars false
namespace Go.Proofs.YtgkdkemhiglpdaaDoor.Gen
open Go Go.Hw Go.Proofs.YtgkdkemhiglpdaaDoor.W Go.Proofs.YtgkdkemhiglpdaaDoor.Gol

theorem val_2 {k : Int} (hk : k = 2) (a b c i : Nat) : val k a b c (i + 1) = (val k a b c i + b) % 18446744069414584321 := by
  unfold val
  rw [if_neg (by omega), if_pos hk, if_neg (by omega), if_pos hk, mod_add_l, Nat.mul_succ, Nat.add_assoc]
theorem val_3 {k : Int} (hk : k = 3) (a b c i : Nat) : val k a b c (i + 1) = val k a b c i * b % 18446744069414584321 := by
  unfold val
  rw [if_neg (by omega), if_neg (by omega), if_pos hk, if_neg (by omega), if_neg (by omega), if_pos hk, mod_mul_l, Nat.mul_assoc, ← Nat.pow_succ]
theorem val_4 {k : Int} (hk : k = 4) (a b c i : Nat) : val k a b c (i + 1) = (val k a b c i * b % 18446744069414584321 + c) % 18446744069414584321 := by
  unfold val
  rw [if_neg (by omega), if_neg (by omega), if_neg (by omega), if_pos hk, if_neg (by omega), if_neg (by omega), if_neg (by omega), if_pos hk, mod_mul_l, mod_add_l, Nat.add_mul, Nat.mul_assoc, ← Nat.pow_succ, Nat.mul_assoc c]
  show (a * b ^ (i + 1) + c * (b * geo b i + 1)) % 18446744069414584321 = _
  rw [Nat.mul_add, Nat.mul_comm (geo b i), Nat.mul_one, Nat.add_assoc]
theorem val_5 {k : Int} (hk : k = 5) (a b c i : Nat) : val k a b c i = if pulse b c i = true then a else 0 := by
  unfold val; rw [if_neg (by omega), if_neg (by omega), if_neg (by omega), if_neg (by omega)]

theorem far_loop {k : Int} {a b c r : Nat} (hg : goodR k a b c = true) (hr : r ≤ 4294967290) {b1 bo mm : Nat} {H0 H : Hp} (hs : Sep [pts bo (.row (natV (vals k a b c r 3)) 22 mm), own H0, pts b1 (ruleO k a b c)] H) :
    ∀ (t i : Nat), i + t = 3 → W_abacistlaw38_GenFar.l9 (Ret (.bool true) H0) (t + 1) (r : Int) ⟨b1, 0, none⟩ (some ⟨bo, 0, none⟩) 3 3 (i : Int) H
  | 0, i, hi => by
    unfold W_abacistlaw38_GenFar.l9
    exact BIf_dneg (by omega) (hs.fin 1 rfl _)
  | t + 1, i, hi => by
    obtain ⟨h1, h5, ha, hb, hc, _⟩ := goodR_of hg
    have hcell : Cells H (some ⟨bo, 0, none⟩) (natV (vals k a b c r 3)) := by
      have := Cells.row (hs.get 0 rfl) 0 3
      rw [List.drop_zero, List.take_of_length_le (by rw [natV_length, vals_len]; exact Nat.le_refl _)] at this
      exact this
    have hget : ∀ j, j < 3 → (natV (vals k a b c r 3))[j]? = some (.int .u64 ((val k a b c (r + j) : Nat) : Int)) := fun j hj => by
      rw [natV_get, vals_get hj]; rfl
    have ihn := far_loop hg hr hs t (i + 1) (by omega)
    unfold W_abacistlaw38_GenFar.l9
    refine BIf_dpos (by omega) ?_
    refine hs.ldw 2 rfl rfl ?_
    rw [i64n (n := r) (by omega), ← Int.natCast_add, i64n (n := r + i) (by omega), i64w (x := (i : Int) + 1) (by omega) (by omega), show (i : Int) + 1 = ((i + 1 : Nat) : Int) by omega]
    refine HCalls.use (At_ok hg (i := r + i) (by omega) H) ?_
    simp only [DI_int', DB_bool, DS_string, DP_pointer, DSl_slice, DM_map, DA_agg, DTup_tuple, DCons_cons, DNil_nil, NN_some, BIf_true, BIf_false, BIf_same, List.toList_toArray, Bool.not_true, Bool.not_false]
    refine BIf_bnen rfl ?_
    refine hcell.read (hget i (by omega)) rfl (by rw [natV_length, vals_len]; exact Nat.le_refl _) ?_
    simp only [DI_int', DB_bool, DS_string, DP_pointer, DSl_slice, DM_map, DA_agg, DTup_tuple, DCons_cons, DNil_nil, NN_some, BIf_true, BIf_false, BIf_same, List.toList_toArray, Bool.not_true, Bool.not_false]
    refine BIf_bnen rfl ?_
    by_cases h0 : i = 0
    · exact BIf_beqp (by omega) ihn
    refine BIf_beqn (by omega) ?_
    obtain ⟨i', rfl⟩ : ∃ i', i = i' + 1 := ⟨i - 1, by omega⟩
    have fin : ∀ (w : Nat), w = val k a b c (r + (i' + 1)) → W_abacistlaw38_GenFar.j28 (Ret (.bool true) H0) (W_abacistlaw38_GenFar.l9 (Ret (.bool true) H0) (t + 1)) (r : Int) ⟨b1, 0, none⟩ (some ⟨bo, 0, none⟩) 3 3 ((i' + 1 : Nat) : Int) (w : Int) H := fun w hw => by
      unfold W_abacistlaw38_GenFar.j28
      refine hcell.read (hget (i' + 1) (by omega)) rfl (by rw [natV_length, vals_len]; exact Nat.le_refl _) ?_
      simp only [DI_int', DB_bool, DS_string, DP_pointer, DSl_slice, DM_map, DA_agg, DTup_tuple, DCons_cons, DNil_nil, NN_some, BIf_true, BIf_false, BIf_same, List.toList_toArray, Bool.not_true, Bool.not_false]
      refine BIf_bnen (by rw [hw]) ?_
      rw [i64w (x := ((i' + 1 : Nat) : Int) + 1) (by omega) (by omega), show ((i' + 1 : Nat) : Int) + 1 = ((i' + 1 + 1 : Nat) : Int) by omega]
      exact ihn
    have hpr : r + (i' + 1) = r + i' + 1 := by omega
    have q := val_lt (k := k) (b := b) (c := c) (i := r + i') ha
    rw [i64w (x := ((i' + 1 : Nat) : Int) - 1) (by omega) (by omega), show ((i' + 1 : Nat) : Int) - 1 = (i' : Int) by omega]
    refine hcell.read (hget i' (by omega)) rfl (by rw [natV_length, vals_len]; exact Nat.le_refl _) ?_
    simp only [DI_int', DB_bool, DS_string, DP_pointer, DSl_slice, DM_map, DA_agg, DTup_tuple, DCons_cons, DNil_nil, NN_some, BIf_true, BIf_false, BIf_same, List.toList_toArray, Bool.not_true, Bool.not_false]
    first | refine hs.ldf 2 rfl rfl ?_ | refine hs.ldg 2 rfl rfl ?_
    try simp only [DI_int', DB_bool, DS_string, DP_pointer, DSl_slice, DM_map, DA_agg, DTup_tuple, DCons_cons, DNil_nil, NN_some, BIf_true, BIf_false, BIf_same, List.toList_toArray, Bool.not_true, Bool.not_false]
    by_cases k2 : k = 2
    · refine BIf_beqp k2 ?_
      first | refine hs.ldf 2 rfl rfl ?_ | refine hs.ldg 2 rfl rfl ?_
      try simp only [DI_int', DB_bool, DS_string, DP_pointer, DSl_slice, DM_map, DA_agg, DTup_tuple, DCons_cons, DNil_nil, NN_some, BIf_true, BIf_false, BIf_same, List.toList_toArray, Bool.not_true, Bool.not_false]
      refine HCalls.use (rAdd_ok (a := val k a b c (r + i')) (b := b) H) ?_
      simp only [DI_int', DB_bool, DS_string, DP_pointer, DSl_slice, DM_map, DA_agg, DTup_tuple, DCons_cons, DNil_nil, NN_some, BIf_true, BIf_false, BIf_same, List.toList_toArray, Bool.not_true, Bool.not_false]
      exact fin _ (by rw [hpr, val_2 k2])
    refine BIf_beqn k2 ?_
    by_cases k3 : k = 3
    · refine BIf_beqp k3 ?_
      first | refine hs.ldf 2 rfl rfl ?_ | refine hs.ldg 2 rfl rfl ?_
      try simp only [DI_int', DB_bool, DS_string, DP_pointer, DSl_slice, DM_map, DA_agg, DTup_tuple, DCons_cons, DNil_nil, NN_some, BIf_true, BIf_false, BIf_same, List.toList_toArray, Bool.not_true, Bool.not_false]
      refine HCalls.use (rMul_ok (a := val k a b c (r + i')) (b := b) (by omega) H) ?_
      simp only [DI_int', DB_bool, DS_string, DP_pointer, DSl_slice, DM_map, DA_agg, DTup_tuple, DCons_cons, DNil_nil, NN_some, BIf_true, BIf_false, BIf_same, List.toList_toArray, Bool.not_true, Bool.not_false]
      exact fin _ (by rw [hpr, val_3 k3])
    refine BIf_beqn k3 ?_
    by_cases k4 : k = 4
    · refine BIf_beqp k4 ?_
      first | refine hs.ldf 2 rfl rfl ?_ | refine hs.ldg 2 rfl rfl ?_
      try simp only [DI_int', DB_bool, DS_string, DP_pointer, DSl_slice, DM_map, DA_agg, DTup_tuple, DCons_cons, DNil_nil, NN_some, BIf_true, BIf_false, BIf_same, List.toList_toArray, Bool.not_true, Bool.not_false]
      refine QCall.use (rMul_ok (a := val k a b c (r + i')) (b := b) (by omega) H) ?_
      simp only [DI_int', DB_bool, DS_string, DP_pointer, DSl_slice, DM_map, DA_agg, DTup_tuple, DCons_cons, DNil_nil, NN_some, BIf_true, BIf_false, BIf_same, List.toList_toArray, Bool.not_true, Bool.not_false]
      first | refine hs.ldf 2 rfl rfl ?_ | refine hs.ldg 2 rfl rfl ?_
      try simp only [DI_int', DB_bool, DS_string, DP_pointer, DSl_slice, DM_map, DA_agg, DTup_tuple, DCons_cons, DNil_nil, NN_some, BIf_true, BIf_false, BIf_same, List.toList_toArray, Bool.not_true, Bool.not_false]
      refine QCall.use (rAdd_ok (a := val k a b c (r + i') * b % 18446744069414584321) (b := c) H) ?_
      simp only [DI_int', DB_bool, DS_string, DP_pointer, DSl_slice, DM_map, DA_agg, DTup_tuple, DCons_cons, DNil_nil, NN_some, BIf_true, BIf_false, BIf_same, List.toList_toArray, Bool.not_true, Bool.not_false]
      exact fin _ (by rw [hpr, val_4 k4])
    refine BIf_beqn k4 ?_
    have hu : IntKind.u64.wrap (IntKind.u64.wrap (r : Int) + IntKind.u64.wrap ((i' + 1 : Nat) : Int)) = ((r + (i' + 1) : Nat) : Int) := by
      rw [u64n (n := r) (by omega), u64n (n := i' + 1) (by omega), ← Int.natCast_add, u64n (by omega)]
    rw [hu]
    generalize hn : r + (i' + 1) = n at *
    by_cases k5 : k = 5
    · have hval := val_5 k5 a b c n
      refine BIf_beqp k5 ?_
      first | refine hs.ldf 2 rfl rfl ?_ | refine hs.ldg 2 rfl rfl ?_
      try simp only [DI_int', DB_bool, DS_string, DP_pointer, DSl_slice, DM_map, DA_agg, DTup_tuple, DCons_cons, DNil_nil, NN_some, BIf_true, BIf_false, BIf_same, List.toList_toArray, Bool.not_true, Bool.not_false]
      by_cases hc0 : c = 0
      · refine BIf_beqp (by omega) ?_
        first | refine hs.ldf 2 rfl rfl ?_ | refine hs.ldg 2 rfl rfl ?_
        try simp only [DI_int', DB_bool, DS_string, DP_pointer, DSl_slice, DM_map, DA_agg, DTup_tuple, DCons_cons, DNil_nil, NN_some, BIf_true, BIf_false, BIf_same, List.toList_toArray, Bool.not_true, Bool.not_false]
        by_cases hib : n = b
        · refine BIf_beqp (by omega) ?_
          first | refine hs.ldf 2 rfl rfl ?_ | refine hs.ldg 2 rfl rfl ?_
          try simp only [DI_int', DB_bool, DS_string, DP_pointer, DSl_slice, DM_map, DA_agg, DTup_tuple, DCons_cons, DNil_nil, NN_some, BIf_true, BIf_false, BIf_same, List.toList_toArray, Bool.not_true, Bool.not_false]
          refine fin _ ?_
          rw [hval, if_pos (by unfold pulse; rw [if_pos hc0, hib]; simp)]
        · refine BIf_beqn (by omega) ?_
          first | refine hs.ldf 2 rfl rfl ?_ | refine hs.ldg 2 rfl rfl ?_
          try simp only [DI_int', DB_bool, DS_string, DP_pointer, DSl_slice, DM_map, DA_agg, DTup_tuple, DCons_cons, DNil_nil, NN_some, BIf_true, BIf_false, BIf_same, List.toList_toArray, Bool.not_true, Bool.not_false]
          refine BIf_dneg (by omega) ?_
          refine fin 0 ?_
          rw [hval, if_neg (by unfold pulse; rw [if_pos hc0]; simpa using hib)]
      · refine BIf_beqn (by omega) ?_
        first | refine hs.ldf 2 rfl rfl ?_ | refine hs.ldg 2 rfl rfl ?_
        try simp only [DI_int', DB_bool, DS_string, DP_pointer, DSl_slice, DM_map, DA_agg, DTup_tuple, DCons_cons, DNil_nil, NN_some, BIf_true, BIf_false, BIf_same, List.toList_toArray, Bool.not_true, Bool.not_false]
        refine BIf_dpos (by omega) ?_
        first | refine hs.ldf 2 rfl rfl ?_ | refine hs.ldg 2 rfl rfl ?_
        try simp only [DI_int', DB_bool, DS_string, DP_pointer, DSl_slice, DM_map, DA_agg, DTup_tuple, DCons_cons, DNil_nil, NN_some, BIf_true, BIf_false, BIf_same, List.toList_toArray, Bool.not_true, Bool.not_false]
        refine ⟨by omega, by simp, ?_⟩
        first | refine hs.ldf 2 rfl rfl ?_ | refine hs.ldg 2 rfl rfl ?_
        try simp only [DI_int', DB_bool, DS_string, DP_pointer, DSl_slice, DM_map, DA_agg, DTup_tuple, DCons_cons, DNil_nil, NN_some, BIf_true, BIf_false, BIf_same, List.toList_toArray, Bool.not_true, Bool.not_false]
        first | refine hs.ldf 2 rfl rfl ?_ | refine hs.ldg 2 rfl rfl ?_
        try simp only [DI_int', DB_bool, DS_string, DP_pointer, DSl_slice, DM_map, DA_agg, DTup_tuple, DCons_cons, DNil_nil, NN_some, BIf_true, BIf_false, BIf_same, List.toList_toArray, Bool.not_true, Bool.not_false]
        refine ⟨by omega, by simp, ?_⟩
        rw [show Int.tmod (n : Int) (c : Int) = ((n % c : Nat) : Int) from rfl, show Int.tmod (b : Int) (c : Int) = ((b % c : Nat) : Int) from rfl]
        by_cases hm : n % c = b % c
        · refine BIf_beqp (by rw [hm]) ?_
          first | refine hs.ldf 2 rfl rfl ?_ | refine hs.ldg 2 rfl rfl ?_
          try simp only [DI_int', DB_bool, DS_string, DP_pointer, DSl_slice, DM_map, DA_agg, DTup_tuple, DCons_cons, DNil_nil, NN_some, BIf_true, BIf_false, BIf_same, List.toList_toArray, Bool.not_true, Bool.not_false]
          refine fin _ ?_
          rw [hval, if_pos (by unfold pulse; rw [if_neg hc0, hm]; simp)]
        · refine BIf_beqn (fun e => hm (Int.ofNat.inj e)) ?_
          refine fin 0 ?_
          rw [hval, if_neg (by unfold pulse; rw [if_neg hc0]; simpa using hm)]
    refine BIf_beqn k5 ?_
    obtain rfl : k = 1 := by omega
    exact fin _ rfl

theorem GenFar_ok (k : Int) (a b c : Nat) (hk : -9223372036854775808 ≤ k ∧ k ≤ 9223372036854775807) (r : Nat) (hr : r ≤ 4294967295) (H : Hp) (hK : Kinds H) :
    HCalls Tryd.prog 8 #[.agg #[.int .i64 k, .int .u64 (a : Int), .int .u64 (b : Int), .int .u64 (c : Int)], .int .u32 (r : Int)] H (Ret (.bool true) H) := by
  apply W_abacistlaw38_GenFar.ok
  unfold W_abacistlaw38_GenFar
  refine (Sep.start H).nw fun b1 H1 hs => ?_
  refine HCalls.use (awake_ok H1 (hK.le (hs.ow 0 rfl))) ?_
  simp only [DI_int', DB_bool, DS_string, DP_pointer, DSl_slice, DM_map, DA_agg, DTup_tuple, DCons_cons, DNil_nil, NN_some, BIf_true, BIf_false, BIf_same, List.toList_toArray, Bool.not_true, Bool.not_false]
  refine hs.ldw 1 rfl rfl ?_
  refine HCalls.use (rGood_ok k a b c H1) ?_
  simp only [DI_int', DB_bool, DS_string, DP_pointer, DSl_slice, DM_map, DA_agg, DTup_tuple, DCons_cons, DNil_nil, NN_some, BIf_true, BIf_false, BIf_same, List.toList_toArray, Bool.not_true, Bool.not_false]
  cases hg : goodR k a b c with
  | false => exact BIf_pos rfl (hs.fin 0 rfl _)
  | true =>
    refine BIf_neg rfl ?_
    by_cases hr2 : (r : Int) > 4294967290
    · exact BIf_dpos hr2 (hs.fin 0 rfl _)
    refine BIf_dneg hr2 ?_
    refine hs.ldw 1 rfl rfl ?_
    rw [i64n (n := r) (by omega)]
    refine (Part_tr (k := k) (a := a) (b := b) (c := c) (i := r) (n := 3) hg (by omega) (by omega) (by omega)).use hs [] rfl rfl ?_
    rintro _ _ H1 ⟨bo, mm, rfl, rfl⟩ hs
    simp only [DI_int', DB_bool, DS_string, DP_pointer, DSl_slice, DM_map, DA_agg, DTup_tuple, DCons_cons, DNil_nil, NN_some, BIf_true, BIf_false, BIf_same, List.toList_toArray, Bool.not_true, Bool.not_false]
    refine BIf_bnen rfl (BIf_bnen rfl ⟨4, ?_⟩)
    exact far_loop hg (by omega) hs 3 0 rfl

end Go.Proofs.YtgkdkemhiglpdaaDoor.Gen

end
section
/-! GenG -/
/- The law GenRows. -/
set_option maxRecDepth 100000
set_option linter.unusedSimpArgs false
set_option linter.unusedVariables false
set_option linter.unnecessarySimpa false
set_option linter.unusedSectionVars false
namespace Go.Proofs.YtgkdkemhiglpdaaDoor.Gen
open Go Go.Hw Go.Proofs.YtgkdkemhiglpdaaDoor.W Go.Proofs.YtgkdkemhiglpdaaDoor.Gol

theorem vals_drop (k : Int) (a b c i n : Nat) : (vals k a b c 0 (i + n)).drop i = vals k a b c i n := by
  apply List.ext_getElem?
  intro j
  rw [List.getElem?_drop]
  by_cases h : j < n
  · rw [vals_get (by omega), vals_get h, Nat.zero_add]
  · rw [List.getElem?_eq_none (by rw [vals_len]; omega), List.getElem?_eq_none (by rw [vals_len]; omega)]
theorem vals_take (k : Int) (a b c i n : Nat) : (vals k a b c 0 (i + n)).take n = vals k a b c 0 n := by
  apply List.ext_getElem?
  intro j
  rw [List.getElem?_take]
  by_cases h : j < n
  · rw [if_pos h, vals_get (by omega), vals_get h]
  · rw [if_neg h, List.getElem?_eq_none (by rw [vals_len]; omega)]
theorem natV_drop (xs : List Nat) (i : Nat) : (natV xs).drop i = natV (xs.drop i) := by unfold natV; rw [List.map_drop]
theorem natV_take (xs : List Nat) (i : Nat) : (natV xs).take i = natV (xs.take i) := by unfold natV; rw [List.map_take]

theorem own_cells {e : TypeId} {A : Option Addr} {n m : Nat} {xs : List Value} {H : Hp} (h : Own e 1 A n m xs H) : Cells H A xs := by
  obtain ⟨hl, h⟩ := h
  rcases h with ⟨rfl, rfl, _⟩ | ⟨b, mm, rfl, hb, _⟩
  · have : xs = [] := List.length_eq_zero_iff.1 (by omega)
    rw [this]; exact Cells.nil _ _
  · have := Cells.row hb 0 xs.length
    rw [List.drop_zero, List.take_of_length_le (Nat.le_refl _)] at this
    exact this

/-- The answers of the three calls. -/
structure RowsA (k : Int) (a b c : Nat) (x n : Int) (e w f : Int) (A : Option Addr) (nl : Nat) : Prop where
  bad : ¬ (goodR k a b c = true ∧ 0 ≤ x ∧ x < 4294967296 ∧ 0 ≤ n ∧ n ≤ 1048576 ∧ n ≤ 4294967296 - x) → e = partE k a b c x ∧ nl = 0
  fbad : ¬ (goodR k a b c = true ∧ 0 ≤ x ∧ x < 4294967296) → w = 0 ∧ f = (if goodR k a b c = true then 2 else 18)

set_option maxHeartbeats 1000000 in
theorem rows_j9 {k : Int} {a b c : Nat} {x n : Int} (hx : -9223372036854775808 ≤ x ∧ x ≤ 9223372036854775807) (hn : -9223372036854775808 ≤ n ∧ n ≤ 9223372036854775807) (hx1 : ¬ (100 < x ∧ x < 4294967296)) (hn1 : ¬ (60 < n ∧ n ≤ 1048576))
    {H0 H : Hp} {b1 : Nat} {A : Option Addr} {nl ml : Nat} {e w f : Int} {X : As} (hs : Sep [own H0, pts b1 (ruleO k a b c), X] H) (hA : RowsA k a b c x n e w f A nl)
    (hgood : ∀ i j : Nat, x = i → n = j → goodR k a b c = true → i ≤ 100 → j ≤ 60 → e = 0 ∧ nl = j ∧ (∀ H, X H → Cells H A (natV (vals k a b c i j))))
    (hw : ∀ i : Nat, x = i → goodR k a b c = true → i ≤ 100 → w = ((val k a b c i : Nat) : Int) ∧ f = 0) :
    W_abacistlaw38_GenRows.j9 (Ret (.bool true) H0) x n ⟨b1, 0, none⟩ A nl ml e w f H := by
  unfold W_abacistlaw38_GenRows.j9
  refine hs.ldw 1 rfl rfl ?_
  refine HCalls.use (rGood_ok k a b c H) ?_
  simp only [DI_int', DB_bool, DS_string, DP_pointer, DSl_slice, DM_map, DA_agg, DTup_tuple, DCons_cons, DNil_nil, NN_some, BIf_true, BIf_false, BIf_same, List.toList_toArray, Bool.not_true, Bool.not_false]
  cases hg : goodR k a b c with
  | false =>
    obtain ⟨he, hl⟩ := hA.bad (fun h => by rw [hg] at h; exact absurd h.1 (by simp))
    obtain ⟨hw0, hf⟩ := hA.fbad (fun h => by rw [hg] at h; exact absurd h.1 (by simp))
    rw [hg] at hf
    unfold partE at he
    rw [hg] at he
    refine BIf_pos rfl (BIf_beqp he (BIf_beqp hf (BIf_beqp (by omega) ?_)))
    rw [hw0]
    exact hs.fin 0 rfl _
  | true =>
    refine BIf_neg rfl ?_
    by_cases hr : x < 0 ∨ x > 100
    · have h4 : ¬ (0 ≤ x ∧ x < 4294967296) := by omega
      obtain ⟨he, hl⟩ := hA.bad (fun h => h4 ⟨h.2.1, h.2.2.1⟩)
      obtain ⟨hw0, hf⟩ := hA.fbad (fun h => h4 ⟨h.2.1, h.2.2⟩)
      rw [hg, if_pos rfl] at hf
      unfold partE at he
      rw [hg, if_pos rfl, if_pos (by omega)] at he
      have done : BIf (e == 2) (BIf (f == 2) (BIf (((nl : Nat) : Int) == 0) (Ret (.bool true) H0 (.bool (w == 0)) H) (Ret (.bool true) H0 (.bool false) H)) (Ret (.bool true) H0 (.bool false) H)) (Ret (.bool true) H0 (.bool false) H) := by
        refine BIf_beqp he (BIf_beqp hf (BIf_beqp (by omega) ?_))
        rw [hw0]
        exact hs.fin 0 rfl _
      by_cases h0 : x < 0
      · exact BIf_dpos h0 done
      · exact BIf_dneg h0 (BIf_dpos (by omega) done)
    · obtain ⟨i, rfl⟩ := Int.eq_ofNat_of_zero_le (show 0 ≤ x by omega)
      obtain ⟨rfl, rfl⟩ := hw i rfl hg (by omega)
      refine BIf_dneg (by omega) (BIf_dneg (by omega) ?_)
      refine hs.ldw 1 rfl rfl ?_
      rw [i64w (x := (i : Int) + 1) (by omega) (by omega), show (i : Int) + 1 = ((i + 1 : Nat) : Int) by omega]
      refine (rRow_tr (k := k) (a := a) (b := b) (c := c) (n := i + 1) hg (by omega)).use hs [] rfl rfl ?_
      rintro _ _ H ⟨B, mB, hmB, rfl, rfl⟩ hs
      simp only [DI_int', DB_bool, DS_string, DP_pointer, DSl_slice, DM_map, DA_agg, DTup_tuple, DCons_cons, DNil_nil, NN_some, BIf_true, BIf_false, BIf_same, List.toList_toArray, Bool.not_true, Bool.not_false]
      refine BIf_bnen rfl ?_
      have hB := own_cells (hs.own 0 rfl)
      refine hB.read (i := i) (v := .int .u64 ((val k a b c i : Nat) : Int)) (by rw [natV_get, vals_get (by omega), Nat.zero_add]; rfl) rfl (by rw [natV_length, vals_len]; exact Nat.le_refl _) ?_
      simp only [DI_int', DB_bool, DS_string, DP_pointer, DSl_slice, DM_map, DA_agg, DTup_tuple, DCons_cons, DNil_nil, NN_some, BIf_true, BIf_false, BIf_same, List.toList_toArray, Bool.not_true, Bool.not_false]
      refine BIf_bnen rfl ?_
      by_cases hnr : n < 0 ∨ n > 60
      · obtain ⟨he, hl⟩ := hA.bad (fun h => by omega)
        unfold partE at he
        rw [hg, if_pos rfl, if_neg (by omega)] at he
        have done : BIf (e == 14) (Ret (.bool true) H0 (.bool (((nl : Nat) : Int) == 0)) H) (Ret (.bool true) H0 (.bool false) H) := by
          refine BIf_beqp he ?_
          rw [hl]
          exact hs.fin 1 rfl _
        by_cases h0 : n < 0
        · exact BIf_dpos h0 done
        · exact BIf_dneg h0 (BIf_dpos (by omega) done)
      · obtain ⟨j, rfl⟩ := Int.eq_ofNat_of_zero_le (show 0 ≤ n by omega)
        obtain ⟨rfl, rfl, hX⟩ := hgood i j rfl rfl hg (by omega) (by omega)
        refine BIf_dneg (by omega) (BIf_dneg (by omega) ?_)
        refine hs.ldw 2 rfl rfl ?_
        refine (Row_tr (k := k) (a := a) (b := b) (c := c) (n := nl) hg (by omega)).use hs [] rfl rfl ?_
        rintro _ _ H ⟨bm, mm, rfl, rfl⟩ hs
        simp only [DI_int', DB_bool, DS_string, DP_pointer, DSl_slice, DM_map, DA_agg, DTup_tuple, DCons_cons, DNil_nil, NN_some, BIf_true, BIf_false, BIf_same, List.toList_toArray, Bool.not_true, Bool.not_false]
        refine hs.ldw 3 rfl rfl ?_
        rw [← Int.natCast_add, i64n (n := i + nl) (by omega)]
        refine (rRow_tr (k := k) (a := a) (b := b) (c := c) (n := i + nl) hg (by omega)).use hs [] rfl rfl ?_
        rintro _ _ H ⟨C, mC, hmC, rfl, rfl⟩ hs
        simp only [DI_int', DB_bool, DS_string, DP_pointer, DSl_slice, DM_map, DA_agg, DTup_tuple, DCons_cons, DNil_nil, NN_some, BIf_true, BIf_false, BIf_same, List.toList_toArray, Bool.not_true, Bool.not_false]
        refine BIf_beqp rfl (BIf_beqp rfl ?_)
        have hC := own_cells (hs.own 0 rfl)
        have hcx : Cells H A (natV (vals k a b c i nl)) := by
          obtain ⟨H1, h1, hle⟩ := hs.see 5 rfl
          exact (hX H1 h1).le hle
        have hcm : Cells H (some ⟨bm, 0, none⟩) (natV (vals k a b c 0 nl)) := by
          have := Cells.row (hs.get 1 rfl) 0 nl
          rw [List.drop_zero, List.take_of_length_le (by rw [natV_length, vals_len]; exact Nat.le_refl _)] at this
          exact this
        refine slB_from rfl (by omega) ?_
        have s1 : Cells H (slA C mC i 1) (natV (vals k a b c i nl)) := by
          have := hC.shift (m := mC) (l := i) (by rw [natV_length, vals_len]; exact hmC)
          rw [natV_drop, vals_drop] at this
          exact this
        have s0 : Cells H (slA C mC 0 1) (natV (vals k a b c 0 nl)) := by
          have := (hC.shift (m := mC) (l := 0) (by rw [natV_length, vals_len]; exact hmC)).take nl
          rw [List.drop_zero, natV_take, vals_take] at this
          exact this
        rw [Nat.add_sub_cancel_left]
        refine HCalls.use (Same_ok A (slA C mC i 1) nl ml (mC - i) (vals k a b c i nl) (vals_len _ _ _ _ _ _).symm (by omega) H hcx s1) ?_
        simp only [DI_int', DB_bool, DS_string, DP_pointer, DSl_slice, DM_map, DA_agg, DTup_tuple, DCons_cons, DNil_nil, NN_some, BIf_true, BIf_false, BIf_same, List.toList_toArray, Bool.not_true, Bool.not_false]
        refine slB_to (r := nl) rfl (by omega) ?_
        rw [Nat.sub_zero]
        refine HCalls.use (Same_ok (some ⟨bm, 0, none⟩) (slA C mC 0 1) nl nl (mC - 0) (vals k a b c 0 nl) (vals_len _ _ _ _ _ _).symm (by omega) H hcm s0) ?_
        simp only [DI_int', DB_bool, DS_string, DP_pointer, DSl_slice, DM_map, DA_agg, DTup_tuple, DCons_cons, DNil_nil, NN_some, BIf_true, BIf_false, BIf_same, List.toList_toArray, Bool.not_true, Bool.not_false]
        exact hs.fin 3 rfl _

theorem GenRows_j5 (k : Int) (a b c : Nat) (x n : Int) (hx : -9223372036854775808 ≤ x ∧ x ≤ 9223372036854775807) (hn : -9223372036854775808 ≤ n ∧ n ≤ 9223372036854775807) (hx1 : ¬ (100 < x ∧ x < 4294967296)) (hn1 : ¬ (60 < n ∧ n ≤ 1048576))
    {H0 H : Hp} {b1 : Nat} (hs : Sep [own H0, pts b1 (ruleO k a b c)] H) : W_abacistlaw38_GenRows.j5 (Ret (.bool true) H0) x n ⟨b1, 0, none⟩ H := by
  unfold W_abacistlaw38_GenRows.j5
  refine hs.ldw 1 rfl rfl ?_
  -- behind the two calls
  have rest : ∀ {H : Hp} {A : Option Addr} {nl ml : Nat} {e w f : Int} {X : As}, Sep [own H0, pts b1 (ruleO k a b c), X] H → RowsA k a b c x n e w f A nl →
      (∀ i j : Nat, x = i → n = j → goodR k a b c = true → i ≤ 100 → j ≤ 60 → e = 0 ∧ nl = j ∧ (∀ H, X H → Cells H A (natV (vals k a b c i j)))) →
      (∀ i : Nat, x = i → goodR k a b c = true → i ≤ 100 → w = ((val k a b c i : Nat) : Int) ∧ f = 0) →
      ((LdA H (⟨b1, 0, none⟩ : Addr) 4 fun l9 => (HCalls Tryd.prog 29 #[.agg l9.toArray] H fun v8 H5 => DB v8 fun c2 => LdA H5 (⟨b1, 0, none⟩ : Addr) 4 fun l10 => HCalls Tryd.prog 30 #[.agg l10.toArray] H5 fun v9 H6 => DB v9 fun c3 => BIf (!(c2 == c3)) (Ret (.bool true) H0 (.bool false) H6) (W_abacistlaw38_GenRows.j9 (Ret (.bool true) H0) x n ⟨b1, 0, none⟩ A nl ml e w f H6)) ∧ (LdA H (⟨b1, 0, none⟩ : Addr) 4 fun l11 => HCalls Tryd.prog 29 #[.agg l9.toArray] H fun v10 H7 => DB v10 fun c4 => HCalls Tryd.prog 30 #[.agg l11.toArray] H7 fun v11 H8 => DB v11 fun c5 => BIf (!(c4 == c5)) (Ret (.bool true) H0 (.bool false) H8) (W_abacistlaw38_GenRows.j9 (Ret (.bool true) H0) x n ⟨b1, 0, none⟩ A nl ml e w f H8))) ∧
        (LdA H (⟨b1, 0, none⟩ : Addr) 4 fun l12 => LdA H (⟨b1, 0, none⟩ : Addr) 4 fun l13 => HCalls Tryd.prog 29 #[.agg l13.toArray] H fun v12 H9 => DB v12 fun c6 => HCalls Tryd.prog 30 #[.agg l12.toArray] H9 fun v13 H10 => DB v13 fun c7 => BIf (!(c6 == c7)) (Ret (.bool true) H0 (.bool false) H10) (W_abacistlaw38_GenRows.j9 (Ret (.bool true) H0) x n ⟨b1, 0, none⟩ A nl ml e w f H10))) := fun {H A nl ml e w f X} hs hA hg hw => by
    have j9 := rows_j9 (ml := ml) hx hn hx1 hn1 hs hA hg hw
    have hb : (!(goodR k a b c == goodR k a b c)) = false := by simp
    refine ⟨hs.ldw 1 rfl rfl ⟨?_, hs.ldw 1 rfl rfl ?_⟩, hs.ldw 1 rfl rfl (hs.ldw 1 rfl rfl ?_)⟩
    · refine HCalls.use (Good_ok k a b c H) ?_
      simp only [DI_int', DB_bool, DS_string, DP_pointer, DSl_slice, DM_map, DA_agg, DTup_tuple, DCons_cons, DNil_nil, NN_some, BIf_true, BIf_false, BIf_same, List.toList_toArray, Bool.not_true, Bool.not_false]
      refine hs.ldw 1 rfl rfl ?_
      refine HCalls.use (rGood_ok k a b c H) ?_
      simp only [DI_int', DB_bool, DS_string, DP_pointer, DSl_slice, DM_map, DA_agg, DTup_tuple, DCons_cons, DNil_nil, NN_some, BIf_true, BIf_false, BIf_same, List.toList_toArray, Bool.not_true, Bool.not_false]
      exact BIf_neg hb j9
    · refine HCalls.use (Good_ok k a b c H) ?_
      simp only [DI_int', DB_bool, DS_string, DP_pointer, DSl_slice, DM_map, DA_agg, DTup_tuple, DCons_cons, DNil_nil, NN_some, BIf_true, BIf_false, BIf_same, List.toList_toArray, Bool.not_true, Bool.not_false]
      refine HCalls.use (rGood_ok k a b c H) ?_
      simp only [DI_int', DB_bool, DS_string, DP_pointer, DSl_slice, DM_map, DA_agg, DTup_tuple, DCons_cons, DNil_nil, NN_some, BIf_true, BIf_false, BIf_same, List.toList_toArray, Bool.not_true, Bool.not_false]
      exact BIf_neg hb j9
    · refine HCalls.use (Good_ok k a b c H) ?_
      simp only [DI_int', DB_bool, DS_string, DP_pointer, DSl_slice, DM_map, DA_agg, DTup_tuple, DCons_cons, DNil_nil, NN_some, BIf_true, BIf_false, BIf_same, List.toList_toArray, Bool.not_true, Bool.not_false]
      refine HCalls.use (rGood_ok k a b c H) ?_
      simp only [DI_int', DB_bool, DS_string, DP_pointer, DSl_slice, DM_map, DA_agg, DTup_tuple, DCons_cons, DNil_nil, NN_some, BIf_true, BIf_false, BIf_same, List.toList_toArray, Bool.not_true, Bool.not_false]
      exact BIf_neg hb j9
  -- the word
  have word : ∀ {H : Hp} {A : Option Addr} {nl ml : Nat} {e : Int} {X : As} {K : Value → Hp → Prop}, Sep [own H0, pts b1 (ruleO k a b c), X] H → (∀ w f, (¬ (goodR k a b c = true ∧ 0 ≤ x ∧ x < 4294967296) → w = 0 ∧ f = (if goodR k a b c = true then 2 else 18)) →
      (∀ i : Nat, x = i → goodR k a b c = true → i ≤ 100 → w = ((val k a b c i : Nat) : Int) ∧ f = 0) → K (.tuple #[.int .u64 w, .int .i64 f]) H) →
      HCalls Tryd.prog 28 #[.agg #[.int .i64 k, .int .u64 (a : Int), .int .u64 (b : Int), .int .u64 (c : Int)], .int .i64 x] H K := fun {H A nl ml e X K} hs k1 => by
    by_cases hok : goodR k a b c = true ∧ 0 ≤ x ∧ x < 4294967296
    · obtain ⟨i, rfl⟩ := Int.eq_ofNat_of_zero_le hok.2.1
      refine (At_ok hok.1 (i := i) (by omega) H).mono ?_
      rintro _ _ ⟨rfl, rfl⟩
      exact k1 _ _ (fun h => absurd hok h) (fun i' e _ _ => by
        obtain rfl : i = i' := Int.ofNat.inj e
        exact ⟨rfl, rfl⟩)
    · refine (at_no k a b c x hx H hok).mono ?_
      rintro _ _ ⟨rfl, rfl⟩
      exact k1 _ _ (fun _ => ⟨rfl, rfl⟩) (fun i e hg hi => absurd ⟨hg, by omega, by omega⟩ hok)
  by_cases hok : goodR k a b c = true ∧ 0 ≤ x ∧ x < 4294967296 ∧ 0 ≤ n ∧ n ≤ 1048576 ∧ n ≤ 4294967296 - x
  · obtain ⟨i, hi⟩ := Int.eq_ofNat_of_zero_le hok.2.1
    obtain ⟨j, hj⟩ := Int.eq_ofNat_of_zero_le hok.2.2.2.1
    have P := (Part_tr (k := k) (a := a) (b := b) (c := c) (i := i) (n := j) hok.1 (by omega) (by omega) (by omega))
    rw [← hi, ← hj] at P
    refine P.use hs [] rfl rfl ?_
    rintro _ _ H ⟨bo, mm, rfl, rfl⟩ hs
    have hs := hs.re [1, 2, 0] rfl
    simp only [DI_int', DB_bool, DS_string, DP_pointer, DSl_slice, DM_map, DA_agg, DTup_tuple, DCons_cons, DNil_nil, NN_some, BIf_true, BIf_false, BIf_same, List.toList_toArray, Bool.not_true, Bool.not_false]
    refine hs.ldw 1 rfl rfl ?_
    refine word (A := none) (nl := 0) (ml := 0) (e := 0) hs fun w f hf hw => ?_
    simp only [DI_int', DB_bool, DS_string, DP_pointer, DSl_slice, DM_map, DA_agg, DTup_tuple, DCons_cons, DNil_nil, NN_some, BIf_true, BIf_false, BIf_same, List.toList_toArray, Bool.not_true, Bool.not_false]
    refine rest hs ⟨fun h => absurd hok h, hf⟩ (fun i' j' e1 e2 _ _ _ => ?_) hw
    obtain rfl : i = i' := Int.ofNat.inj (hi.symm.trans e1)
    obtain rfl : j = j' := Int.ofNat.inj (hj.symm.trans e2)
    refine ⟨rfl, rfl, fun H h => ?_⟩
    have := Cells.row h 0 j
    rw [List.drop_zero, List.take_of_length_le (by rw [natV_length, vals_len]; exact Nat.le_refl _)] at this
    exact this
  · refine (Part_no k a b c x n hx H hok).mono ?_
    rintro v H2 ⟨hv, hH⟩
    rw [hv, hH]
    simp only [DI_int', DB_bool, DS_string, DP_pointer, DSl_slice, DM_map, DA_agg, DTup_tuple, DCons_cons, DNil_nil, NN_some, BIf_true, BIf_false, BIf_same, List.toList_toArray, Bool.not_true, Bool.not_false]
    have hs : Sep [own H0, pts b1 (ruleO k a b c), fun _ => True] H := by
      have : Sep ((fun _ => True) :: [own H0, pts b1 (ruleO k a b c)]) H := ⟨fun _ => none, H, fun _ _ h => (nomatch h), Hp.le_refl _, fun _ => .inl rfl, trivial, hs⟩
      exact this.re [1, 2, 0] rfl
    refine hs.ldw 1 rfl rfl ?_
    refine word (A := none) (nl := 0) (ml := 0) (e := 0) hs fun w f hf hw => ?_
    simp only [DI_int', DB_bool, DS_string, DP_pointer, DSl_slice, DM_map, DA_agg, DTup_tuple, DCons_cons, DNil_nil, NN_some, BIf_true, BIf_false, BIf_same, List.toList_toArray, Bool.not_true, Bool.not_false]
    exact rest hs ⟨fun _ => ⟨rfl, rfl⟩, hf⟩ (fun i j e1 e2 hg h1 h2 => absurd ⟨hg, by omega, by omega, by omega, by omega, by omega⟩ hok) hw

theorem GenRows_ok (k : Int) (a b c : Nat) (x n : Int) (hx : -9223372036854775808 ≤ x ∧ x ≤ 9223372036854775807) (hn : -9223372036854775808 ≤ n ∧ n ≤ 9223372036854775807) (H : Hp) (hK : Kinds H) :
    HCalls Tryd.prog 7 #[.agg #[.int .i64 k, .int .u64 (a : Int), .int .u64 (b : Int), .int .u64 (c : Int)], .int .i64 x, .int .i64 n] H (Ret (.bool true) H) := by
  apply W_abacistlaw38_GenRows.ok
  unfold W_abacistlaw38_GenRows
  refine (Sep.start H).nw fun b1 H1 hs => ?_
  refine HCalls.use (awake_ok H1 (hK.le (hs.ow 0 rfl))) ?_
  simp only [DI_int', DB_bool, DS_string, DP_pointer, DSl_slice, DM_map, DA_agg, DTup_tuple, DCons_cons, DNil_nil, NN_some, BIf_true, BIf_false, BIf_same, List.toList_toArray, Bool.not_true, Bool.not_false]
  have fin : Ret (.bool true) H (.bool true) H1 := hs.fin 0 rfl _
  have go : ¬ (100 < x ∧ x < 4294967296) → ¬ (60 < n ∧ n ≤ 1048576) → W_abacistlaw38_GenRows.j5 (Ret (.bool true) H) x n ⟨b1, 0, none⟩ H1 := fun h1 h2 => GenRows_j5 k a b c x n hx hn h1 h2 hs
  have goX : ¬ (60 < n ∧ n ≤ 1048576) → BIf (decide (x > 100)) (BIf (decide (x < 4294967296)) (Ret (.bool true) H (.bool true) H1) (W_abacistlaw38_GenRows.j5 (Ret (.bool true) H) x n ⟨b1, 0, none⟩ H1)) (W_abacistlaw38_GenRows.j5 (Ret (.bool true) H) x n ⟨b1, 0, none⟩ H1) := fun h2 => by
    by_cases h3 : x > 100
    · refine BIf_dpos h3 ?_
      by_cases h4 : x < 4294967296
      · exact BIf_dpos h4 fin
      · exact BIf_dneg h4 (go (by omega) h2)
    · exact BIf_dneg h3 (go (by omega) h2)
  by_cases h1 : n > 60
  · refine BIf_dpos h1 ?_
    by_cases h2 : n ≤ 1048576
    · exact BIf_dpos h2 fin
    · exact BIf_dneg h2 (goX (by omega))
  · exact BIf_dneg h1 (goX (by omega))

end Go.Proofs.YtgkdkemhiglpdaaDoor.Gen

end
section
/-! NumF -/
/- Arithmetic modulo 2^64 - 2^32 + 1: powers; each number that isn't nought has an inverse. -/
set_option maxRecDepth 100000
set_option linter.unusedSimpArgs false
set_option linter.unusedVariables false
set_option linter.unnecessarySimpa false
set_option linter.unusedSectionVars false
namespace Go.Num

/-- A power, by squares. -/
def powm (a : Nat) : Nat → Nat → Nat
  | 0, _ => 1
  | f + 1, n => if n = 0 then 1 else if n % 2 = 1 then powm a f (n / 2) * powm a f (n / 2) % 18446744069414584321 * a % 18446744069414584321 else powm a f (n / 2) * powm a f (n / 2) % 18446744069414584321

def powl (a : Nat) (n : Nat) : Nat → Nat → Nat
  | 0, r => r
  | f + 1, r => powl a n f (if n / 2 ^ f % 2 = 1 then r * r % 18446744069414584321 * a % 18446744069414584321 else r * r % 18446744069414584321)

theorem powl_eq (a n : Nat) : ∀ (f r m : Nat), m = n / 2 ^ f → r % 18446744069414584321 = a ^ m % 18446744069414584321 → powl a n f r % 18446744069414584321 = a ^ n % 18446744069414584321
  | 0, r, m, hm, hr => by
    rw [Nat.pow_zero, Nat.div_one] at hm
    subst hm
    exact hr
  | f + 1, r, m, hm, hr => by
    unfold powl
    refine powl_eq a n f _ (n / 2 ^ f) rfl ?_
    have h2 : n / 2 ^ f / 2 = m := by rw [hm, Nat.div_div_eq_div_mul, ← Nat.pow_succ]
    have e : n / 2 ^ f = 2 * m + n / 2 ^ f % 2 := by omega
    have hsq : r * r % 18446744069414584321 = a ^ (2 * m) % 18446744069414584321 := by
      rw [Nat.mul_mod, hr, ← Nat.mul_mod, ← Nat.pow_add, Nat.two_mul]
    by_cases h : n / 2 ^ f % 2 = 1
    · rw [if_pos h, Nat.mod_mod, e, h, Nat.pow_succ, Nat.mul_mod, Nat.mod_mod, hsq, ← Nat.mul_mod]
    · rw [if_neg h, Nat.mod_mod, hsq]
      have : n / 2 ^ f % 2 = 0 := by omega
      rw [e, this, Nat.add_zero]
theorem pow_of (a n f : Nat) (h : n < 2 ^ f) {r : Nat} (hr : powl a n f 1 = r) (hl : r < 18446744069414584321) : a ^ n % 18446744069414584321 = r := by
  have := powl_eq a n f 1 0 (Nat.div_eq_of_lt h).symm rfl
  rw [hr, Nat.mod_eq_of_lt hl] at this
  exact this.symm

theorem pow_one_mul {a d k : Nat} (h : a ^ d % 18446744069414584321 = 1) : a ^ (d * k) % 18446744069414584321 = 1 := by
  rw [Nat.pow_mul, Nat.pow_mod, h, Nat.one_pow]
theorem pow_mod_one {a d e : Nat} (h : a ^ d % 18446744069414584321 = 1) (k : a ^ e % 18446744069414584321 = 1) : a ^ (e % d) % 18446744069414584321 = 1 := by
  have h1 : a ^ (d * (e / d)) * a ^ (e % d) = a ^ e := by rw [← Nat.pow_add, Nat.div_add_mod]
  have h2 : a ^ (d * (e / d)) * a ^ (e % d) % 18446744069414584321 = a ^ e % 18446744069414584321 := by rw [h1]
  rw [Nat.mul_mod, pow_one_mul h, Nat.one_mul, Nat.mod_mod, k] at h2
  exact h2
theorem pow_gcd {a : Nat} : ∀ d e : Nat, a ^ d % 18446744069414584321 = 1 → a ^ e % 18446744069414584321 = 1 → a ^ (Nat.gcd d e) % 18446744069414584321 = 1 := fun d e => by
  induction d, e using Nat.gcd.induction with
  | H0 n => intro _ h; rw [Nat.gcd_zero_left]; exact h
  | H1 m n hm ih => intro h k; rw [Nat.gcd_rec]; exact ih (pow_mod_one h k) h

theorem pigeon : ∀ (n : Nat) (f : Nat → Nat), (∀ i, i < n → f i < n) → (∀ i j, i < n → j < n → f i = f j → i = j) → ∀ y, y < n → ∃ i, i < n ∧ f i = y
  | 0, _, _, _, y, hy => absurd hy (by omega)
  | n + 1, f, hf, hi, y, hy => by
    have hg : ∀ i, i < n → (if f i = n then f n else f i) < n := fun i h => by
      split
      · rename_i e
        have h1 := hf n (by omega)
        have : f n ≠ n := fun e2 => by have := hi i n (by omega) (by omega) (by omega); omega
        omega
      · have := hf i (by omega); omega
    have hj : ∀ i j, i < n → j < n → (if f i = n then f n else f i) = (if f j = n then f n else f j) → i = j := fun i j h1 h2 e => by
      split at e <;> split at e
      · exact hi i j (by omega) (by omega) (by omega)
      · have := hi n j (by omega) (by omega) e; omega
      · have := hi i n (by omega) (by omega) e; omega
      · exact hi i j (by omega) (by omega) e
    have hn : ∃ i, i < n + 1 ∧ f i = n := by
      by_cases e : f n = n
      · exact ⟨n, by omega, e⟩
      · have h1 := hf n (by omega)
        obtain ⟨i, h2, h3⟩ := pigeon n _ hg hj (f n) (by omega)
        split at h3
        · exact ⟨i, by omega, by assumption⟩
        · have := hi i n (by omega) (by omega) h3; omega
    by_cases hyn : y = n
    · subst hyn; exact hn
    · obtain ⟨i, h2, h3⟩ := pigeon n _ hg hj y (by omega)
      split at h3
      · exact ⟨n, by omega, h3⟩
      · exact ⟨i, by omega, h3⟩

section
variable {N : Nat} (hN : N = 18446744069414584320)
include hN
theorem seven_all : 7 ^ N % 18446744069414584321 = 1 := pow_of 7 N 64 (by omega) (by subst hN; decide +kernel) (by decide)
theorem seven_2 : 7 ^ (N / 2) % 18446744069414584321 = 18446744069414584320 := pow_of 7 (N / 2) 64 (by omega) (by subst hN; decide +kernel) (by decide)
theorem seven_3 : 7 ^ (N / 3) % 18446744069414584321 ≠ 1 := fun h1 => by
  have h := pow_of 7 (N / 3) 64 (by omega) (r := powl 7 (N / 3) 64 1) rfl (by subst hN; decide +kernel)
  rw [h1] at h
  clear h1
  revert h
  subst hN
  decide +kernel
theorem seven_5 : 7 ^ (N / 5) % 18446744069414584321 ≠ 1 := fun h1 => by
  have h := pow_of 7 (N / 5) 64 (by omega) (r := powl 7 (N / 5) 64 1) rfl (by subst hN; decide +kernel)
  rw [h1] at h
  clear h1
  revert h
  subst hN
  decide +kernel
theorem seven_17 : 7 ^ (N / 17) % 18446744069414584321 ≠ 1 := fun h1 => by
  have h := pow_of 7 (N / 17) 64 (by omega) (r := powl 7 (N / 17) 64 1) rfl (by subst hN; decide +kernel)
  rw [h1] at h
  clear h1
  revert h
  subst hN
  decide +kernel
theorem seven_257 : 7 ^ (N / 257) % 18446744069414584321 ≠ 1 := fun h1 => by
  have h := pow_of 7 (N / 257) 64 (by omega) (r := powl 7 (N / 257) 64 1) rfl (by subst hN; decide +kernel)
  rw [h1] at h
  clear h1
  revert h
  subst hN
  decide +kernel
theorem seven_65537 : 7 ^ (N / 65537) % 18446744069414584321 ≠ 1 := fun h1 => by
  have h := pow_of 7 (N / 65537) 64 (by omega) (r := powl 7 (N / 65537) 64 1) rfl (by subst hN; decide +kernel)
  rw [h1] at h
  clear h1
  revert h
  subst hN
  decide +kernel
end

theorem no_factor {q : Nat} (h : (List.range q).all (fun d => d < 2 || q % d != 0) = true) (hq : 2 ≤ q) {d : Nat} (hd : d ∣ q) : d = 1 ∨ d = q := by
  have hle := Nat.le_of_dvd (by omega) hd
  by_cases e : d = q
  · exact .inr e
  · left
    have := List.all_eq_true.1 h d (by simp; omega)
    simp only [Bool.or_eq_true, decide_eq_true_eq, bne_iff_ne] at this
    have h0 : 0 < d := Nat.pos_of_dvd_of_pos hd (by omega)
    have := Nat.mod_eq_zero_of_dvd hd
    omega

theorem cop {q m : Nat} (h : (List.range q).all (fun d => d < 2 || q % d != 0) = true) (hq : 2 ≤ q) (hm : ¬ q ∣ m) : Nat.Coprime m q := by
  rcases no_factor h hq (Nat.gcd_dvd_right m q) with e | e
  · exact e
  · exact absurd (e ▸ Nat.gcd_dvd_left m q) hm

theorem split_all : 18446744069414584320 = 2 ^ 32 * (3 * (5 * (17 * (257 * 65537)))) := by decide

/-- A part of the whole that isn't all of it leaves a prime of it out. -/
theorem part_out {m : Nat} (hm : m ∣ 18446744069414584320) (h1 : m ≠ 1) : 2 ∣ m ∨ 3 ∣ m ∨ 5 ∣ m ∨ 17 ∣ m ∨ 257 ∣ m ∨ 65537 ∣ m := by
  by_cases a : 2 ∣ m
  · exact .inl a
  by_cases b : 3 ∣ m
  · exact .inr (.inl b)
  by_cases c : 5 ∣ m
  · exact .inr (.inr (.inl c))
  by_cases d : 17 ∣ m
  · exact .inr (.inr (.inr (.inl d)))
  by_cases e : 257 ∣ m
  · exact .inr (.inr (.inr (.inr (.inl e))))
  by_cases f : 65537 ∣ m
  · exact .inr (.inr (.inr (.inr (.inr f))))
  exfalso
  have k : Nat.Coprime m (2 ^ 32 * (3 * (5 * (17 * (257 * 65537))))) :=
    Nat.Coprime.mul_right ((cop (by decide) (by decide) a).pow_right 32) (Nat.Coprime.mul_right (cop (by decide) (by decide) b) (Nat.Coprime.mul_right (cop (by decide) (by decide) c) (Nat.Coprime.mul_right (cop (by decide +kernel) (by decide) d)
      (Nat.Coprime.mul_right (cop (by decide +kernel) (by decide) e) (cop (by decide +kernel) (by decide) f)))))
  rw [← split_all] at k
  have : Nat.gcd m 18446744069414584320 = m := Nat.gcd_eq_left hm
  rw [Nat.Coprime, this] at k
  exact h1 k

theorem dvd_less {N g m q : Nat} (h : N = g * m) (hq : q ∣ m) (hq0 : 0 < q) : N / q = g * (m / q) := by
  obtain ⟨k, rfl⟩ := hq
  rw [h, Nat.mul_div_cancel_left _ hq0, ← Nat.mul_assoc, Nat.mul_comm g q, Nat.mul_assoc, Nat.mul_div_cancel_left _ hq0]

section
variable {N : Nat} (hN : N = 18446744069414584320)
include hN
/-- 7 has the whole as its order. -/
theorem seven_ord {d : Nat} (h : 7 ^ d % 18446744069414584321 = 1) : N ∣ d := by
  have hg := pow_gcd d _ h (seven_all hN)
  have hd : Nat.gcd d N ∣ N := Nat.gcd_dvd_right _ _
  have hdd : Nat.gcd d N ∣ d := Nat.gcd_dvd_left _ _
  generalize Nat.gcd d N = g at *
  obtain ⟨m, hm⟩ := hd
  by_cases h1 : m = 1
  · rw [h1, Nat.mul_one] at hm; rw [hm]; exact hdd
  exfalso
  have key : ∀ q, 0 < q → q ∣ m → 7 ^ (N / q) % 18446744069414584321 = 1 := fun q h0 hq => by rw [dvd_less hm hq h0]; exact pow_one_mul hg
  rcases part_out ⟨g, by rw [← hN, Nat.mul_comm]; exact hm⟩ h1 with a | a | a | a | a | a
  · have := key 2 (by decide) a; rw [seven_2 hN] at this; omega
  · exact seven_3 hN (key 3 (by decide) a)
  · exact seven_5 hN (key 5 (by decide) a)
  · exact seven_17 hN (key 17 (by decide) a)
  · exact seven_257 hN (key 257 (by decide) a)
  · exact seven_65537 hN (key 65537 (by decide) a)

theorem seven_back {i : Nat} (h : i ≤ N) : 7 ^ i * 7 ^ (N - i) % 18446744069414584321 = 1 := by
  rw [← Nat.pow_add, Nat.add_sub_cancel' h]; exact seven_all hN

theorem seven_inj {i j : Nat} (hi : i < N) (hj : j < N) (hij : i ≤ j) (h : 7 ^ i % 18446744069414584321 = 7 ^ j % 18446744069414584321) : i = j := by
  have h1 : 7 ^ (j - i) % 18446744069414584321 = 1 := by
    have h2 : 7 ^ (j - i) * (7 ^ i * 7 ^ (N - i)) % 18446744069414584321 = 7 ^ (j - i) % 18446744069414584321 := by
      rw [Nat.mul_mod, seven_back hN (by omega), Nat.mul_one, Nat.mod_mod]
    rw [← h2, ← Nat.mul_assoc, ← Nat.pow_add, Nat.sub_add_cancel hij, Nat.mul_mod, ← h, ← Nat.mul_mod, seven_back hN (by omega)]
  obtain ⟨k, hk⟩ := seven_ord hN h1
  cases k with
  | zero => omega
  | succ k => rw [Nat.mul_succ] at hk; omega

theorem seven_pos {i : Nat} (hi : i < N) : 7 ^ i % 18446744069414584321 ≠ 0 := fun h => by
  have := seven_back hN (i := i) (by omega)
  rw [Nat.mul_mod, h, Nat.zero_mul] at this
  omega

/-- Each number that isn't nought is a power of 7. -/
theorem seven_root {a : Nat} (h : a % 18446744069414584321 ≠ 0) : ∃ i, i < N ∧ 7 ^ i % 18446744069414584321 = a % 18446744069414584321 := by
  have hlt := Nat.mod_lt a (show 0 < 18446744069414584321 by decide)
  obtain ⟨i, h1, h2⟩ := pigeon N (fun i => 7 ^ i % 18446744069414584321 - 1) (fun i hi => by
      have := Nat.mod_lt (7 ^ i) (show 0 < 18446744069414584321 by decide)
      show 7 ^ i % 18446744069414584321 - 1 < _
      omega) (fun i j hi hj e => by
      have e : 7 ^ i % 18446744069414584321 - 1 = 7 ^ j % 18446744069414584321 - 1 := e
      have a1 := seven_pos hN hi
      have a2 := seven_pos hN hj
      have e' : 7 ^ i % 18446744069414584321 = 7 ^ j % 18446744069414584321 := by omega
      by_cases hij : i ≤ j
      · exact seven_inj hN hi hj hij e'
      · exact (seven_inj hN hj hi (by omega) e'.symm).symm) (a % 18446744069414584321 - 1) (by omega)
  have h2 : 7 ^ i % 18446744069414584321 - 1 = a % 18446744069414584321 - 1 := h2
  have := seven_pos hN h1
  exact ⟨i, h1, by omega⟩

theorem fermat {a : Nat} (h : a % 18446744069414584321 ≠ 0) : a ^ N % 18446744069414584321 = 1 := by
  obtain ⟨i, _, hi⟩ := seven_root hN h
  rw [Nat.pow_mod, ← hi, ← Nat.pow_mod, ← Nat.pow_mul, Nat.mul_comm]
  exact pow_one_mul (seven_all hN)

/-- An inverse. -/
theorem inv_mul {a : Nat} (h : a % 18446744069414584321 ≠ 0) : a * (a ^ (N - 1) % 18446744069414584321) % 18446744069414584321 = 1 := by
  rw [Nat.mul_mod_mod, Nat.mul_comm, ← Nat.pow_succ, Nat.succ_eq_add_one]
  rw [show N - 1 + 1 = N by omega]
  exact fermat hN h

/-- A factor that isn't nought is struck. -/
theorem cancel {a x y : Nat} (h : a % 18446744069414584321 ≠ 0) (e : a * x % 18446744069414584321 = a * y % 18446744069414584321) : x % 18446744069414584321 = y % 18446744069414584321 := by
  have h1 : ∀ z, (a ^ (N - 1) % 18446744069414584321) * (a * z) % 18446744069414584321 = z % 18446744069414584321 := fun z => by
    rw [← Nat.mul_assoc, Nat.mul_mod, Nat.mul_comm _ a, inv_mul hN h, Nat.one_mul, Nat.mod_mod]
  rw [← h1 x, ← h1 y, Nat.mul_mod, e, ← Nat.mul_mod]

end

end Go.Num

end
section
/-! GenH -/
/- gen: sums. -/
set_option maxRecDepth 100000
set_option linter.unusedSimpArgs false
set_option linter.unusedVariables false
set_option linter.unnecessarySimpa false
set_option linter.unusedSectionVars false
namespace Go.Proofs.YtgkdkemhiglpdaaDoor.Gen
open Go Go.Hw Go.Proofs.YtgkdkemhiglpdaaDoor.W Go.Proofs.YtgkdkemhiglpdaaDoor.Gol

def sumV (k : Int) (a b c : Nat) : Nat → Nat
  | 0 => 0
  | n + 1 => sumV k a b c n + val k a b c n
def tri : Nat → Nat
  | 0 => 0
  | n + 1 => tri n + n
def gsum (b : Nat) : Nat → Nat
  | 0 => 0
  | n + 1 => gsum b n + geo b n
def cnt (b c : Nat) : Nat → Nat
  | 0 => 0
  | n + 1 => cnt b c n + (if pulse b c n = true then 1 else 0)

theorem mul_add_mod (p x y z : Nat) : (x % p * y + z) % p = (x * y + z) % p := by rw [Nat.add_mod, mod_mul_l, ← Nat.add_mod]

theorem sum_1 {k : Int} (hk : k = 1) (a b c : Nat) : ∀ n, sumV k a b c n = a * n
  | 0 => rfl
  | n + 1 => by
    show sumV k a b c n + val k a b c n = _
    rw [sum_1 hk a b c n, Nat.mul_succ]
    unfold val
    rw [if_pos hk]
theorem sum_2 {k : Int} (hk : k = 2) (a b c : Nat) : ∀ n, sumV k a b c n % 18446744069414584321 = (a * n + b * tri n) % 18446744069414584321
  | 0 => by simp [sumV, tri]
  | n + 1 => by
    show (sumV k a b c n + val k a b c n) % 18446744069414584321 = (a * (n + 1) + b * (tri n + n)) % 18446744069414584321
    have e : val k a b c n = (a + b * n) % 18446744069414584321 := by unfold val; rw [if_neg (by omega), if_pos hk]
    rw [e, mod_add_r, ← mod_add_l, sum_2 hk a b c n, mod_add_l, Nat.mul_succ, Nat.mul_add]
    congr 1
    generalize a * n = x
    generalize b * tri n = y
    generalize b * n = z
    omega
theorem sum_3 {k : Int} (hk : k = 3) (a b c : Nat) : ∀ n, sumV k a b c n % 18446744069414584321 = a * geo b n % 18446744069414584321
  | 0 => by simp [sumV, geo]
  | n + 1 => by
    show (sumV k a b c n + val k a b c n) % 18446744069414584321 = _
    have e : val k a b c n = a * b ^ n % 18446744069414584321 := by unfold val; rw [if_neg (by omega), if_neg (by omega), if_pos hk]
    rw [e, mod_add_r, ← mod_add_l, sum_3 hk a b c n, mod_add_l, geo_pow, Nat.mul_add]
theorem sum_4 {k : Int} (hk : k = 4) (a b c : Nat) : ∀ n, sumV k a b c n % 18446744069414584321 = (a * geo b n + c * gsum b n) % 18446744069414584321
  | 0 => by simp [sumV, geo, gsum]
  | n + 1 => by
    show (sumV k a b c n + val k a b c n) % 18446744069414584321 = (a * geo b (n + 1) + c * (gsum b n + geo b n)) % 18446744069414584321
    have e : val k a b c n = (a * b ^ n + c * geo b n) % 18446744069414584321 := by unfold val; rw [if_neg (by omega), if_neg (by omega), if_neg (by omega), if_pos hk]
    rw [e, mod_add_r, ← mod_add_l, sum_4 hk a b c n, mod_add_l, geo_pow, Nat.mul_add, Nat.mul_add]
    congr 1
    generalize a * geo b n = x
    generalize a * b ^ n = y
    generalize c * gsum b n = z
    generalize c * geo b n = w
    omega
theorem sum_5 {k : Int} (hk : k = 5) (a b c : Nat) : ∀ n, sumV k a b c n = a * cnt b c n
  | 0 => rfl
  | n + 1 => by
    show sumV k a b c n + val k a b c n = a * (cnt b c n + _)
    rw [sum_5 hk a b c n, val_5 hk, Nat.mul_add]
    cases pulse b c n <;> simp

theorem tri_two : ∀ m, tri (2 * m) = m * (2 * m - 1) ∧ tri (2 * m + 1) = (2 * m + 1) * m
  | 0 => ⟨rfl, rfl⟩
  | m + 1 => by
    obtain ⟨_, h⟩ := tri_two m
    have h1 : tri (2 * (m + 1)) = (m + 1) * (2 * (m + 1) - 1) := by
      show tri (2 * m + 1) + (2 * m + 1) = _
      rw [h, show 2 * (m + 1) - 1 = 2 * m + 1 by omega, ← Nat.mul_succ, Nat.mul_comm]
    refine ⟨h1, ?_⟩
    show tri (2 * (m + 1)) + 2 * (m + 1) = _
    rw [h1, show 2 * (m + 1) - 1 = 2 * m + 1 by omega, show 2 * (m + 1) + 1 = 2 * m + 1 + 2 by omega, Nat.mul_comm, Nat.add_mul (2 * m + 1)]

theorem geo_d {b d : Nat} (h : (d + 1) % 18446744069414584321 = b % 18446744069414584321) : ∀ n, (n + d * gsum b n) % 18446744069414584321 = geo b n % 18446744069414584321
  | 0 => by simp [geo, gsum]
  | n + 1 => by
    show (n + 1 + d * (gsum b n + geo b n)) % 18446744069414584321 = (b * geo b n + 1) % 18446744069414584321
    have e : n + 1 + d * (gsum b n + geo b n) = n + d * gsum b n + (d * geo b n + 1) := by rw [Nat.mul_add]; omega
    rw [e, ← mod_add_l, geo_d h n, mod_add_l, ← mul_add_mod _ b, ← h, mul_add_mod, Nat.add_mul, Nat.one_mul]
    congr 1
    omega
theorem geo_1 : ∀ n, geo 1 n = n
  | 0 => rfl
  | n + 1 => by
    show 1 * geo 1 n + 1 = _
    rw [geo_1 n, Nat.one_mul]
theorem gsum_1 : ∀ n, gsum 1 n = tri n
  | 0 => rfl
  | n + 1 => by
    show gsum 1 n + geo 1 n = tri n + n
    rw [gsum_1 n, geo_1 n]

theorem below_is {b n : Nat} (hb : b < 18446744069414584321) (h1 : b ≠ 1) : sub (geo b n % 18446744069414584321) n * ginv (sub b 1) % 18446744069414584321 = gsum b n % 18446744069414584321 := by
  have hd : (sub b 1 + 1) % 18446744069414584321 = b % 18446744069414584321 := by
    unfold sub neg; omega
  have hd0 : sub b 1 % 18446744069414584321 ≠ 0 := by
    unfold sub neg; omega
  have hg := geo_d hd n
  have hs : sub (geo b n % 18446744069414584321) n = sub b 1 * gsum b n % 18446744069414584321 := by
    rw [← hg]
    show ((n + sub b 1 * gsum b n) % 18446744069414584321 + neg n) % 18446744069414584321 = _
    generalize sub b 1 * gsum b n = z
    unfold neg
    omega
  have hi : sub b 1 * ginv (sub b 1) % 18446744069414584321 = 1 := by
    have := Go.Num.inv_mul (N := eInv + 1) (by unfold eInv; rfl) hd0
    rw [Nat.add_sub_cancel] at this
    exact this
  rw [hs, mod_mul_l, Nat.mul_right_comm, ← mod_mul_l, hi, Nat.one_mul]

theorem cnt_0 (b : Nat) : ∀ n, cnt b 0 n = if b < n then 1 else 0
  | 0 => by simp [cnt]
  | n + 1 => by
    show cnt b 0 n + (if pulse b 0 n = true then 1 else 0) = _
    rw [cnt_0 b n]
    have e : pulse b 0 n = (n == b) := by unfold pulse; rw [if_pos rfl]
    rw [e]
    by_cases h : n = b
    · subst h; simp
    · have : (n == b) = false := beq_eq_false_iff_ne.2 h
      simp only [this, Bool.false_eq_true, if_false, Nat.add_zero]
      by_cases h2 : b < n
      · rw [if_pos h2, if_pos (by omega)]
      · rw [if_neg h2, if_neg (by omega)]

theorem div_step {m c : Nat} (hc : 0 < c) (hm : 1 ≤ m) : m / c = (m - 1) / c + (if m % c = 0 then 1 else 0) := by
  have e := Nat.div_add_mod (m - 1) c
  have hr := Nat.mod_lt (m - 1) hc
  by_cases h : (m - 1) % c + 1 = c
  · have e2 : m = c * ((m - 1) / c + 1) := by rw [Nat.mul_succ]; omega
    have h1 : m % c = 0 := by rw [e2]; exact Nat.mul_mod_right _ _
    have h2 : m / c = (m - 1) / c + 1 := by
      conv => lhs; rw [e2]
      exact Nat.mul_div_cancel_left _ hc
    rw [if_pos h1, h2]
  · have e2 : m = c * ((m - 1) / c) + ((m - 1) % c + 1) := by omega
    have hlt : (m - 1) % c + 1 < c := by omega
    have h1 : m % c = (m - 1) % c + 1 := by
      conv => lhs; rw [e2]
      rw [Nat.mul_add_mod, Nat.mod_eq_of_lt hlt]
    have h2 : m / c = (m - 1) / c := by
      conv => lhs; rw [e2]
      rw [Nat.mul_add_div hc, Nat.div_eq_of_lt hlt, Nat.add_zero]
    rw [if_neg (by omega), h2, Nat.add_zero]

theorem cnt_c (b : Nat) {c : Nat} (hc : 0 < c) : ∀ n, cnt b c n = if n ≤ b % c then 0 else (n - 1 - b % c) / c + 1
  | 0 => by simp [cnt]
  | n + 1 => by
    show cnt b c n + (if pulse b c n = true then 1 else 0) = _
    rw [cnt_c b hc n]
    have e : pulse b c n = (n % c == b % c) := by unfold pulse; rw [if_neg (by omega)]
    rw [e]
    have hf := Nat.mod_lt b hc
    generalize b % c = f at *
    by_cases h1 : n < f
    · have hn : n % c = n := Nat.mod_eq_of_lt (by omega)
      have e1 : (n == f) = false := beq_eq_false_iff_ne.2 (by omega)
      rw [hn]
      simp only [e1, Bool.false_eq_true, if_false, Nat.add_zero]
      rw [if_pos (show n ≤ f by omega), if_pos (show n + 1 ≤ f by omega)]
    by_cases h2 : n = f
    · subst h2
      have hn : n % c = n := Nat.mod_eq_of_lt hf
      rw [hn, if_pos (Nat.le_refl n), if_pos (show (n == n) = true by simp), if_neg (show ¬ n + 1 ≤ n by omega)]
      simp
    · rw [if_neg (show ¬ n ≤ f by omega), if_neg (show ¬ n + 1 ≤ f by omega)]
      have hd := div_step (m := n - f) hc (by omega)
      have hmod : (n % c == f) = decide ((n - f) % c = 0) := by
        have en : n % c = (f + (n - f) % c) % c := by
          conv => lhs; rw [show n = f + (n - f) by omega]
          rw [Nat.add_mod, Nat.mod_eq_of_lt hf]
        have hr := Nat.mod_lt (n - f) hc
        rw [en]
        generalize (n - f) % c = r at *
        by_cases h0 : r = 0
        · subst h0
          simp [Nat.mod_eq_of_lt hf]
        · rw [decide_eq_false h0, beq_eq_false_iff_ne]
          by_cases h3 : f + r < c
          · rw [Nat.mod_eq_of_lt h3]; omega
          · rw [Nat.mod_eq_sub_mod (by omega), Nat.mod_eq_of_lt (by omega)]; omega
      rw [hmod, show n + 1 - 1 - f = n - f by omega, hd, show n - 1 - f = n - f - 1 by omega]
      by_cases h0 : (n - f) % c = 0
      · simp [h0]
      · simp [h0]

end Go.Proofs.YtgkdkemhiglpdaaDoor.Gen

end
