import Derived.Test.YtbnhfcdagoigkaaDoorProg
import Derived.Shelf.Strings.OnBuilder
import Derived.Shelf.Strings.Trim
import Derived.Test.YtbnhfcdagoigkaaDoorPkGenLines2
section
/-! Wabacistref38 -/
/- Formulas of functions, printed by wip/tools/hwp.py. -/
set_option maxRecDepth 100000
set_option linter.unusedVariables false
namespace Go.Proofs.YtbnhfcdagoigkaaDoor.W
open Go Go.Hw

theorem mixWabacistref38 : Tryd.prog.follows .mixedOrders = true := by kernel_rfl
-- abacistref38.Good
def W_abacistref38_Good (x1 : Int) (x2 : Int) (x3 : Int) (x4 : Int) (H : Hp) (K : Value → Hp → Prop) : Prop :=
  Nw H (.obj (.cells #[.int .i64 x1, .int .u64 x2, .int .u64 x3, .int .u64 x4] 102)) fun b1 H1 => Ld H1 ((⟨b1, 0, none⟩ : Addr).add 1) fun v1 => DI .u64 v1 fun x5 => BIf (decide (x5 ≥ (18446744069414584321 : Int))) (K (.bool false) H1) (Ld H1 ((⟨b1, 0, none⟩ : Addr).add 2) fun v2 => DI .u64 v2 fun x6 => BIf (decide (x6 ≥ (18446744069414584321 : Int))) (K (.bool false) H1) (Ld H1 ((⟨b1, 0, none⟩ : Addr).add 3) fun v3 => DI .u64 v3 fun x7 => BIf (decide (x7 ≥ (18446744069414584321 : Int))) (K (.bool false) H1) (Ld H1 ((⟨b1, 0, none⟩ : Addr).add 0) fun v4 => DI .i64 v4 fun x8 => BIf (x8 == (5 : Int)) (Ld H1 ((⟨b1, 0, none⟩ : Addr).add 2) fun v5 => DI .u64 v5 fun x9 => BIf (decide (x9 < (4294967296 : Int))) (Ld H1 ((⟨b1, 0, none⟩ : Addr).add 3) fun v6 => DI .u64 v6 fun x10 => K (.bool (decide (x10 < (4294967296 : Int)))) H1) (K (.bool false) H1)) (Ld H1 ((⟨b1, 0, none⟩ : Addr).add 0) fun v7 => DI .i64 v7 fun x11 => BIf (decide (x11 ≥ (1 : Int))) (Ld H1 ((⟨b1, 0, none⟩ : Addr).add 0) fun v8 => DI .i64 v8 fun x12 => K (.bool (decide (x12 ≤ (4 : Int)))) H1) (K (.bool false) H1)))))
def W_abacistref38_Good.Λ (_ : Value → Hp → Prop) : Cuts := Cuts.none (fun _ => none)
theorem W_abacistref38_Good.ok (x1 : Int) (x2 : Int) (x3 : Int) (x4 : Int) (H : Hp) (K : Value → Hp → Prop) (h : W_abacistref38_Good x1 x2 x3 x4 H K) : HCalls Tryd.prog 51 #[.agg #[.int .i64 x1, .int .u64 x2, .int .u64 x3, .int .u64 x4]] H K :=
  hcalls Tryd.func51 rfl (Nat.le_of_ble_eq_true rfl) (hw_safe (Λ := Cuts.none (fun _ => none)) mixWabacistref38 _ _ _ _ _ (Eq.mp (by kernel_rfl) h) (obs_none _ _ _ _ _))

end Go.Proofs.YtbnhfcdagoigkaaDoor.W

end
section
/-! GenA -/
/- gen: rules: are they good; words by themselves. -/
set_option maxRecDepth 100000
set_option linter.unusedSimpArgs false
set_option linter.unusedVariables false
set_option linter.unnecessarySimpa false
set_option linter.unusedSectionVars false
namespace Go.Proofs.YtbnhfcdagoigkaaDoor.Gen
open Go Go.Hw Go.Proofs.YtbnhfcdagoigkaaDoor.W Go.Proofs.YtbnhfcdagoigkaaDoor.Gol

def natV (xs : List Nat) : List Value := List.map (fun (x : Nat) => Value.int .u64 (x : Int)) xs

theorem BIf_d {p : Prop} [Decidable p] {X Y : Prop} (h1 : p → X) (h2 : ¬ p → Y) : BIf (decide p) X Y := by
  by_cases h : p
  · exact BIf_dpos h (h1 h)
  · exact BIf_dneg h (h2 h)
theorem BIf_nd {p : Prop} [Decidable p] {X Y : Prop} (h1 : p → Y) (h2 : ¬ p → X) : BIf (!decide p) X Y := by
  by_cases h : p
  · rw [decide_eq_true h]; exact BIf_neg rfl (h1 h)
  · rw [decide_eq_false h]; exact BIf_pos rfl (h2 h)

theorem Index_loop (H : Hp) (A : Option Addr) (n m : Nat) (xs : List Nat) (hn : n = xs.length) (hl : n ≤ 1000000000) (hc : Cells H A (natV xs)) :
    ∀ (t j : Nat), j + t = n → (∀ k x, k < j → xs[k]? = some x → x < 18446744069414584321) →
      W_slices_IndexFunc_uint64_uint64.l2 (fun v H' => (∃ i : Int, v = .int .i64 i ∧ (i < 0 ↔ ∀ x ∈ xs, x < 18446744069414584321)) ∧ H' = H) (t + 1) A n m 84 #[] #[] (n : Int) (j : Int) H
  | 0, j, hj, hall => by
    unfold W_slices_IndexFunc_uint64_uint64.l2
    refine BIf_dneg (by omega) ⟨⟨-1, rfl, fun _ x hx => ?_, fun _ => by decide⟩, rfl⟩
    obtain ⟨k, hk, rfl⟩ := List.getElem_of_mem hx
    exact hall k _ (by omega) (List.getElem?_eq_getElem hk)
  | t + 1, j, hj, hall => by
    unfold W_slices_IndexFunc_uint64_uint64.l2
    refine BIf_dpos (by omega) ?_
    have hg : xs[j]? = some (xs[j]'(by omega)) := List.getElem?_eq_getElem (by omega)
    have hg2 : (natV xs)[j]? = some (.int .u64 ((xs[j]'(by omega) : Nat) : Int)) := by unfold natV; rw [List.getElem?_map, hg]; rfl
    refine hc.read hg2 rfl (by unfold natV; rw [List.length_map]; omega) ?_
    simp only [DI_int', DB_bool, DS_string, DP_pointer, DSl_slice, DM_map, DA_agg, DTup_tuple, DCons_cons, DNil_nil, NN_some, BIf_true, BIf_false, BIf_same, List.toList_toArray, Bool.not_true, Bool.not_false]
    refine BIf_pos (by kernel_rfl) ?_
    have hv : HCalls Tryd.prog 84 #[.int .u64 ((xs[j]'(by omega) : Nat) : Int)] H (RetE (.bool (!(decide (((xs[j]'(by omega) : Nat) : Int) < 18446744069414584321)))) H) := by
      apply W_codec_Check_1.ok
      unfold W_codec_Check_1
      have hg : HCalls Tryd.prog 85 #[.int .u64 ((xs[j]'(by omega) : Nat) : Int)] H (RetE (.bool (decide (((xs[j]'(by omega) : Nat) : Int) < 18446744069414584321))) H) := by
        apply W_gold_Good.ok
        unfold W_gold_Good
        exact RetE.mk _ _
      refine HCalls.use hg ?_
      simp only [DI_int', DB_bool, DS_string, DP_pointer, DSl_slice, DM_map, DA_agg, DTup_tuple, DCons_cons, DNil_nil, NN_some, BIf_true, BIf_false, BIf_same, List.toList_toArray, Bool.not_true, Bool.not_false]
      exact RetE.mk _ _
    refine HCalls.use hv ?_
    have hr : resTypes Tryd.prog 84 = [4] := by kernel_rfl
    rw [hr]
    have hdt : ∀ (b : Bool) (K : Value → Prop), K (.bool b) → DR Tryd.prog [4] (.bool b) K := fun b K k => by
      show DT Tryd.prog 4 (.bool b) K
      unfold DT
      rw [show Tryd.prog.underlying 4 = some .bool by kernel_rfl]
      exact k
    refine hdt _ _ ?_
    simp only [DI_int', DB_bool, DS_string, DP_pointer, DSl_slice, DM_map, DA_agg, DTup_tuple, DCons_cons, DNil_nil, NN_some, BIf_true, BIf_false, BIf_same, List.toList_toArray, Bool.not_true, Bool.not_false]
    generalize hz : ((xs[j]'(by omega) : Nat) : Int) = z at *
    refine BIf_nd (fun hx => ?_) (fun hx => ?_)
    · rw [i64w (x := (j : Int) + 1) (by omega) (by omega)]
      refine Index_loop H A n m xs hn hl hc t (j + 1) (by omega) fun k x hk hkx => ?_
      by_cases e : k = j
      · subst e; rw [hg] at hkx
        have := Option.some.inj hkx
        omega
      · exact hall k x (by omega) hkx
    · refine ⟨⟨j, rfl, fun h => by omega, fun h => ?_⟩, by trivial⟩
      have := h _ (List.getElem_mem (show j < xs.length by omega))
      omega

theorem Check_ok (A : Option Addr) (n m : Nat) (xs : List Nat) (hn : n = xs.length) (hl : n ≤ 1000000000) (H : Hp) (hc : Cells H A (natV xs)) :
    HCalls Tryd.prog 37 #[.slice A n m] H fun v H' => (∃ i : Int, v = .tuple #[.int .i64 i, .bool (decide (∀ x ∈ xs, x < 18446744069414584321))]) ∧ H' = H := by
  apply W_codec_Check.ok
  unfold W_codec_Check
  have hI : HCalls Tryd.prog 83 #[.slice A n m, .func (.func 84) #[] #[]] H (fun v H' => (∃ i : Int, v = .int .i64 i ∧ (i < 0 ↔ ∀ x ∈ xs, x < 18446744069414584321)) ∧ H' = H) := by
    apply W_slices_IndexFunc_uint64_uint64.ok
    unfold W_slices_IndexFunc_uint64_uint64
    exact ⟨n + 1, Index_loop H A n m xs hn hl hc n 0 (by omega) fun k x hk => absurd hk (by omega)⟩
  refine HCalls.mono hI ?_
  rintro _ _ ⟨⟨i, rfl, hi⟩, rfl⟩
  simp only [DI_int', DB_bool, DS_string, DP_pointer, DSl_slice, DM_map, DA_agg, DTup_tuple, DCons_cons, DNil_nil, NN_some, BIf_true, BIf_false, BIf_same, List.toList_toArray, Bool.not_true, Bool.not_false]
  refine ⟨⟨if 0 > i then 0 else i, ?_⟩, by trivial⟩
  have : decide (i < 0) = decide (∀ x ∈ xs, x < 18446744069414584321) := decide_eq_decide.2 hi
  rw [this]

/-- Is a rule good? -/
def goodR (k : Int) (a b c : Nat) : Bool := decide (1 ≤ k ∧ k ≤ 5 ∧ a < 18446744069414584321 ∧ b < 18446744069414584321 ∧ c < 18446744069414584321 ∧ (k = 5 → b < 4294967296 ∧ c < 4294967296))

theorem goodR_no {k : Int} {a b c : Nat} (h : ¬ (1 ≤ k ∧ k ≤ 5 ∧ a < 18446744069414584321 ∧ b < 18446744069414584321 ∧ c < 18446744069414584321 ∧ (k = 5 → b < 4294967296 ∧ c < 4294967296))) : goodR k a b c = false := by unfold goodR; exact decide_eq_false h
theorem goodR_yes {k : Int} {a b c : Nat} (h : 1 ≤ k ∧ k ≤ 5 ∧ a < 18446744069414584321 ∧ b < 18446744069414584321 ∧ c < 18446744069414584321 ∧ (k = 5 → b < 4294967296 ∧ c < 4294967296)) : goodR k a b c = true := by unfold goodR; exact decide_eq_true h
theorem goodR_of {k : Int} {a b c : Nat} (h : goodR k a b c = true) : 1 ≤ k ∧ k ≤ 5 ∧ a < 18446744069414584321 ∧ b < 18446744069414584321 ∧ c < 18446744069414584321 ∧ (k = 5 → b < 4294967296 ∧ c < 4294967296) := by unfold goodR at h; exact of_decide_eq_true h

theorem good5 {k : Int} {a b c : Nat} (hk : k = 5) (ha : a < 18446744069414584321) (hb : (b : Int) < 4294967296) : goodR k a b c = decide ((c : Int) < 4294967296) := by
  unfold goodR
  exact decide_eq_decide.2 ⟨fun h => by have := (h.2.2.2.2.2 hk).2; omega, fun h => ⟨by omega, by omega, ha, by omega, by omega, fun _ => ⟨by omega, by omega⟩⟩⟩

theorem Good_ok (k : Int) (a b c : Nat) (H : Hp) : HCalls Tryd.prog 91 #[.agg #[.int .i64 k, .int .u64 (a : Int), .int .u64 (b : Int), .int .u64 (c : Int)]] H (RetE (.bool (goodR k a b c)) H) := HCalls.ret (by
  apply W_gen_Good.ok
  unfold W_gen_Good
  refine (Sep.start H).nw fun b1 H1 hs => ?_
  first | refine hs.ldf 1 rfl rfl ?_ | refine hs.ldg 1 rfl rfl ?_
  try simp only [DI_int', DB_bool, DS_string, DP_pointer, DSl_slice, DM_map, DA_agg, DTup_tuple, DCons_cons, DNil_nil, NN_some, BIf_true, BIf_false, BIf_same, List.toList_toArray, Bool.not_true, Bool.not_false]
  by_cases h1 : k < 1
  · refine BIf_dpos h1 ?_
    rw [show goodR k a b c = false from goodR_no (fun h => by omega)]
    exact hs.fin 0 rfl _
  refine BIf_dneg h1 ?_
  first | refine hs.ldf 1 rfl rfl ?_ | refine hs.ldg 1 rfl rfl ?_
  try simp only [DI_int', DB_bool, DS_string, DP_pointer, DSl_slice, DM_map, DA_agg, DTup_tuple, DCons_cons, DNil_nil, NN_some, BIf_true, BIf_false, BIf_same, List.toList_toArray, Bool.not_true, Bool.not_false]
  by_cases h5 : k > 5
  · refine BIf_dpos h5 ?_
    rw [show goodR k a b c = false from goodR_no (fun h => by omega)]
    exact hs.fin 0 rfl _
  refine BIf_dneg h5 ?_
  first | refine hs.ldf 1 rfl rfl ?_ | refine hs.ldg 1 rfl rfl ?_
  try simp only [DI_int', DB_bool, DS_string, DP_pointer, DSl_slice, DM_map, DA_agg, DTup_tuple, DCons_cons, DNil_nil, NN_some, BIf_true, BIf_false, BIf_same, List.toList_toArray, Bool.not_true, Bool.not_false]
  first | refine hs.ldf 1 rfl rfl ?_ | refine hs.ldg 1 rfl rfl ?_
  try simp only [DI_int', DB_bool, DS_string, DP_pointer, DSl_slice, DM_map, DA_agg, DTup_tuple, DCons_cons, DNil_nil, NN_some, BIf_true, BIf_false, BIf_same, List.toList_toArray, Bool.not_true, Bool.not_false]
  first | refine hs.ldf 1 rfl rfl ?_ | refine hs.ldg 1 rfl rfl ?_
  try simp only [DI_int', DB_bool, DS_string, DP_pointer, DSl_slice, DM_map, DA_agg, DTup_tuple, DCons_cons, DNil_nil, NN_some, BIf_true, BIf_false, BIf_same, List.toList_toArray, Bool.not_true, Bool.not_false]
  refine hs.nw fun b2 H1 hs => ?_
  have hc : Cells H1 (some ⟨b2, 0, none⟩) (natV [a, b, c]) := by
    have := Cells.row (hs.get 2 rfl) 0 3
    exact this
  refine HCalls.mono (Check_ok (some ⟨b2, 0, none⟩) 3 3 [a, b, c] rfl (by omega) H1 hc) ?_
  rintro _ _ ⟨⟨i, rfl⟩, rfl⟩
  simp only [DI_int', DB_bool, DS_string, DP_pointer, DSl_slice, DM_map, DA_agg, DTup_tuple, DCons_cons, DNil_nil, NN_some, BIf_true, BIf_false, BIf_same, List.toList_toArray, Bool.not_true, Bool.not_false]
  by_cases hall : ∀ x ∈ [a, b, c], x < 18446744069414584321
  · rw [decide_eq_true hall]
    have ha := hall a (by simp)
    have hb := hall b (by simp)
    have hcc := hall c (by simp)
    refine BIf_pos rfl ?_
    first | refine hs.ldf 1 rfl rfl ?_ | refine hs.ldg 1 rfl rfl ?_
    try simp only [DI_int', DB_bool, DS_string, DP_pointer, DSl_slice, DM_map, DA_agg, DTup_tuple, DCons_cons, DNil_nil, NN_some, BIf_true, BIf_false, BIf_same, List.toList_toArray, Bool.not_true, Bool.not_false]
    by_cases hk : k = 5
    · refine BIf_bnen hk ?_
      first | refine hs.ldf 1 rfl rfl ?_ | refine hs.ldg 1 rfl rfl ?_
      try simp only [DI_int', DB_bool, DS_string, DP_pointer, DSl_slice, DM_map, DA_agg, DTup_tuple, DCons_cons, DNil_nil, NN_some, BIf_true, BIf_false, BIf_same, List.toList_toArray, Bool.not_true, Bool.not_false]
      generalize hz : (b : Int) = z at *
      refine BIf_d (fun hb2 => ?_) (fun hb2 => ?_)
      · first | refine hs.ldf 1 rfl rfl ?_ | refine hs.ldg 1 rfl rfl ?_
        try simp only [DI_int', DB_bool, DS_string, DP_pointer, DSl_slice, DM_map, DA_agg, DTup_tuple, DCons_cons, DNil_nil, NN_some, BIf_true, BIf_false, BIf_same, List.toList_toArray, Bool.not_true, Bool.not_false]
        rw [good5 hk ha (by rw [hz]; exact hb2)]
        exact hs.fin 0 rfl _
      · rw [show goodR k a b c = false from goodR_no (fun h => by have := (h.2.2.2.2.2 hk).1; omega)]
        exact hs.fin 0 rfl _
    · refine BIf_bnep hk ?_
      rw [show goodR k a b c = true from goodR_yes ⟨by omega, by omega, ha, hb, hcc, fun h => absurd h hk⟩]
      exact hs.fin 0 rfl _
  · rw [decide_eq_false hall]
    refine BIf_neg rfl ?_
    rw [show goodR k a b c = false from goodR_no (fun h => hall (fun x hx => by
      simp only [List.mem_cons, List.not_mem_nil, or_false] at hx
      rcases hx with rfl | rfl | rfl
      · exact h.2.2.1
      · exact h.2.2.2.1
      · exact h.2.2.2.2.1))]
    exact hs.fin 0 rfl _)

theorem rGood_ok (k : Int) (a b c : Nat) (H : Hp) : HCalls Tryd.prog 51 #[.agg #[.int .i64 k, .int .u64 (a : Int), .int .u64 (b : Int), .int .u64 (c : Int)]] H (RetE (.bool (goodR k a b c)) H) := HCalls.ret (by
  apply W_abacistref38_Good.ok
  unfold W_abacistref38_Good
  refine (Sep.start H).nw fun b1 H1 hs => ?_
  have no : ∀ {H1}, Sep [own H, pts b1 (.obj (.cells #[.int .i64 k, .int .u64 (a : Int), .int .u64 (b : Int), .int .u64 (c : Int)] 102))] H1 → goodR k a b c = false → Ret (.bool (goodR k a b c)) H (.bool false) H1 := fun hs h => by rw [h]; exact hs.fin 0 rfl _
  first | refine hs.ldf 1 rfl rfl ?_ | refine hs.ldg 1 rfl rfl ?_
  try simp only [DI_int', DB_bool, DS_string, DP_pointer, DSl_slice, DM_map, DA_agg, DTup_tuple, DCons_cons, DNil_nil, NN_some, BIf_true, BIf_false, BIf_same, List.toList_toArray, Bool.not_true, Bool.not_false]
  by_cases ha : (a : Int) ≥ 18446744069414584321
  · exact BIf_dpos ha (no hs (goodR_no (fun h => by omega)))
  refine BIf_dneg ha ?_
  first | refine hs.ldf 1 rfl rfl ?_ | refine hs.ldg 1 rfl rfl ?_
  try simp only [DI_int', DB_bool, DS_string, DP_pointer, DSl_slice, DM_map, DA_agg, DTup_tuple, DCons_cons, DNil_nil, NN_some, BIf_true, BIf_false, BIf_same, List.toList_toArray, Bool.not_true, Bool.not_false]
  by_cases hb : (b : Int) ≥ 18446744069414584321
  · exact BIf_dpos hb (no hs (goodR_no (fun h => by omega)))
  refine BIf_dneg hb ?_
  first | refine hs.ldf 1 rfl rfl ?_ | refine hs.ldg 1 rfl rfl ?_
  try simp only [DI_int', DB_bool, DS_string, DP_pointer, DSl_slice, DM_map, DA_agg, DTup_tuple, DCons_cons, DNil_nil, NN_some, BIf_true, BIf_false, BIf_same, List.toList_toArray, Bool.not_true, Bool.not_false]
  by_cases hc : (c : Int) ≥ 18446744069414584321
  · exact BIf_dpos hc (no hs (goodR_no (fun h => by omega)))
  refine BIf_dneg hc ?_
  first | refine hs.ldf 1 rfl rfl ?_ | refine hs.ldg 1 rfl rfl ?_
  try simp only [DI_int', DB_bool, DS_string, DP_pointer, DSl_slice, DM_map, DA_agg, DTup_tuple, DCons_cons, DNil_nil, NN_some, BIf_true, BIf_false, BIf_same, List.toList_toArray, Bool.not_true, Bool.not_false]
  by_cases hk : k = 5
  · refine BIf_beqp hk ?_
    first | refine hs.ldf 1 rfl rfl ?_ | refine hs.ldg 1 rfl rfl ?_
    try simp only [DI_int', DB_bool, DS_string, DP_pointer, DSl_slice, DM_map, DA_agg, DTup_tuple, DCons_cons, DNil_nil, NN_some, BIf_true, BIf_false, BIf_same, List.toList_toArray, Bool.not_true, Bool.not_false]
    generalize hz : (b : Int) = z at *
    refine BIf_d (fun hb2 => ?_) (fun hb2 => ?_)
    · first | refine hs.ldf 1 rfl rfl ?_ | refine hs.ldg 1 rfl rfl ?_
      try simp only [DI_int', DB_bool, DS_string, DP_pointer, DSl_slice, DM_map, DA_agg, DTup_tuple, DCons_cons, DNil_nil, NN_some, BIf_true, BIf_false, BIf_same, List.toList_toArray, Bool.not_true, Bool.not_false]
      rw [good5 hk (by omega) (by rw [hz]; exact hb2)]
      exact hs.fin 0 rfl _
    · exact (no hs (goodR_no (fun h => by have := (h.2.2.2.2.2 hk).1; omega)))
  · refine BIf_beqn hk ?_
    first | refine hs.ldf 1 rfl rfl ?_ | refine hs.ldg 1 rfl rfl ?_
    try simp only [DI_int', DB_bool, DS_string, DP_pointer, DSl_slice, DM_map, DA_agg, DTup_tuple, DCons_cons, DNil_nil, NN_some, BIf_true, BIf_false, BIf_same, List.toList_toArray, Bool.not_true, Bool.not_false]
    by_cases h1 : k ≥ 1
    · refine BIf_dpos h1 ?_
      first | refine hs.ldf 1 rfl rfl ?_ | refine hs.ldg 1 rfl rfl ?_
      try simp only [DI_int', DB_bool, DS_string, DP_pointer, DSl_slice, DM_map, DA_agg, DTup_tuple, DCons_cons, DNil_nil, NN_some, BIf_true, BIf_false, BIf_same, List.toList_toArray, Bool.not_true, Bool.not_false]
      by_cases h4 : k ≤ 4
      · rw [goodR_yes ⟨by omega, by omega, by omega, by omega, by omega, fun h => absurd h hk⟩, decide_eq_true h4]
        exact hs.fin 0 rfl _
      · rw [goodR_no (fun h => by have := h.2.1; omega), decide_eq_false h4]
        exact hs.fin 0 rfl _
    · exact BIf_dneg h1 (no hs (goodR_no (fun h => by omega))))

end Go.Proofs.YtbnhfcdagoigkaaDoor.Gen

end
section
/-! Wlayout -/
/- Formulas of functions, printed by wip/tools/hwp.py. -/
set_option maxRecDepth 100000
set_option linter.unusedVariables false
namespace Go.Proofs.YtbnhfcdagoigkaaDoor.W
open Go Go.Hw

theorem mixWlayout : Tryd.prog.follows .mixedOrders = true := by kernel_rfl
-- layout.Need
def W_layout_Need (x1 : Int) (x2 : Int) (H : Hp) (K : Value → Hp → Prop) : Prop :=
  HCalls Tryd.prog 127 #[.int .i64 x2] H fun v1 H1 => DI .i64 v1 fun x3 => HCalls Tryd.prog 126 #[.int .i64 x1, .int .i64 x3] H1 fun v2 H2 => DB v2 fun c1 => BIf (!c1) (K (.tuple #[.int .i64 (0 : Int), .int .i64 (1 : Int)]) H2) (HCalls Tryd.prog 127 #[.int .i64 x2] H2 fun v3 H3 => DI .i64 v3 fun x4 => HCalls Tryd.prog 128 #[.int .i64 x1, .int .i64 x4] H3 fun v4 H4 => DI .i64 v4 fun x5 => K (.tuple #[.int .i64 x5, .int .i64 (0 : Int)]) H4)
def W_layout_Need.Λ (_ : Value → Hp → Prop) : Cuts := Cuts.none (fun _ => none)
theorem W_layout_Need.ok (x1 : Int) (x2 : Int) (H : Hp) (K : Value → Hp → Prop) (h : W_layout_Need x1 x2 H K) : HCalls Tryd.prog 93 #[.int .i64 x1, .int .i64 x2] H K :=
  hcalls Tryd.func93 rfl (Nat.le_of_ble_eq_true rfl) (hw_safe (Λ := Cuts.none (fun _ => none)) mixWlayout _ _ _ _ _ (Eq.mp (by kernel_rfl) h) (obs_none _ _ _ _ _))

-- layout.good
def W_layout_good (x1 : Int) (x2 : Int) (H : Hp) (K : Value → Hp → Prop) : Prop :=
  BIf (decide (x1 ≥ (0 : Int))) (BIf (decide (x1 ≤ (32 : Int))) (K (.bool (decide (x2 > (0 : Int)))) H) (K (.bool false) H)) (K (.bool false) H)
def W_layout_good.Λ (_ : Value → Hp → Prop) : Cuts := Cuts.none (fun _ => none)
theorem W_layout_good.ok (x1 : Int) (x2 : Int) (H : Hp) (K : Value → Hp → Prop) (h : W_layout_good x1 x2 H K) : HCalls Tryd.prog 126 #[.int .i64 x1, .int .i64 x2] H K :=
  hcalls Tryd.func126 rfl (Nat.le_of_ble_eq_true rfl) (hw_safe (Λ := Cuts.none (fun _ => none)) mixWlayout _ _ _ _ _ (Eq.mp (by kernel_rfl) h) (obs_none _ _ _ _ _))

-- layout.per
def W_layout_per (x1 : Int) (H : Hp) (K : Value → Hp → Prop) : Prop :=
  BIf (decide (x1 < (32 : Int))) (K (.int .i64 (0 : Int)) H) (BIf (decide (x1 > (4096 : Int))) (K (.int .i64 (0 : Int)) H) (BIf ((bAnd .i64 x1 (IntKind.i64.wrap (x1 - (1 : Int)))) != (0 : Int)) (K (.int .i64 (0 : Int)) H) (((8 : Int) ≠ 0 ∧ IntKind.i64 = IntKind.i64 ∧ K (.int .i64 (IntKind.i64.wrap (Int.tdiv x1 (8 : Int)))) H))))
def W_layout_per.Λ (_ : Value → Hp → Prop) : Cuts := Cuts.none (fun _ => none)
theorem W_layout_per.ok (x1 : Int) (H : Hp) (K : Value → Hp → Prop) (h : W_layout_per x1 H K) : HCalls Tryd.prog 127 #[.int .i64 x1] H K :=
  hcalls Tryd.func127 rfl (Nat.le_of_ble_eq_true rfl) (hw_safe (Λ := Cuts.none (fun _ => none)) mixWlayout _ _ _ _ _ (Eq.mp (by kernel_rfl) h) (obs_none _ _ _ _ _))

-- layout.need
def W_layout_need (x1 : Int) (x2 : Int) (H : Hp) (K : Value → Hp → Prop) : Prop :=
  HCalls Tryd.prog 168 #[.int .i64 x1, .int .i64 x2] H fun v1 H1 => DI .i64 v1 fun x3 => K (.int .i64 (IntKind.i64.wrap ((9 : Int) + (IntKind.i64.wrap ((4 : Int) * x3))))) H1
def W_layout_need.Λ (_ : Value → Hp → Prop) : Cuts := Cuts.none (fun _ => none)
theorem W_layout_need.ok (x1 : Int) (x2 : Int) (H : Hp) (K : Value → Hp → Prop) (h : W_layout_need x1 x2 H K) : HCalls Tryd.prog 128 #[.int .i64 x1, .int .i64 x2] H K :=
  hcalls Tryd.func128 rfl (Nat.le_of_ble_eq_true rfl) (hw_safe (Λ := Cuts.none (fun _ => none)) mixWlayout _ _ _ _ _ (Eq.mp (by kernel_rfl) h) (obs_none _ _ _ _ _))

-- layout.Sector
def W_layout_Sector (x1 : Int) (x2 : Int) (x3 : Int) (x4 : Int) (x5 : Int) (H : Hp) (K : Value → Hp → Prop) : Prop :=
  Nw H (.obj (.cells #[.int .i64 x1, .int .i64 x2, .int .i64 x3] 121)) fun b1 H1 => BIf (decide (x4 < (1 : Int))) (K (.tuple #[.int .i64 (0 : Int), .int .i64 (0 : Int), .int .i64 (2 : Int)]) H1) (BIf (decide (x5 < (0 : Int))) (K (.tuple #[.int .i64 (0 : Int), .int .i64 (0 : Int), .int .i64 (2 : Int)]) H1) (Ld H1 ((⟨b1, 0, none⟩ : Addr).add 2) fun v1 => DI .i64 v1 fun x6 => BIf (decide (x5 ≥ x6)) (K (.tuple #[.int .i64 (0 : Int), .int .i64 (0 : Int), .int .i64 (2 : Int)]) H1) ((x4 ≠ 0 ∧ IntKind.i64 = IntKind.i64 ∧ Ld H1 ((⟨b1, 0, none⟩ : Addr).add 1) fun v2 => DI .i64 v2 fun x7 => BIf (decide ((IntKind.i64.wrap (Int.tdiv x5 x4)) ≥ x7)) (K (.tuple #[.int .i64 (0 : Int), .int .i64 (0 : Int), .int .i64 (2 : Int)]) H1) (Ld H1 ((⟨b1, 0, none⟩ : Addr).add 0) fun v3 => DI .i64 v3 fun x8 => (x4 ≠ 0 ∧ IntKind.i64 = IntKind.i64 ∧ (x4 ≠ 0 ∧ IntKind.i64 = IntKind.i64 ∧ K (.tuple #[.int .i64 (IntKind.i64.wrap (x8 + (IntKind.i64.wrap (Int.tdiv x5 x4)))), .int .i64 (Int.tmod x5 x4), .int .i64 (0 : Int)]) H1)))))))
def W_layout_Sector.Λ (_ : Value → Hp → Prop) : Cuts := Cuts.none (fun _ => none)
theorem W_layout_Sector.ok (x1 : Int) (x2 : Int) (x3 : Int) (x4 : Int) (x5 : Int) (H : Hp) (K : Value → Hp → Prop) (h : W_layout_Sector x1 x2 x3 x4 x5 H K) : HCalls Tryd.prog 138 #[.agg #[.int .i64 x1, .int .i64 x2, .int .i64 x3], .int .i64 x4, .int .i64 x5] H K :=
  hcalls Tryd.func138 rfl (Nat.le_of_ble_eq_true rfl) (hw_safe (Λ := Cuts.none (fun _ => none)) mixWlayout _ _ _ _ _ (Eq.mp (by kernel_rfl) h) (obs_none _ _ _ _ _))

-- layout.room
def W_layout_room (x1 : Int) (x2 : Int) (H : Hp) (K : Value → Hp → Prop) : Prop :=
  (0 ≤ (IntKind.u64.wrap x1) ∧ (x2 ≠ 0 ∧ IntKind.i64 = IntKind.i64 ∧ K (.int .i64 (IntKind.i64.wrap ((IntKind.i64.wrap (Int.tdiv (IntKind.i64.wrap ((shlI .i64 (1 : Int) (IntKind.u64.wrap x1)) - (1 : Int))) x2)) + (1 : Int)))) H))
def W_layout_room.Λ (_ : Value → Hp → Prop) : Cuts := Cuts.none (fun _ => none)
theorem W_layout_room.ok (x1 : Int) (x2 : Int) (H : Hp) (K : Value → Hp → Prop) (h : W_layout_room x1 x2 H K) : HCalls Tryd.prog 168 #[.int .i64 x1, .int .i64 x2] H K :=
  hcalls Tryd.func168 rfl (Nat.le_of_ble_eq_true rfl) (hw_safe (Λ := Cuts.none (fun _ => none)) mixWlayout _ _ _ _ _ (Eq.mp (by kernel_rfl) h) (obs_none _ _ _ _ _))

end Go.Proofs.YtbnhfcdagoigkaaDoor.W

end
section
/-! LayA -/
/- layout, and its law's helpers: what they answer. -/
set_option maxRecDepth 100000
set_option linter.unusedSimpArgs false
set_option linter.unnecessarySimpa false
set_option linter.unusedSectionVars false

set_option linter.unusedVariables false
namespace Go.Proofs.YtbnhfcdagoigkaaDoor.Lay
open Go Go.Hw Go.Proofs.YtbnhfcdagoigkaaDoor.W

def perN (s : Int) : Nat := if s = 32 then 4 else if s = 64 then 8 else if s = 128 then 16 else if s = 256 then 32 else if s = 512 then 64 else if s = 1024 then 128 else if s = 2048 then 256 else if s = 4096 then 512 else 0

theorem bAnd_nat {x y : Nat} (hx : x < 2 ^ 63) (hy : y < 2 ^ 63) : bAnd .i64 (x : Int) (y : Int) = ((x &&& y : Nat) : Int) := by
  have hle : x &&& y ≤ x := Nat.and_le_left
  have h1 : (BitVec.ofInt 64 (x : Int) &&& BitVec.ofInt 64 (y : Int)).toNat = x &&& y := by
    simp only [BitVec.toNat_and, BitVec.ofInt_natCast, BitVec.toNat_ofNat]
    rw [Nat.mod_eq_of_lt (by omega), Nat.mod_eq_of_lt (by omega)]
  unfold bAnd
  rw [show IntKind.i64.bits = 64 from rfl, h1]
  exact i64w (by omega) (by omega)

theorem pow_table : (List.range 4097).all (fun n => if 32 ≤ n then (if n &&& (n - 1) == 0 then perN n != 0 && n / 8 == perN n else perN n == 0) else true) = true := by kernel_rfl

theorem perN_small {s : Int} (h : s < 32) : perN s = 0 := by
  unfold perN
  repeat (rw [if_neg (by omega)])
theorem perN_great {s : Int} (h : 4096 < s) : perN s = 0 := by
  unfold perN
  repeat (rw [if_neg (by omega)])

theorem per_ok (s : Int) (H : Hp) : HCalls Tryd.prog 127 #[.int .i64 s] H (RetE (.int .i64 (perN s)) H) := by
  apply W_layout_per.ok
  unfold W_layout_per
  rw [BIf_decide, BIf_decide, BIf_if]
  by_cases h1 : s < 32
  · rw [if_pos h1, perN_small h1]; exact RetE.mk _ _
  rw [if_neg h1]
  by_cases h2 : s > 4096
  · rw [if_pos h2, perN_great h2]; exact RetE.mk _ _
  rw [if_neg h2]
  obtain ⟨n, rfl⟩ := Int.eq_ofNat_of_zero_le (show 0 ≤ s by omega)
  have ht := List.all_eq_true.1 pow_table n (by simp; omega)
  rw [if_pos (by omega)] at ht
  rw [show ((n : Int) - 1) = ((n - 1 : Nat) : Int) by omega, i64w (by omega) (by omega), bAnd_nat (by omega) (by omega)]
  split at ht
  · rename_i h3
    simp only [Bool.and_eq_true, bne_iff_ne, beq_iff_eq] at ht h3
    rw [h3, if_neg (by simp)]
    refine ⟨by omega, rfl, RetE.of ?_⟩
    rw [show Int.tdiv (n : Int) 8 = ((n / 8 : Nat) : Int) from rfl, ht.2, i64w (by omega) (by have := ht.2; omega)]
  · rename_i h3
    simp only [beq_iff_eq] at ht h3
    rw [if_pos (by simp; omega), ht]
    exact RetE.mk _ _

/-- How many sectors 2^k words need. -/
def roomN (k p : Nat) : Nat := (2 ^ k - 1) / p + 1

theorem roomN_le {k p : Nat} (hk : k ≤ 33) : roomN k p ≤ 8589934592 := by
  unfold roomN
  have h1 : 2 ^ k ≤ 2 ^ 33 := Nat.pow_le_pow_right (by omega) hk
  have h2 : (2 ^ k - 1) / p ≤ 2 ^ k - 1 := Nat.div_le_self _ _
  have h3 : 1 ≤ 2 ^ k := Nat.one_le_two_pow
  omega

theorem pow_i64 {k : Nat} (h : k ≤ 62) : (2 : Nat) ^ k ≤ 4611686018427387904 := Nat.pow_le_pow_right (n := 2) (by omega) h

theorem shl_one {k : Nat} (h : k ≤ 62) : shlI .i64 1 (k : Int) = ((2 ^ k : Nat) : Int) := by
  unfold shlI
  rw [Int.toNat_natCast, show IntKind.i64.bits = 64 from rfl, Nat.min_eq_left (by omega), Int.one_mul]
  have := pow_i64 h
  rw [show ((2 : Int) ^ k) = ((2 ^ k : Nat) : Int) by simp]
  exact i64n (by omega)

theorem room_ok {k p : Nat} (hk : k ≤ 62) (hp : 0 < p) (hp2 : p < 2 ^ 62) (H : Hp) : HCalls Tryd.prog 168 #[.int .i64 k, .int .i64 p] H (RetE (.int .i64 (roomN k p)) H) := by
  apply W_layout_room.ok
  unfold W_layout_room
  have h1 := pow_i64 hk
  have h2 : 1 ≤ 2 ^ k := Nat.one_le_two_pow
  have h3 : (2 ^ k - 1) / p ≤ 2 ^ k - 1 := Nat.div_le_self _ _
  rw [u64w (by omega) (by omega), shl_one hk, i64w (x := ((2 ^ k : Nat) : Int) - 1) (by omega) (by omega)]
  rw [show (((2 ^ k : Nat) : Int) - 1) = ((2 ^ k - 1 : Nat) : Int) by omega, show Int.tdiv ((2 ^ k - 1 : Nat) : Int) (p : Int) = (((2 ^ k - 1) / p : Nat) : Int) from rfl]
  refine ⟨by omega, by omega, rfl, RetE.of ?_⟩
  rw [i64n (by omega), show ((((2 ^ k - 1) / p : Nat) : Int) + 1) = (((2 ^ k - 1) / p + 1 : Nat) : Int) by rfl, i64n (by omega)]
  rfl

theorem good_ok (k : Int) (p : Int) (H : Hp) : HCalls Tryd.prog 126 #[.int .i64 k, .int .i64 p] H (RetE (.bool (decide (0 ≤ k ∧ k ≤ 32 ∧ 0 < p))) H) := by
  apply W_layout_good.ok
  unfold W_layout_good
  rw [BIf_decide, BIf_decide]
  by_cases h1 : k ≥ 0
  · rw [if_pos h1]
    by_cases h2 : k ≤ 32
    · rw [if_pos h2]; refine RetE.of ?_; congr 2; simp; omega
    · rw [if_neg h2]; refine RetE.of ?_; congr 1; simp; omega
  · rw [if_neg h1]; refine RetE.of ?_; congr 1; simp; omega

/-- How many sectors a layout has. -/
def needN (k p : Nat) : Nat := 9 + 4 * roomN k p

theorem need_ok {k p : Nat} (hk : k ≤ 32) (hp : 0 < p) (hp2 : p < 2 ^ 62) (H : Hp) : HCalls Tryd.prog 128 #[.int .i64 k, .int .i64 p] H (RetE (.int .i64 (needN k p)) H) := by
  apply W_layout_need.ok
  unfold W_layout_need
  refine HCalls.use (room_ok (by omega) hp hp2 H) ?_
  try simp only [DI_int', DB_bool, DS_string, DP_pointer, DSl_slice, DM_map, DA_agg, DTup_tuple, DCons_cons, DNil_nil, NN_some, BIf_true, BIf_false, BIf_same, List.toList_toArray, Bool.not_true, Bool.not_false]
  have := roomN_le (k := k) (p := p) (by omega)
  refine RetE.of ?_
  rw [i64w (x := 4 * (roomN k p : Int)) (by omega) (by omega), i64w (by omega) (by omega)]
  unfold needN; simp

theorem perN_le (s : Int) : perN s ≤ 512 := by
  unfold perN
  repeat' split
  all_goals omega

/-- Need's answer. -/
def NeedV (k s : Int) : Int × Int := if 0 ≤ k ∧ k ≤ 32 ∧ 0 < perN s then (needN k.toNat (perN s), 0) else (0, 1)

theorem Need_ok (k s : Int) (H : Hp) : HCalls Tryd.prog 93 #[.int .i64 k, .int .i64 s] H (RetE (.tuple #[.int .i64 (NeedV k s).1, .int .i64 (NeedV k s).2]) H) := by
  apply W_layout_Need.ok
  unfold W_layout_Need
  refine HCalls.use (per_ok s H) ?_
  try simp only [DI_int', DB_bool, DS_string, DP_pointer, DSl_slice, DM_map, DA_agg, DTup_tuple, DCons_cons, DNil_nil, NN_some, BIf_true, BIf_false, BIf_same, List.toList_toArray, Bool.not_true, Bool.not_false]
  refine HCalls.use (good_ok k _ H) ?_
  try simp only [DI_int', DB_bool, DS_string, DP_pointer, DSl_slice, DM_map, DA_agg, DTup_tuple, DCons_cons, DNil_nil, NN_some, BIf_true, BIf_false, BIf_same, List.toList_toArray, Bool.not_true, Bool.not_false]
  unfold NeedV
  have hle := perN_le s
  by_cases h : 0 ≤ k ∧ k ≤ 32 ∧ 0 < perN s
  · rw [if_pos h]
    refine BIf_neg (by simp; omega) ?_
    refine HCalls.use (per_ok s H) ?_
    try simp only [DI_int', DB_bool, DS_string, DP_pointer, DSl_slice, DM_map, DA_agg, DTup_tuple, DCons_cons, DNil_nil, NN_some, BIf_true, BIf_false, BIf_same, List.toList_toArray, Bool.not_true, Bool.not_false]
    obtain ⟨n, rfl⟩ := Int.eq_ofNat_of_zero_le h.1
    refine HCalls.use (need_ok (by omega) h.2.2 (by omega) H) ?_
    try simp only [DI_int', DB_bool, DS_string, DP_pointer, DSl_slice, DM_map, DA_agg, DTup_tuple, DCons_cons, DNil_nil, NN_some, BIf_true, BIf_false, BIf_same, List.toList_toArray, Bool.not_true, Bool.not_false]
    exact RetE.mk _ _
  · rw [if_neg h]
    exact BIf_pos (by simp; omega) (RetE.mk _ _)

/-- The greatest exponent below k that fits. -/
def mostN (sec : Int) (p : Nat) : Nat → Option Nat
  | 0 => none
  | k + 1 => if (needN k p : Int) ≤ sec then some k else mostN sec p k

def MostV (sec s : Int) : Int × Bool := if perN s = 0 then (0, false) else match mostN sec (perN s) 33 with | some k => (k, true) | none => (0, false)

/-! ## The law's own -/

def lroomN (k p : Nat) : Nat := if 2 ^ k ≤ p then 1 else 2 ^ k / p

theorem perN_cases (s : Int) (h : perN s ≠ 0) : ∃ m, 2 ≤ m ∧ m ≤ 9 ∧ perN s = 2 ^ m := by
  unfold perN at h ⊢
  repeat' split
  all_goals first | exact ⟨2, by omega⟩ | exact ⟨3, by omega⟩ | exact ⟨4, by omega⟩ | exact ⟨5, by omega⟩ | exact ⟨6, by omega⟩ | exact ⟨7, by omega⟩ | exact ⟨8, by omega⟩ | exact ⟨9, by omega⟩ | skip
  exfalso
  repeat (rw [if_neg (by assumption)] at h)
  exact h rfl

theorem lroomN_eq {k m : Nat} : lroomN k (2 ^ m) = roomN k (2 ^ m) := by
  unfold lroomN roomN
  have h0 : 1 ≤ 2 ^ k := Nat.one_le_two_pow
  have h1 : 1 ≤ 2 ^ m := Nat.one_le_two_pow
  by_cases h : 2 ^ k ≤ 2 ^ m
  · rw [if_pos h, Nat.div_eq_of_lt (by omega)]
  · rw [if_neg h]
    have hm : m < k := by
      rcases Nat.lt_or_ge m k with h2 | h2
      · exact h2
      · exact absurd (Nat.pow_le_pow_right (by omega) h2) h
    obtain ⟨d, rfl⟩ : ∃ d, k = m + d := ⟨k - m, by omega⟩
    rw [Nat.pow_add, Nat.mul_div_cancel_left _ (by omega)]
    have h2 : 1 ≤ 2 ^ d := Nat.one_le_two_pow
    have : ∀ a b : Nat, 1 ≤ a → 1 ≤ b → (a * b - 1) / a = b - 1 := by
      intro a b ha hb
      have hab := Nat.mul_le_mul ha hb
      have hs : (b - 1) * a = a * b - a := by rw [Nat.sub_mul, Nat.mul_comm b a, Nat.one_mul]
      apply Nat.div_eq_of_lt_le
      · rw [hs]; omega
      · rw [show b - 1 + 1 = b by omega, Nat.mul_comm b a]; omega
    rw [this _ _ h1 h2]
    omega

theorem mostN_none {sec : Int} {p : Nat} : ∀ n, mostN sec p n = none → ∀ k, k < n → sec < needN k p
  | 0, _, k, hk => by omega
  | n + 1, h, k, hk => by
    unfold mostN at h
    split at h
    · cases h
    · rcases Nat.lt_succ_iff_lt_or_eq.1 hk with h1 | rfl
      · exact mostN_none n h k h1
      · omega

theorem mostN_some {sec : Int} {p : Nat} : ∀ n k, mostN sec p n = some k → k < n ∧ (needN k p : Int) ≤ sec ∧ (k + 1 < n → sec < needN (k + 1) p)
  | 0, k, h => by cases h
  | n + 1, k, h => by
    unfold mostN at h
    split at h
    · cases h
      exact ⟨by omega, by assumption, by omega⟩
    · obtain ⟨h1, h2, h3⟩ := mostN_some n k h
      refine ⟨by omega, h2, fun h4 => ?_⟩
      rcases Nat.lt_succ_iff_lt_or_eq.1 h4 with h5 | h5
      · exact h3 h5
      · rw [h5]; omega

end Go.Proofs.YtbnhfcdagoigkaaDoor.Lay

end
section
/-! GenB -/
/- gen: a rule's words, one by one. -/
set_option maxRecDepth 100000
set_option linter.unusedSimpArgs false
set_option linter.unusedVariables false
set_option linter.unnecessarySimpa false
set_option linter.unusedSectionVars false
namespace Go.Proofs.YtbnhfcdagoigkaaDoor.Gen
open Go Go.Hw Go.Proofs.YtbnhfcdagoigkaaDoor.W Go.Proofs.YtbnhfcdagoigkaaDoor.Gol

def geo (b : Nat) : Nat → Nat
  | 0 => 0
  | n + 1 => b * geo b n + 1
theorem geo_pow (b : Nat) : ∀ n, geo b (n + 1) = geo b n + b ^ n
  | 0 => by simp [geo]
  | n + 1 => by
    show b * geo b (n + 1) + 1 = _
    rw [geo_pow b n, Nat.mul_add, Nat.pow_succ, Nat.mul_comm (b ^ n) b]
    have h : geo b n + b ^ n = b * geo b n + 1 := (geo_pow b n).symm
    omega
theorem geo_add (b m : Nat) : ∀ n, geo b (m + n) = geo b m + b ^ m * geo b n
  | 0 => by simp [geo]
  | n + 1 => by
    rw [← Nat.add_assoc, geo_pow, geo_add b m n, geo_pow b n, Nat.mul_add, Nat.pow_add]
    omega

def pulse (b c i : Nat) : Bool := if c = 0 then i == b else i % c == b % c
/-- A rule's word. -/
def val (k : Int) (a b c i : Nat) : Nat :=
  if k = 1 then a else if k = 2 then (a + b * i) % 18446744069414584321 else if k = 3 then a * b ^ i % 18446744069414584321 else if k = 4 then (a * b ^ i + c * geo b i) % 18446744069414584321 else if pulse b c i = true then a else 0
theorem val_lt {k : Int} {a b c i : Nat} (ha : a < 18446744069414584321) : val k a b c i < 18446744069414584321 := by
  have h : ∀ x, x % 18446744069414584321 < 18446744069414584321 := fun x => Nat.mod_lt x (Nat.zero_lt_succ _)
  unfold val
  split
  · exact ha
  split
  · exact h _
  split
  · exact h _
  split
  · exact h _
  split
  · exact ha
  · exact Nat.zero_lt_succ _

theorem mod_mul_add (p x y z w : Nat) : (x * (y % p) % p + z * (w % p) % p) % p = (x * y + z * w) % p := by
  rw [mod_mul_r, mod_mul_r, ← Nat.add_mod]
theorem mod_add_r (p x y : Nat) : (x + y % p) % p = (x + y) % p := by rw [Nat.add_mod, Nat.mod_mod, ← Nat.add_mod]
theorem mod_add_l (p x y : Nat) : (x % p + y) % p = (x + y) % p := by rw [Nat.add_mod, Nat.mod_mod, ← Nat.add_mod]

theorem ladder_loop (H : Hp) {b n : Nat} (hb : b < 2 ^ 64) (hn : n < 2 ^ 41) : ∀ (t : Nat) (x7 : Int), x7 + 1 = t → t ≤ 41 → ∀ m, m = n / 2 ^ t →
      W_gen_ladder.l3 (RetE (.tuple #[.int .u64 ((geo b n % 18446744069414584321 : Nat) : Int), .int .u64 ((b ^ n % 18446744069414584321 : Nat) : Int)]) H) (t + 1) (b : Int) (n : Int) ((geo b m % 18446744069414584321 : Nat) : Int) ((b ^ m % 18446744069414584321 : Nat) : Int) x7 H := fun t => by
  induction t with
  | zero =>
    intro x7 hx ht m hm
    unfold W_gen_ladder.l3
    refine BIf_dneg (by omega) ?_
    rw [Nat.pow_zero, Nat.div_one] at hm
    rw [hm]
    exact RetE.mk _ _
  | succ t ih =>
    intro x7 hx ht m hm
    obtain rfl : x7 = (t : Int) := by omega
    have hpos : ∀ x, x % 18446744069414584321 < 18446744069414584321 := fun x => Nat.mod_lt x (Nat.zero_lt_succ _)
    have q1 := hpos (geo b m)
    have q2 := hpos (b ^ m)
    have hm2 : n / 2 ^ t / 2 = m := by rw [hm, Nat.div_div_eq_div_mul, ← Nat.pow_succ]
    have hle : n / 2 ^ t ≤ n := Nat.div_le_self _ _
    have e1 : (geo b m % 18446744069414584321 + geo b m % 18446744069414584321 * (b ^ m % 18446744069414584321) % 18446744069414584321) % 18446744069414584321 = geo b (2 * m) % 18446744069414584321 := by
      rw [Nat.two_mul, geo_add, mod_mul_l, mod_mul_r, ← Nat.add_mod, Nat.mul_comm]
    have e2 : b ^ m % 18446744069414584321 * (b ^ m % 18446744069414584321) % 18446744069414584321 = b ^ (2 * m) % 18446744069414584321 := by
      rw [mod_mul_l, mod_mul_r, ← Nat.pow_add, Nat.two_mul]
    have e3 : (geo b (2 * m) % 18446744069414584321 + b ^ (2 * m) % 18446744069414584321) % 18446744069414584321 = geo b (2 * m + 1) % 18446744069414584321 := by
      rw [← Nat.add_mod, geo_pow]
    have e4 : b ^ (2 * m) % 18446744069414584321 * b % 18446744069414584321 = b ^ (2 * m + 1) % 18446744069414584321 := by
      rw [mod_mul_l, ← Nat.pow_succ]
    have q3 := hpos (geo b m % 18446744069414584321 * (b ^ m % 18446744069414584321))
    have q4 := hpos (geo b (2 * m))
    have q5 := hpos (b ^ (2 * m))
    unfold W_gen_ladder.l3
    refine BIf_dpos (by omega) ?_
    refine HCalls.use (Mul_ok (a := geo b m % 18446744069414584321) (b := b ^ m % 18446744069414584321) (by omega) (by omega) H) ?_
    simp only [DI_int', DB_bool, DS_string, DP_pointer, DSl_slice, DM_map, DA_agg, DTup_tuple, DCons_cons, DNil_nil, NN_some, BIf_true, BIf_false, BIf_same, List.toList_toArray, Bool.not_true, Bool.not_false]
    refine HCalls.use (Add_ok (a := geo b m % 18446744069414584321) (b := geo b m % 18446744069414584321 * (b ^ m % 18446744069414584321) % 18446744069414584321) (by omega) (by omega) H) ?_
    simp only [DI_int', DB_bool, DS_string, DP_pointer, DSl_slice, DM_map, DA_agg, DTup_tuple, DCons_cons, DNil_nil, NN_some, BIf_true, BIf_false, BIf_same, List.toList_toArray, Bool.not_true, Bool.not_false]
    rw [e1]
    refine HCalls.use (Mul_ok (a := b ^ m % 18446744069414584321) (b := b ^ m % 18446744069414584321) (by omega) (by omega) H) ?_
    simp only [DI_int', DB_bool, DS_string, DP_pointer, DSl_slice, DM_map, DA_agg, DTup_tuple, DCons_cons, DNil_nil, NN_some, BIf_true, BIf_false, BIf_same, List.toList_toArray, Bool.not_true, Bool.not_false]
    rw [e2, u64n (n := t) (by omega)]
    refine ⟨by omega, ?_⟩
    have hsh : shrI .i64 (n : Int) (t : Int) = ((n / 2 ^ t : Nat) : Int) := shrN (k := .i64) (a := n) (i := (t : Int)) (n := t) rfl (by show t ≤ 64; omega)
    have hand : bAnd .i64 ((n / 2 ^ t : Nat) : Int) 1 = ((n / 2 ^ t % 2 : Nat) : Int) := by
      rw [show (1 : Int) = ((1 : Nat) : Int) from rfl, Lay.bAnd_nat (by omega) (by omega), Nat.and_one_is_mod]
    rw [hsh, hand, i64w (x := (t : Int) - 1) (by omega) (by omega)]
    by_cases h1 : n / 2 ^ t % 2 = 1
    · refine BIf_beqp (by omega) ?_
      refine HCalls.use (Add_ok (a := geo b (2 * m) % 18446744069414584321) (b := b ^ (2 * m) % 18446744069414584321) (by omega) (by omega) H) ?_
      simp only [DI_int', DB_bool, DS_string, DP_pointer, DSl_slice, DM_map, DA_agg, DTup_tuple, DCons_cons, DNil_nil, NN_some, BIf_true, BIf_false, BIf_same, List.toList_toArray, Bool.not_true, Bool.not_false]
      refine HCalls.use (Mul_ok (a := b ^ (2 * m) % 18446744069414584321) (b := b) (by omega) hb H) ?_
      simp only [DI_int', DB_bool, DS_string, DP_pointer, DSl_slice, DM_map, DA_agg, DTup_tuple, DCons_cons, DNil_nil, NN_some, BIf_true, BIf_false, BIf_same, List.toList_toArray, Bool.not_true, Bool.not_false]
      rw [e3, e4]
      exact ih ((t : Int) - 1) (by omega) (by omega) (2 * m + 1) (by omega)
    · refine BIf_beqn (by omega) ?_
      exact ih ((t : Int) - 1) (by omega) (by omega) (2 * m) (by omega)

theorem ladder_ok {b n : Nat} (hb : b < 2 ^ 64) (hn : n < 2 ^ 41) (H : Hp) : HCalls Tryd.prog 219 #[.int .u64 (b : Int), .int .i64 (n : Int)] H (RetE (.tuple #[.int .u64 ((geo b n % 18446744069414584321 : Nat) : Int), .int .u64 ((b ^ n % 18446744069414584321 : Nat) : Int)]) H) := by
  apply W_gen_ladder.ok
  unfold W_gen_ladder
  exact ⟨42, ladder_loop H hb hn 41 40 rfl (Nat.le_refl _) 0 (Nat.div_eq_of_lt hn).symm⟩

theorem chain_ok (k : Int) {a b c i : Nat} (ha : a < 2 ^ 64) (hb : b < 2 ^ 64) (hc : c < 2 ^ 64) (hi : i < 2 ^ 41) (H : Hp) : HCalls Tryd.prog 199 #[.agg #[.int .i64 k, .int .u64 (a : Int), .int .u64 (b : Int), .int .u64 (c : Int)], .int .i64 (i : Int)] H (RetE (.int .u64 (((a * b ^ i + c * geo b i) % 18446744069414584321 : Nat) : Int)) H) := HCalls.ret (by
  have hpos : ∀ x, x % 18446744069414584321 < 18446744069414584321 := fun x => Nat.mod_lt x (Nat.zero_lt_succ _)
  have q1 := hpos (geo b i)
  have q2 := hpos (b ^ i)
  have q3 := hpos (a * (b ^ i % 18446744069414584321))
  have q4 := hpos (c * (geo b i % 18446744069414584321))
  apply W_gen_chain.ok
  unfold W_gen_chain
  refine (Sep.start H).nw fun b1 H1 hs => ?_
  first | refine hs.ldf 1 rfl rfl ?_ | refine hs.ldg 1 rfl rfl ?_
  try simp only [DI_int', DB_bool, DS_string, DP_pointer, DSl_slice, DM_map, DA_agg, DTup_tuple, DCons_cons, DNil_nil, NN_some, BIf_true, BIf_false, BIf_same, List.toList_toArray, Bool.not_true, Bool.not_false]
  refine HCalls.use (ladder_ok hb hi H1) ?_
  simp only [DI_int', DB_bool, DS_string, DP_pointer, DSl_slice, DM_map, DA_agg, DTup_tuple, DCons_cons, DNil_nil, NN_some, BIf_true, BIf_false, BIf_same, List.toList_toArray, Bool.not_true, Bool.not_false]
  first | refine hs.ldf 1 rfl rfl ?_ | refine hs.ldg 1 rfl rfl ?_
  try simp only [DI_int', DB_bool, DS_string, DP_pointer, DSl_slice, DM_map, DA_agg, DTup_tuple, DCons_cons, DNil_nil, NN_some, BIf_true, BIf_false, BIf_same, List.toList_toArray, Bool.not_true, Bool.not_false]
  refine QCall.use (Mul_ok (a := a) (b := b ^ i % 18446744069414584321) ha (by omega) H1) ?_
  simp only [DI_int', DB_bool, DS_string, DP_pointer, DSl_slice, DM_map, DA_agg, DTup_tuple, DCons_cons, DNil_nil, NN_some, BIf_true, BIf_false, BIf_same, List.toList_toArray, Bool.not_true, Bool.not_false]
  first | refine hs.ldf 1 rfl rfl ?_ | refine hs.ldg 1 rfl rfl ?_
  try simp only [DI_int', DB_bool, DS_string, DP_pointer, DSl_slice, DM_map, DA_agg, DTup_tuple, DCons_cons, DNil_nil, NN_some, BIf_true, BIf_false, BIf_same, List.toList_toArray, Bool.not_true, Bool.not_false]
  refine QCall.use (Mul_ok (a := c) (b := geo b i % 18446744069414584321) hc (by omega) H1) ?_
  simp only [DI_int', DB_bool, DS_string, DP_pointer, DSl_slice, DM_map, DA_agg, DTup_tuple, DCons_cons, DNil_nil, NN_some, BIf_true, BIf_false, BIf_same, List.toList_toArray, Bool.not_true, Bool.not_false]
  refine QCall.use (Add_ok (a := a * (b ^ i % 18446744069414584321) % 18446744069414584321) (b := c * (geo b i % 18446744069414584321) % 18446744069414584321) (by omega) (by omega) H1) ?_
  simp only [DI_int', DB_bool, DS_string, DP_pointer, DSl_slice, DM_map, DA_agg, DTup_tuple, DCons_cons, DNil_nil, NN_some, BIf_true, BIf_false, BIf_same, List.toList_toArray, Bool.not_true, Bool.not_false]
  rw [mod_mul_add]
  exact hs.fin 0 rfl _)

theorem pulses_ok (k : Int) {a b c i : Nat} (hi : i < 2 ^ 62) (H : Hp) : HCalls Tryd.prog 200 #[.agg #[.int .i64 k, .int .u64 (a : Int), .int .u64 (b : Int), .int .u64 (c : Int)], .int .i64 (i : Int)] H (RetE (.bool (pulse b c i)) H) := HCalls.ret (by
  apply W_gen_pulses.ok
  unfold W_gen_pulses pulse
  refine (Sep.start H).nw fun b1 H1 hs => ?_
  first | refine hs.ldf 1 rfl rfl ?_ | refine hs.ldg 1 rfl rfl ?_
  try simp only [DI_int', DB_bool, DS_string, DP_pointer, DSl_slice, DM_map, DA_agg, DTup_tuple, DCons_cons, DNil_nil, NN_some, BIf_true, BIf_false, BIf_same, List.toList_toArray, Bool.not_true, Bool.not_false]
  rw [u64n (n := i) (by omega)]
  by_cases h : c = 0
  · rw [if_pos h]
    refine BIf_beqp (by omega) ?_
    first | refine hs.ldf 1 rfl rfl ?_ | refine hs.ldg 1 rfl rfl ?_
    try simp only [DI_int', DB_bool, DS_string, DP_pointer, DSl_slice, DM_map, DA_agg, DTup_tuple, DCons_cons, DNil_nil, NN_some, BIf_true, BIf_false, BIf_same, List.toList_toArray, Bool.not_true, Bool.not_false]
    have : ((i : Int) == (b : Int)) = (i == b) := by
      by_cases e : i = b
      · simp [e]
      · rw [beq_eq_false_iff_ne.2 (show (i : Int) ≠ b by omega), beq_eq_false_iff_ne.2 e]
    rw [this]
    exact hs.fin 0 rfl _
  · rw [if_neg h]
    refine BIf_beqn (by omega) ?_
    first | refine hs.ldf 1 rfl rfl ?_ | refine hs.ldg 1 rfl rfl ?_
    try simp only [DI_int', DB_bool, DS_string, DP_pointer, DSl_slice, DM_map, DA_agg, DTup_tuple, DCons_cons, DNil_nil, NN_some, BIf_true, BIf_false, BIf_same, List.toList_toArray, Bool.not_true, Bool.not_false]
    refine ⟨by omega, by simp, ?_⟩
    first | refine hs.ldf 1 rfl rfl ?_ | refine hs.ldg 1 rfl rfl ?_
    try simp only [DI_int', DB_bool, DS_string, DP_pointer, DSl_slice, DM_map, DA_agg, DTup_tuple, DCons_cons, DNil_nil, NN_some, BIf_true, BIf_false, BIf_same, List.toList_toArray, Bool.not_true, Bool.not_false]
    first | refine hs.ldf 1 rfl rfl ?_ | refine hs.ldg 1 rfl rfl ?_
    try simp only [DI_int', DB_bool, DS_string, DP_pointer, DSl_slice, DM_map, DA_agg, DTup_tuple, DCons_cons, DNil_nil, NN_some, BIf_true, BIf_false, BIf_same, List.toList_toArray, Bool.not_true, Bool.not_false]
    refine ⟨by omega, by simp, ?_⟩
    have : (Int.tmod (i : Int) (c : Int) == Int.tmod (b : Int) (c : Int)) = (i % c == b % c) := by
      rw [show Int.tmod (i : Int) (c : Int) = ((i % c : Nat) : Int) from rfl, show Int.tmod (b : Int) (c : Int) = ((b % c : Nat) : Int) from rfl]
      generalize i % c = x
      generalize b % c = y
      by_cases e : x = y
      · simp [e]
      · rw [beq_eq_false_iff_ne.2 (show (x : Int) ≠ y by omega), beq_eq_false_iff_ne.2 e]
    rw [this]
    exact hs.fin 0 rfl _)

theorem at_ok {k : Int} {a b c i : Nat} (hg : goodR k a b c = true) (hi : i < 2 ^ 41) (H : Hp) : HCalls Tryd.prog 165 #[.agg #[.int .i64 k, .int .u64 (a : Int), .int .u64 (b : Int), .int .u64 (c : Int)], .int .i64 (i : Int)] H (RetE (.int .u64 ((val k a b c i : Nat) : Int)) H) := HCalls.ret (by
  obtain ⟨h1, h5, ha, hb, hc, _⟩ := goodR_of hg
  have hpos : ∀ x, x % 18446744069414584321 < 18446744069414584321 := fun x => Nat.mod_lt x (Nat.zero_lt_succ _)
  apply W_gen_at.ok
  unfold W_gen_at val
  refine (Sep.start H).nw fun b1 H1 hs => ?_
  first | refine hs.ldf 1 rfl rfl ?_ | refine hs.ldg 1 rfl rfl ?_
  try simp only [DI_int', DB_bool, DS_string, DP_pointer, DSl_slice, DM_map, DA_agg, DTup_tuple, DCons_cons, DNil_nil, NN_some, BIf_true, BIf_false, BIf_same, List.toList_toArray, Bool.not_true, Bool.not_false]
  rw [u64n (n := i) (by omega)]
  by_cases k1 : k = 1
  · rw [if_pos k1]
    refine BIf_beqp k1 ?_
    first | refine hs.ldf 1 rfl rfl ?_ | refine hs.ldg 1 rfl rfl ?_
    try simp only [DI_int', DB_bool, DS_string, DP_pointer, DSl_slice, DM_map, DA_agg, DTup_tuple, DCons_cons, DNil_nil, NN_some, BIf_true, BIf_false, BIf_same, List.toList_toArray, Bool.not_true, Bool.not_false]
    exact hs.fin 0 rfl _
  rw [if_neg k1]
  refine BIf_beqn k1 ?_
  by_cases k2 : k = 2
  · rw [if_pos k2]
    refine BIf_beqp k2 ?_
    first | refine hs.ldf 1 rfl rfl ?_ | refine hs.ldg 1 rfl rfl ?_
    try simp only [DI_int', DB_bool, DS_string, DP_pointer, DSl_slice, DM_map, DA_agg, DTup_tuple, DCons_cons, DNil_nil, NN_some, BIf_true, BIf_false, BIf_same, List.toList_toArray, Bool.not_true, Bool.not_false]
    first | refine hs.ldf 1 rfl rfl ?_ | refine hs.ldg 1 rfl rfl ?_
    try simp only [DI_int', DB_bool, DS_string, DP_pointer, DSl_slice, DM_map, DA_agg, DTup_tuple, DCons_cons, DNil_nil, NN_some, BIf_true, BIf_false, BIf_same, List.toList_toArray, Bool.not_true, Bool.not_false]
    have q := hpos (b * i)
    refine QCall.use (Mul_ok (a := b) (b := i) (by omega) (by omega) H1) ?_
    simp only [DI_int', DB_bool, DS_string, DP_pointer, DSl_slice, DM_map, DA_agg, DTup_tuple, DCons_cons, DNil_nil, NN_some, BIf_true, BIf_false, BIf_same, List.toList_toArray, Bool.not_true, Bool.not_false]
    refine QCall.use (Add_ok (a := a) (b := b * i % 18446744069414584321) (by omega) (by omega) H1) ?_
    simp only [DI_int', DB_bool, DS_string, DP_pointer, DSl_slice, DM_map, DA_agg, DTup_tuple, DCons_cons, DNil_nil, NN_some, BIf_true, BIf_false, BIf_same, List.toList_toArray, Bool.not_true, Bool.not_false]
    rw [mod_add_r]
    exact hs.fin 0 rfl _
  rw [if_neg k2]
  refine BIf_beqn k2 ?_
  by_cases k3 : k = 3
  · rw [if_pos k3]
    refine BIf_beqp k3 ?_
    first | refine hs.ldf 1 rfl rfl ?_ | refine hs.ldg 1 rfl rfl ?_
    try simp only [DI_int', DB_bool, DS_string, DP_pointer, DSl_slice, DM_map, DA_agg, DTup_tuple, DCons_cons, DNil_nil, NN_some, BIf_true, BIf_false, BIf_same, List.toList_toArray, Bool.not_true, Bool.not_false]
    first | refine hs.ldf 1 rfl rfl ?_ | refine hs.ldg 1 rfl rfl ?_
    try simp only [DI_int', DB_bool, DS_string, DP_pointer, DSl_slice, DM_map, DA_agg, DTup_tuple, DCons_cons, DNil_nil, NN_some, BIf_true, BIf_false, BIf_same, List.toList_toArray, Bool.not_true, Bool.not_false]
    have q := hpos (b ^ i)
    refine QCall.use (Pow_ok (a := b) (n := i) (by omega) (by omega) H1) ?_
    simp only [DI_int', DB_bool, DS_string, DP_pointer, DSl_slice, DM_map, DA_agg, DTup_tuple, DCons_cons, DNil_nil, NN_some, BIf_true, BIf_false, BIf_same, List.toList_toArray, Bool.not_true, Bool.not_false]
    refine QCall.use (Mul_ok (a := a) (b := b ^ i % 18446744069414584321) (by omega) (by omega) H1) ?_
    simp only [DI_int', DB_bool, DS_string, DP_pointer, DSl_slice, DM_map, DA_agg, DTup_tuple, DCons_cons, DNil_nil, NN_some, BIf_true, BIf_false, BIf_same, List.toList_toArray, Bool.not_true, Bool.not_false]
    rw [mod_mul_r]
    exact hs.fin 0 rfl _
  rw [if_neg k3]
  refine BIf_beqn k3 ?_
  by_cases k4 : k = 4
  · rw [if_pos k4]
    refine BIf_beqp k4 ?_
    refine hs.ldw 1 rfl rfl ?_
    refine HCalls.use (chain_ok k (a := a) (b := b) (c := c) (i := i) (by omega) (by omega) (by omega) hi H1) ?_
    simp only [DI_int', DB_bool, DS_string, DP_pointer, DSl_slice, DM_map, DA_agg, DTup_tuple, DCons_cons, DNil_nil, NN_some, BIf_true, BIf_false, BIf_same, List.toList_toArray, Bool.not_true, Bool.not_false]
    exact hs.fin 0 rfl _
  rw [if_neg k4]
  refine BIf_beqn k4 ?_
  refine hs.ldw 1 rfl rfl ?_
  refine HCalls.use (pulses_ok k (a := a) (b := b) (c := c) (i := i) (by omega) H1) ?_
  simp only [DI_int', DB_bool, DS_string, DP_pointer, DSl_slice, DM_map, DA_agg, DTup_tuple, DCons_cons, DNil_nil, NN_some, BIf_true, BIf_false, BIf_same, List.toList_toArray, Bool.not_true, Bool.not_false]
  cases hp : pulse b c i with
  | true =>
    refine BIf_pos rfl ?_
    first | refine hs.ldf 1 rfl rfl ?_ | refine hs.ldg 1 rfl rfl ?_
    try simp only [DI_int', DB_bool, DS_string, DP_pointer, DSl_slice, DM_map, DA_agg, DTup_tuple, DCons_cons, DNil_nil, NN_some, BIf_true, BIf_false, BIf_same, List.toList_toArray, Bool.not_true, Bool.not_false]
    exact hs.fin 0 rfl _
  | false => exact BIf_neg rfl (hs.fin 0 rfl _))

theorem next_ok {k : Int} {a b c i : Nat} (hg : goodR k a b c = true) (hi : i + 1 < 2 ^ 41) (H : Hp) : HCalls Tryd.prog 166 #[.agg #[.int .i64 k, .int .u64 (a : Int), .int .u64 (b : Int), .int .u64 (c : Int)], .int .u64 ((val k a b c i : Nat) : Int), .int .i64 ((i + 1 : Nat) : Int)] H (RetE (.int .u64 ((val k a b c (i + 1) : Nat) : Int)) H) := HCalls.ret (by
  obtain ⟨h1, h5, ha, hb, hc, _⟩ := goodR_of hg
  have hpos : ∀ x, x % 18446744069414584321 < 18446744069414584321 := fun x => Nat.mod_lt x (Nat.zero_lt_succ _)
  have hv := val_lt (k := k) (b := b) (c := c) (i := i) ha
  apply W_gen_next.ok
  unfold W_gen_next
  refine (Sep.start H).nw fun b1 H1 hs => ?_
  first | refine hs.ldf 1 rfl rfl ?_ | refine hs.ldg 1 rfl rfl ?_
  try simp only [DI_int', DB_bool, DS_string, DP_pointer, DSl_slice, DM_map, DA_agg, DTup_tuple, DCons_cons, DNil_nil, NN_some, BIf_true, BIf_false, BIf_same, List.toList_toArray, Bool.not_true, Bool.not_false]
  by_cases k2 : k = 2
  · refine BIf_beqp k2 ?_
    first | refine hs.ldf 1 rfl rfl ?_ | refine hs.ldg 1 rfl rfl ?_
    try simp only [DI_int', DB_bool, DS_string, DP_pointer, DSl_slice, DM_map, DA_agg, DTup_tuple, DCons_cons, DNil_nil, NN_some, BIf_true, BIf_false, BIf_same, List.toList_toArray, Bool.not_true, Bool.not_false]
    refine HCalls.use (Add_ok (a := val k a b c i) (b := b) (by omega) (by omega) H1) ?_
    simp only [DI_int', DB_bool, DS_string, DP_pointer, DSl_slice, DM_map, DA_agg, DTup_tuple, DCons_cons, DNil_nil, NN_some, BIf_true, BIf_false, BIf_same, List.toList_toArray, Bool.not_true, Bool.not_false]
    have e : (val k a b c i + b) % 18446744069414584321 = val k a b c (i + 1) := by
      unfold val
      rw [if_neg (by omega), if_pos k2, if_neg (by omega), if_pos k2, mod_add_l, Nat.mul_succ, Nat.add_assoc]
    rw [e]
    exact hs.fin 0 rfl _
  refine BIf_beqn k2 ?_
  by_cases k3 : k = 3
  · refine BIf_beqp k3 ?_
    first | refine hs.ldf 1 rfl rfl ?_ | refine hs.ldg 1 rfl rfl ?_
    try simp only [DI_int', DB_bool, DS_string, DP_pointer, DSl_slice, DM_map, DA_agg, DTup_tuple, DCons_cons, DNil_nil, NN_some, BIf_true, BIf_false, BIf_same, List.toList_toArray, Bool.not_true, Bool.not_false]
    refine HCalls.use (Mul_ok (a := val k a b c i) (b := b) (by omega) (by omega) H1) ?_
    simp only [DI_int', DB_bool, DS_string, DP_pointer, DSl_slice, DM_map, DA_agg, DTup_tuple, DCons_cons, DNil_nil, NN_some, BIf_true, BIf_false, BIf_same, List.toList_toArray, Bool.not_true, Bool.not_false]
    have e : (val k a b c i * b) % 18446744069414584321 = val k a b c (i + 1) := by
      unfold val
      rw [if_neg (by omega), if_neg k2, if_pos k3, if_neg (by omega), if_neg k2, if_pos k3, mod_mul_l, Nat.mul_assoc, ← Nat.pow_succ]
    rw [e]
    exact hs.fin 0 rfl _
  refine BIf_beqn k3 ?_
  by_cases k4 : k = 4
  · refine BIf_beqp k4 ?_
    first | refine hs.ldf 1 rfl rfl ?_ | refine hs.ldg 1 rfl rfl ?_
    try simp only [DI_int', DB_bool, DS_string, DP_pointer, DSl_slice, DM_map, DA_agg, DTup_tuple, DCons_cons, DNil_nil, NN_some, BIf_true, BIf_false, BIf_same, List.toList_toArray, Bool.not_true, Bool.not_false]
    have q := hpos (val k a b c i * b)
    refine QCall.use (Mul_ok (a := val k a b c i) (b := b) (by omega) (by omega) H1) ?_
    simp only [DI_int', DB_bool, DS_string, DP_pointer, DSl_slice, DM_map, DA_agg, DTup_tuple, DCons_cons, DNil_nil, NN_some, BIf_true, BIf_false, BIf_same, List.toList_toArray, Bool.not_true, Bool.not_false]
    first | refine hs.ldf 1 rfl rfl ?_ | refine hs.ldg 1 rfl rfl ?_
    try simp only [DI_int', DB_bool, DS_string, DP_pointer, DSl_slice, DM_map, DA_agg, DTup_tuple, DCons_cons, DNil_nil, NN_some, BIf_true, BIf_false, BIf_same, List.toList_toArray, Bool.not_true, Bool.not_false]
    refine QCall.use (Add_ok (a := val k a b c i * b % 18446744069414584321) (b := c) (by omega) (by omega) H1) ?_
    simp only [DI_int', DB_bool, DS_string, DP_pointer, DSl_slice, DM_map, DA_agg, DTup_tuple, DCons_cons, DNil_nil, NN_some, BIf_true, BIf_false, BIf_same, List.toList_toArray, Bool.not_true, Bool.not_false]
    have e : (val k a b c i * b % 18446744069414584321 + c) % 18446744069414584321 = val k a b c (i + 1) := by
      unfold val
      rw [if_neg (by omega), if_neg k2, if_neg k3, if_pos k4, if_neg (by omega), if_neg k2, if_neg k3, if_pos k4, mod_mul_l, mod_add_l, Nat.add_mul, Nat.mul_assoc, ← Nat.pow_succ, Nat.mul_assoc c]
      show _ = (a * b ^ (i + 1) + c * (b * geo b i + 1)) % 18446744069414584321
      rw [Nat.mul_add, Nat.mul_comm (geo b i), Nat.mul_one, Nat.add_assoc]
    rw [e]
    exact hs.fin 0 rfl _
  refine BIf_beqn k4 ?_
  refine hs.ldw 1 rfl rfl ?_
  refine HCalls.use (at_ok hg (i := i + 1) hi H1) ?_
  simp only [DI_int', DB_bool, DS_string, DP_pointer, DSl_slice, DM_map, DA_agg, DTup_tuple, DCons_cons, DNil_nil, NN_some, BIf_true, BIf_false, BIf_same, List.toList_toArray, Bool.not_true, Bool.not_false]
  exact hs.fin 0 rfl _)

end Go.Proofs.YtbnhfcdagoigkaaDoor.Gen

end
section
/-! GenC -/
/- gen: rows of words. -/
set_option maxRecDepth 100000
set_option linter.unusedSimpArgs false
set_option linter.unusedVariables false
set_option linter.unnecessarySimpa false
set_option linter.unusedSectionVars false
namespace Go.Proofs.YtbnhfcdagoigkaaDoor.Gen
open Go Go.Hw Go.Proofs.YtbnhfcdagoigkaaDoor.W Go.Proofs.YtbnhfcdagoigkaaDoor.Gol

theorem cell_u64 : cellInfo Tryd.prog 22 = some (1, 8, some #[.int .u64 0]) := by kernel_rfl

def ruleO (k : Int) (a b c : Nat) : AO := .obj (.cells #[.int .i64 k, .int .u64 (a : Int), .int .u64 (b : Int), .int .u64 (c : Int)] 102)
def vals (k : Int) (a b c i n : Nat) : List Nat := (List.range n).map fun j => val k a b c (i + j)
theorem vals_len (k : Int) (a b c i n : Nat) : (vals k a b c i n).length = n := by simp [vals]
theorem vals_get {k : Int} {a b c i n j : Nat} (h : j < n) : (vals k a b c i n)[j]? = some (val k a b c (i + j)) := by
  unfold vals
  rw [List.getElem?_map, List.getElem?_range h]; rfl
theorem natV_get (xs : List Nat) (i : Nat) : (natV xs)[i]? = xs[i]?.map fun (x : Nat) => Value.int .u64 (x : Int) := by unfold natV; rw [List.getElem?_map]
theorem natV_length (xs : List Nat) : (natV xs).length = xs.length := by unfold natV; rw [List.length_map]
theorem natV_set (xs : List Nat) (i x : Nat) : (natV xs).set i (.int .u64 (x : Int)) = natV (xs.set i x) := by unfold natV; rw [List.map_set]

/-- What a part answers that can't be. -/
def partE (k : Int) (a b c : Nat) (x : Int) : Int := if goodR k a b c = true then (if x < 0 ∨ x ≥ 4294967296 then 2 else 14) else 18
theorem Part_no (k : Int) (a b c : Nat) (x n : Int) (hx : -9223372036854775808 ≤ x ∧ x ≤ 9223372036854775807) (H : Hp) (h : ¬ (goodR k a b c = true ∧ 0 ≤ x ∧ x < 4294967296 ∧ 0 ≤ n ∧ n ≤ 1048576 ∧ n ≤ 4294967296 - x)) :
    HCalls Tryd.prog 124 #[.agg #[.int .i64 k, .int .u64 (a : Int), .int .u64 (b : Int), .int .u64 (c : Int)], .int .i64 x, .int .i64 n] H (RetE (.tuple #[.slice none 0 0, .int .i64 (partE k a b c x)]) H) := HCalls.ret (by
  apply W_gen_Part.ok
  unfold W_gen_Part partE
  refine (Sep.start H).nw fun b1 H1 hs => ?_
  refine hs.ldw 1 rfl rfl ?_
  refine HCalls.use (Good_ok k a b c H1) ?_
  simp only [DI_int', DB_bool, DS_string, DP_pointer, DSl_slice, DM_map, DA_agg, DTup_tuple, DCons_cons, DNil_nil, NN_some, BIf_true, BIf_false, BIf_same, List.toList_toArray, Bool.not_true, Bool.not_false]
  cases hg : goodR k a b c with
  | false => exact BIf_pos rfl (hs.fin 0 rfl _)
  | true =>
    refine BIf_neg rfl ?_
    rw [if_pos rfl]
    by_cases h0 : x < 0
    · rw [if_pos (.inl h0)]
      exact BIf_dpos h0 (hs.fin 0 rfl _)
    refine BIf_dneg h0 ?_
    by_cases h1 : x ≥ 4294967296
    · rw [if_pos (.inr h1)]
      exact BIf_dpos h1 (hs.fin 0 rfl _)
    refine BIf_dneg h1 ?_
    rw [if_neg (fun e => e.elim h0 h1)]
    by_cases n0 : n < 0
    · exact BIf_dpos n0 (hs.fin 0 rfl _)
    refine BIf_dneg n0 ?_
    by_cases n1 : n > 1048576
    · exact BIf_dpos n1 (hs.fin 0 rfl _)
    refine BIf_dneg n1 ?_
    rw [i64w (x := 4294967296 - x) (by omega) (by omega)]
    exact BIf_dpos (by
      have : ¬ (n ≤ 4294967296 - x) := fun h2 => h ⟨hg, by omega, by omega, by omega, by omega, h2⟩
      omega) (hs.fin 0 rfl _))

theorem part_loop (K : Value → Hp → Prop) {k : Int} {a b c i n : Nat} (hg : goodR k a b c = true) (hi : i < 4294967296) (hn : n ≤ 1048576) {b1 m : Nat} {A : Option Addr}
    (hK : ∀ H, Sep [pts b1 (ruleO k a b c), Own 22 1 A n m (natV (vals k a b c i n))] H → K (.tuple #[.slice A n m, .int .i64 0]) H) :
    ∀ (t j : Nat) (xs : List Nat) (H : Hp), j + t = n → xs.length = n → (∀ j', j' < j → xs[j']? = some (val k a b c (i + j'))) → Sep [pts b1 (ruleO k a b c), Own 22 1 A n m (natV xs)] H →
      W_gen_Part.l10 K (t + 1) (i : Int) ⟨b1, 0, none⟩ A n m ((val k a b c (i + j) : Nat) : Int) (n : Int) (j : Int) H
  | 0, j, xs, H, hj, hl, hx, hs => by
    unfold W_gen_Part.l10
    refine BIf_dneg (by omega) (hK H ?_)
    have : xs = vals k a b c i n := by
      apply List.ext_getElem?
      intro j'
      by_cases h : j' < n
      · rw [hx j' (by omega), vals_get h]
      · rw [List.getElem?_eq_none (by omega), List.getElem?_eq_none (by rw [vals_len]; omega)]
    rw [← this]
    exact hs
  | t + 1, j, xs, H, hj, hl, hx, hs => by
    unfold W_gen_Part.l10
    refine BIf_dpos (by omega) ?_
    refine hs.wr1 1 rfl rfl (by omega) rfl fun H hs => ?_
    rw [natV_set] at hs
    have hs : Sep [pts b1 (ruleO k a b c), Own 22 1 A n m (natV (xs.set j (val k a b c (i + j))))] H := hs
    refine hs.ldw 0 rfl rfl ?_
    rw [← Int.natCast_add, i64n (n := i + j) (by omega), i64w (x := ((i + j : Nat) : Int) + 1) (by omega) (by omega), show ((i + j : Nat) : Int) + 1 = ((i + j + 1 : Nat) : Int) by omega]
    refine HCalls.use (next_ok hg (i := i + j) (by omega) H) ?_
    simp only [DI_int', DB_bool, DS_string, DP_pointer, DSl_slice, DM_map, DA_agg, DTup_tuple, DCons_cons, DNil_nil, NN_some, BIf_true, BIf_false, BIf_same, List.toList_toArray, Bool.not_true, Bool.not_false]
    rw [i64w (x := (j : Int) + 1) (by omega) (by omega), show (j : Int) + 1 = ((j + 1 : Nat) : Int) by omega, Nat.add_assoc]
    refine part_loop K hg hi hn hK t (j + 1) (xs.set j (val k a b c (i + j))) H (by omega) (by rw [List.length_set]; exact hl) (fun j' hj' => ?_) hs
    by_cases e : j' = j
    · subst e; rw [List.getElem?_set_self (by omega)]
    · rw [List.getElem?_set_ne (by omega)]; exact hx j' (by omega)

/-- A part of a rule's words. -/
theorem Part_tr {k : Int} {a b c i n : Nat} (hg : goodR k a b c = true) (hi : i < 4294967296) (hn : n ≤ 1048576) (hin : i + n ≤ 4294967296) :
    Tr Tryd.prog 124 #[.agg #[.int .i64 k, .int .u64 (a : Int), .int .u64 (b : Int), .int .u64 (c : Int)], .int .i64 (i : Int), .int .i64 (n : Int)] [] fun v M =>
      ∃ bo mm, v = .tuple #[.slice (some ⟨bo, 0, none⟩) n n, .int .i64 0] ∧ M = [pts bo (.row (natV (vals k a b c i n)) 22 mm)] := fun H hs => by
  apply W_gen_Part.ok
  unfold W_gen_Part
  refine hs.nw fun b1 H hs => ?_
  refine hs.ldw 0 rfl rfl ?_
  refine HCalls.use (Good_ok k a b c H) ?_
  rw [hg]
  simp only [DI_int', DB_bool, DS_string, DP_pointer, DSl_slice, DM_map, DA_agg, DTup_tuple, DCons_cons, DNil_nil, NN_some, BIf_true, BIf_false, BIf_same, List.toList_toArray, Bool.not_true, Bool.not_false]
  refine BIf_dneg (by omega) (BIf_dneg (by omega) (BIf_dneg (by omega) (BIf_dneg (by omega) ?_)))
  rw [i64w (x := 4294967296 - (i : Int)) (by omega) (by omega)]
  refine BIf_dneg (by omega) ?_
  refine hs.mks cell_u64 rfl (n := n) (m := n) rfl rfl (Nat.le_refl _) (by omega) (by omega) fun bo H hs => ?_
  simp only [DI_int', DB_bool, DS_string, DP_pointer, DSl_slice, DM_map, DA_agg, DTup_tuple, DCons_cons, DNil_nil, NN_some, BIf_true, BIf_false, BIf_same, List.toList_toArray, Bool.not_true, Bool.not_false]
  refine hs.ldw 0 rfl rfl ?_
  refine HCalls.use (at_ok hg (i := i) (by omega) H) ?_
  simp only [DI_int', DB_bool, DS_string, DP_pointer, DSl_slice, DM_map, DA_agg, DTup_tuple, DCons_cons, DNil_nil, NN_some, BIf_true, BIf_false, BIf_same, List.toList_toArray, Bool.not_true, Bool.not_false]
  have hz : zeroRow [Value.int .u64 0] n = natV (List.replicate n 0) := by
    rw [zeroRow_one]
    unfold natV
    rw [List.map_replicate]; rfl
  have hs : Sep [pts b1 (ruleO k a b c), pts bo (.row (natV (List.replicate n 0)) 22 (n * 1))] H := by rw [← hz]; exact hs
  have hs := hs.turn 1 rfl (B := Own 22 1 (some ⟨bo, 0, none⟩) n n (natV (List.replicate n 0))) (fun H1 h => ⟨by rw [natV_length, List.length_replicate, Nat.mul_one], .inr ⟨bo, n * 1, rfl, h, Nat.le_refl _⟩⟩)
  refine ⟨n + 1, ?_⟩
  refine part_loop _ hg hi hn (fun H hs => ?_) n 0 (List.replicate n 0) H (by omega) (by simp) (fun j' h => absurd h (by omega)) hs
  rcases hs.unown 1 rfl with ⟨h, _⟩ | ⟨b', mm, e, hmm, _, hs⟩
  · exact absurd h (by simp)
  · obtain rfl : b' = bo := by simpa using e.symm
    exact ⟨_, ⟨b', mm, rfl, rfl⟩, hs.re [1] rfl⟩

theorem Row_tr {k : Int} {a b c n : Nat} (hg : goodR k a b c = true) (hn : n ≤ 1048576) :
    Tr Tryd.prog 90 #[.agg #[.int .i64 k, .int .u64 (a : Int), .int .u64 (b : Int), .int .u64 (c : Int)], .int .i64 (n : Int)] [] fun v M =>
      ∃ bo mm, v = .tuple #[.slice (some ⟨bo, 0, none⟩) n n, .int .i64 0] ∧ M = [pts bo (.row (natV (vals k a b c 0 n)) 22 mm)] := fun H hs => by
  apply W_gen_Row.ok
  unfold W_gen_Row
  refine hs.nw fun b1 H hs => ?_
  refine hs.ldw 0 rfl rfl ?_
  refine (Part_tr (k := k) (a := a) (b := b) (c := c) (i := 0) (n := n) hg (by omega) hn (by omega)).use hs [] rfl rfl ?_
  rintro _ _ H ⟨bo, mm, rfl, rfl⟩ hs
  simp only [DI_int', DB_bool, DS_string, DP_pointer, DSl_slice, DM_map, DA_agg, DTup_tuple, DCons_cons, DNil_nil, NN_some, BIf_true, BIf_false, BIf_same, List.toList_toArray, Bool.not_true, Bool.not_false]
  exact ⟨_, ⟨bo, mm, rfl, rfl⟩, hs.re [0] rfl⟩

end Go.Proofs.YtbnhfcdagoigkaaDoor.Gen

end
section
/-! Wabacistref04 -/
/- Formulas of functions, printed by wip/tools/hwp.py. -/
set_option maxRecDepth 100000
set_option linter.unusedVariables false
namespace Go.Proofs.YtbnhfcdagoigkaaDoor.W
open Go Go.Hw

theorem mixWabacistref04 : Tryd.prog.follows .mixedOrders = true := by kernel_rfl
-- abacistref04.Same
def W_abacistref04_Same.l4 (K : Value → Hp → Prop) : Nat → Option Addr → Nat → Nat → Option Addr → Nat → Nat → Int → Hp → Prop
  | 0, _, _, _, _, _, _, _, _ => False
  | k + 1, A3, n3, m3, A4, n4, m4, x1, H =>
    let R4 := W_abacistref04_Same.l4 K k
    BIf (decide (x1 < ((n3 : Nat) : Int))) (ixI x1 n3 (NN A3 fun a1 => Ld H (a1.add (x1.toNat * 1)) fun v1 => DI .u64 v1 fun x2 => ixI x1 n4 (NN A4 fun a2 => Ld H (a2.add (x1.toNat * 1)) fun v2 => DI .u64 v2 fun x3 => BIf (x2 != x3) (K (.bool false) H) (R4 A3 n3 m3 A4 n4 m4 (IntKind.i64.wrap (x1 + (1 : Int))) H)))) (K (.bool true) H)
def W_abacistref04_Same (A1 : Option Addr) (n1 : Nat) (m1 : Nat) (A2 : Option Addr) (n2 : Nat) (m2 : Nat) (H : Hp) (K : Value → Hp → Prop) : Prop :=
  BIf (((n1 : Nat) : Int) != ((n2 : Nat) : Int)) (K (.bool false) H) ((∃ k, W_abacistref04_Same.l4 K k A1 n1 m1 A2 n2 m2 (0 : Int) H))
def W_abacistref04_Same.l4.L (K : Value → Hp → Prop) (k : Nat) : Mid := fun E D H =>
  DG (E.get? 0) fun w0 => DSl w0 fun A3 n3 m3 => DG (E.get? 1) fun w1 => DSl w1 fun A4 n4 m4 => DG (E.get? 5) fun w5 => DI .i64 w5 fun x1 => DNilD D (W_abacistref04_Same.l4 K k A3 n3 m3 A4 n4 m4 x1 H)
def W_abacistref04_Same.Λ4 (_ : Value → Hp → Prop) (_R4 : Option Addr → Nat → Nat → Option Addr → Nat → Nat → Int → Hp → Prop) : Cuts := Cuts.none (fun _ => none)
def W_abacistref04_Same.Λ (K : Value → Hp → Prop) : Cuts := ⟨fun i => none, fun i => match Nat.beq i 4 with | true => some (fun E D H => ∃ k, W_abacistref04_Same.l4.L K k E D H) | false => none, (fun _ => none)⟩
theorem W_abacistref04_Same.ok (A1 : Option Addr) (n1 : Nat) (m1 : Nat) (A2 : Option Addr) (n2 : Nat) (m2 : Nat) (H : Hp) (K : Value → Hp → Prop) (h : W_abacistref04_Same A1 n1 m1 A2 n2 m2 H K) : HCalls Tryd.prog 27 #[.slice A1 n1 m1, .slice A2 n2 m2] H K :=
  hcalls Tryd.func27 rfl (Nat.le_of_ble_eq_true rfl) (hw_safe (Λ := (W_abacistref04_Same.Λ K)) mixWabacistref04 _ _ _ _ _ (Eq.mp (by kernel_rfl) h) (obs_seq obs_region rfl (obs_seq (obs_seq obs_region rfl (obs_cond (obs_seq obs_region rfl obs_ret) obs_skip)) rfl (obs_seq (obs_seq obs_region rfl (obs_block (obs_loop rfl (fun E D H h => by
      refine Safe.loop' (W_abacistref04_Same.l4.L K) (fun E D H h => ?_) (fun k E D H h => ?_) E D H h
      · obtain ⟨w0, e0, g1⟩ := DG.out h; obtain ⟨A3, n3, m3, rfl, g2⟩ := DSl.out g1; obtain ⟨w1, e1, g3⟩ := DG.out g2; obtain ⟨A4, n4, m4, rfl, g4⟩ := DSl.out g3; obtain ⟨w5, e5, g5⟩ := DG.out g4; obtain ⟨x1, rfl, g6⟩ := DI.out g5; obtain ⟨rfl, h'⟩ := DNilD.out g6; exact h'
      · obtain ⟨w0, e0, g1⟩ := DG.out h
        obtain ⟨A3, n3, m3, rfl, g2⟩ := DSl.out g1
        obtain ⟨w1, e1, g3⟩ := DG.out g2
        obtain ⟨A4, n4, m4, rfl, g4⟩ := DSl.out g3
        obtain ⟨w5, e5, g5⟩ := DG.out g4
        obtain ⟨x1, rfl, g6⟩ := DI.out g5
        obtain ⟨rfl, h'⟩ := DNilD.out g6
        exact (hw_safe (Λ := (W_abacistref04_Same.Λ4 K (W_abacistref04_Same.l4 K k))) mixWabacistref04 _ _ [(0, .slice A3 n3 m3), (1, .slice A4 n4 m4), (5, .int .i64 x1)] [] H (Eq.mp (by kernel_rfl) h') (obs_seq (obs_seq obs_region rfl (obs_cond obs_skip obs_exit)) rfl (obs_seq (obs_block (obs_seq obs_region rfl (obs_cond (obs_seq obs_region rfl obs_ret) obs_skip))) rfl obs_region))).weaken (EnvLe.cons e0 (EnvLe.cons e1 (EnvLe.cons e5 (EnvLe.nil _)))) (Hp.le_refl _))))) rfl (obs_seq obs_region rfl obs_ret)))))

-- abacistref04.Read
def W_abacistref04_Read.j9 (K : Value → Hp → Prop) (R6 : ByteArray → Option Addr → Nat → Nat → Int → Int → Hp → Prop) (s3 : ByteArray) (A2 : Option Addr) (n2 : Nat) (m2 : Nat) (x4 : Int) (x5 : Int) (H : Hp) : Prop :=
  slB s3.size s3.size (some x4) (some x5) fun n3 n4 => HCalls Tryd.prog 81 #[.string (s3.extract n3 n4)] H fun v1 H1 => DTup v1 fun l1 => DCons l1 fun v2 l2 => DI .u64 v2 fun x6 => DCons l2 fun v3 l3 => DI .i64 v3 fun x7 => DNil l3 (BIf (x7 != (0 : Int)) (K (.tuple #[.slice none 0 0, .int .i64 x4, .int .i64 x7]) H1) (Nw H1 (.row [.int .u64 x6] 22 1) fun b1 H2 => AppK Tryd.prog 22 (.slice A2 n2 m2) (.slice (some ⟨b1, 0, none⟩) 1 1) H2 fun v4 H3 => DSl v4 fun A3 n5 m3 => R6 s3 A3 n5 m3 (IntKind.i64.wrap (x5 + (1 : Int))) (IntKind.i64.wrap (x5 + (1 : Int))) H3))
def W_abacistref04_Read.l6 (K : Value → Hp → Prop) : Nat → ByteArray → Option Addr → Nat → Nat → Int → Int → Hp → Prop
  | 0, _, _, _, _, _, _, _ => False
  | k + 1, s2, A1, n1, m1, x1, x2, H =>
    let R6 := W_abacistref04_Read.l6 K k
    BIf (decide (x2 ≤ ((s2.size : Nat) : Int))) (BIf (decide (x2 < ((s2.size : Nat) : Int))) ((0 ≤ x2 ∧ ixB s2 x2.toNat fun x3 => BIf (x3 != (32 : Int)) (R6 s2 A1 n1 m1 x1 (IntKind.i64.wrap (x2 + (1 : Int))) H) (W_abacistref04_Read.j9 K R6 s2 A1 n1 m1 x1 x2 H))) (W_abacistref04_Read.j9 K R6 s2 A1 n1 m1 x1 x2 H)) (K (.tuple #[.slice A1 n1 m1, .int .i64 (0 : Int), .int .i64 (0 : Int)]) H)
def W_abacistref04_Read (s1 : ByteArray) (H : Hp) (K : Value → Hp → Prop) : Prop :=
  BIf (s1.toList == ((⟨#[]⟩) : ByteArray).toList) (K (.tuple #[.slice none 0 0, .int .i64 (0 : Int), .int .i64 (0 : Int)]) H) ((∃ k, W_abacistref04_Read.l6 K k s1 none 0 0 (0 : Int) (0 : Int) H))
def W_abacistref04_Read.l6.L (K : Value → Hp → Prop) (k : Nat) : Mid := fun E D H =>
  DG (E.get? 0) fun w0 => DS w0 fun s2 => DG (E.get? 5) fun w5 => DSl w5 fun A1 n1 m1 => DG (E.get? 6) fun w6 => DI .i64 w6 fun x1 => DG (E.get? 7) fun w7 => DI .i64 w7 fun x2 => DNilD D (W_abacistref04_Read.l6 K k s2 A1 n1 m1 x1 x2 H)
def W_abacistref04_Read.Λ6 (K : Value → Hp → Prop) (R6 : ByteArray → Option Addr → Nat → Nat → Int → Int → Hp → Prop) : Cuts := ⟨fun i => match Nat.beq i 9 with | true => some (fun E D H => DG (E.get? 0) fun w0 => DS w0 fun s3 => DG (E.get? 5) fun w5 => DSl w5 fun A2 n2 m2 => DG (E.get? 6) fun w6 => DI .i64 w6 fun x4 => DG (E.get? 7) fun w7 => DI .i64 w7 fun x5 => DNilD D (W_abacistref04_Read.j9 K R6 s3 A2 n2 m2 x4 x5 H)) | false => none, fun i => none, (fun _ => none)⟩
def W_abacistref04_Read.Λ (K : Value → Hp → Prop) : Cuts := ⟨fun i => none, fun i => match Nat.beq i 6 with | true => some (fun E D H => ∃ k, W_abacistref04_Read.l6.L K k E D H) | false => none, (fun _ => none)⟩
theorem W_abacistref04_Read.ok (s1 : ByteArray) (H : Hp) (K : Value → Hp → Prop) (h : W_abacistref04_Read s1 H K) : HCalls Tryd.prog 35 #[.string s1] H K :=
  hcalls Tryd.func35 rfl (Nat.le_of_ble_eq_true rfl) (hw_safe (Λ := (W_abacistref04_Read.Λ K)) mixWabacistref04 _ _ _ _ _ (Eq.mp (by kernel_rfl) h) (obs_seq obs_region rfl (obs_seq obs_region rfl (obs_seq (obs_seq obs_region rfl (obs_cond (obs_seq obs_region rfl obs_ret) obs_skip)) rfl (obs_seq obs_region rfl (obs_seq (obs_seq obs_region rfl (obs_block (obs_loop rfl (fun E D H h => by
      refine Safe.loop' (W_abacistref04_Read.l6.L K) (fun E D H h => ?_) (fun k E D H h => ?_) E D H h
      · obtain ⟨w0, e0, g1⟩ := DG.out h; obtain ⟨s2, rfl, g2⟩ := DS.out g1; obtain ⟨w5, e5, g3⟩ := DG.out g2; obtain ⟨A1, n1, m1, rfl, g4⟩ := DSl.out g3; obtain ⟨w6, e6, g5⟩ := DG.out g4; obtain ⟨x1, rfl, g6⟩ := DI.out g5; obtain ⟨w7, e7, g7⟩ := DG.out g6; obtain ⟨x2, rfl, g8⟩ := DI.out g7; obtain ⟨rfl, h'⟩ := DNilD.out g8; exact h'
      · obtain ⟨w0, e0, g1⟩ := DG.out h
        obtain ⟨s2, rfl, g2⟩ := DS.out g1
        obtain ⟨w5, e5, g3⟩ := DG.out g2
        obtain ⟨A1, n1, m1, rfl, g4⟩ := DSl.out g3
        obtain ⟨w6, e6, g5⟩ := DG.out g4
        obtain ⟨x1, rfl, g6⟩ := DI.out g5
        obtain ⟨w7, e7, g7⟩ := DG.out g6
        obtain ⟨x2, rfl, g8⟩ := DI.out g7
        obtain ⟨rfl, h'⟩ := DNilD.out g8
        exact (hw_safe (Λ := (W_abacistref04_Read.Λ6 K (W_abacistref04_Read.l6 K k))) mixWabacistref04 _ _ [(0, .string s2), (5, .slice A1 n1 m1), (6, .int .i64 x1), (7, .int .i64 x2)] [] H (Eq.mp (by kernel_rfl) h') (obs_seq (obs_seq obs_region rfl (obs_cond obs_skip obs_exit)) rfl (obs_seq (obs_block (obs_seqc (obs_seq obs_region rfl (obs_cond obs_exit obs_skip)) rfl (fun E D H h => by
            obtain ⟨w0, e0, g1⟩ := DG.out h
            obtain ⟨s3, rfl, g2⟩ := DS.out g1
            obtain ⟨w5, e5, g3⟩ := DG.out g2
            obtain ⟨A2, n2, m2, rfl, g4⟩ := DSl.out g3
            obtain ⟨w6, e6, g5⟩ := DG.out g4
            obtain ⟨x4, rfl, g6⟩ := DI.out g5
            obtain ⟨w7, e7, g7⟩ := DG.out g6
            obtain ⟨x5, rfl, g8⟩ := DI.out g7
            obtain ⟨rfl, h'⟩ := DNilD.out g8
            exact (hw_safe (Λ := (W_abacistref04_Read.Λ6 K (W_abacistref04_Read.l6 K k))) mixWabacistref04 _ _ [(0, .string s3), (5, .slice A2 n2 m2), (6, .int .i64 x4), (7, .int .i64 x5)] [] H (Eq.mp (by kernel_rfl) h') (obs_seq obs_region rfl (obs_seq (obs_seq obs_region rfl (obs_cond (obs_seq obs_region rfl obs_ret) obs_skip)) rfl (obs_seq obs_region rfl obs_region)))).weaken (EnvLe.cons e0 (EnvLe.cons e5 (EnvLe.cons e6 (EnvLe.cons e7 (EnvLe.nil _))))) (Hp.le_refl _)))) rfl obs_region))).weaken (EnvLe.cons e0 (EnvLe.cons e5 (EnvLe.cons e6 (EnvLe.cons e7 (EnvLe.nil _))))) (Hp.le_refl _))))) rfl (obs_seq obs_region rfl obs_ret)))))))

-- abacistref04.Text
def W_abacistref04_Text.l3 (K : Value → Hp → Prop) : Nat → Option Addr → Nat → Nat → ByteArray → Int → Hp → Prop
  | 0, _, _, _, _, _, _ => False
  | k + 1, A2, n2, m2, s1, x1, H =>
    let R3 := W_abacistref04_Text.l3 K k
    BIf (decide (x1 < ((n2 : Nat) : Int))) (BIf (decide (x1 > (0 : Int))) ((s1.size + ((⟨#[32]⟩) : ByteArray).size ≤ 4611686018427387904 ∧ ixI x1 n2 (NN A2 fun a1 => Ld H (a1.add (x1.toNat * 1)) fun v1 => DI .u64 v1 fun x2 => HCalls Tryd.prog 82 #[.int .u64 x2] H fun v3 H1 => DS v3 fun s2 => ((s1 ++ (⟨#[32]⟩)).size + s2.size ≤ 4611686018427387904 ∧ R3 A2 n2 m2 ((s1 ++ (⟨#[32]⟩)) ++ s2) (IntKind.i64.wrap (x1 + (1 : Int))) H1)))) (ixI x1 n2 (NN A2 fun a2 => Ld H (a2.add (x1.toNat * 1)) fun v2 => DI .u64 v2 fun x3 => HCalls Tryd.prog 82 #[.int .u64 x3] H fun v4 H2 => DS v4 fun s3 => (s1.size + s3.size ≤ 4611686018427387904 ∧ R3 A2 n2 m2 (s1 ++ s3) (IntKind.i64.wrap (x1 + (1 : Int))) H2)))) (K (.string s1) H)
def W_abacistref04_Text (A1 : Option Addr) (n1 : Nat) (m1 : Nat) (H : Hp) (K : Value → Hp → Prop) : Prop :=
  (∃ k, W_abacistref04_Text.l3 K k A1 n1 m1 (⟨#[]⟩) (0 : Int) H)
def W_abacistref04_Text.l3.L (K : Value → Hp → Prop) (k : Nat) : Mid := fun E D H =>
  DG (E.get? 0) fun w0 => DSl w0 fun A2 n2 m2 => DG (E.get? 3) fun w3 => DS w3 fun s1 => DG (E.get? 4) fun w4 => DI .i64 w4 fun x1 => DNilD D (W_abacistref04_Text.l3 K k A2 n2 m2 s1 x1 H)
def W_abacistref04_Text.Λ3 (_ : Value → Hp → Prop) (_R3 : Option Addr → Nat → Nat → ByteArray → Int → Hp → Prop) : Cuts := Cuts.none (fun _ => none)
def W_abacistref04_Text.Λ (K : Value → Hp → Prop) : Cuts := ⟨fun i => none, fun i => match Nat.beq i 3 with | true => some (fun E D H => ∃ k, W_abacistref04_Text.l3.L K k E D H) | false => none, (fun _ => none)⟩
theorem W_abacistref04_Text.ok (A1 : Option Addr) (n1 : Nat) (m1 : Nat) (H : Hp) (K : Value → Hp → Prop) (h : W_abacistref04_Text A1 n1 m1 H K) : HCalls Tryd.prog 36 #[.slice A1 n1 m1] H K :=
  hcalls Tryd.func36 rfl (Nat.le_of_ble_eq_true rfl) (hw_safe (Λ := (W_abacistref04_Text.Λ K)) mixWabacistref04 _ _ _ _ _ (Eq.mp (by kernel_rfl) h) (obs_seq obs_region rfl (obs_seq obs_region rfl (obs_seq (obs_seq obs_region rfl (obs_block (obs_loop rfl (fun E D H h => by
      refine Safe.loop' (W_abacistref04_Text.l3.L K) (fun E D H h => ?_) (fun k E D H h => ?_) E D H h
      · obtain ⟨w0, e0, g1⟩ := DG.out h; obtain ⟨A2, n2, m2, rfl, g2⟩ := DSl.out g1; obtain ⟨w3, e3, g3⟩ := DG.out g2; obtain ⟨s1, rfl, g4⟩ := DS.out g3; obtain ⟨w4, e4, g5⟩ := DG.out g4; obtain ⟨x1, rfl, g6⟩ := DI.out g5; obtain ⟨rfl, h'⟩ := DNilD.out g6; exact h'
      · obtain ⟨w0, e0, g1⟩ := DG.out h
        obtain ⟨A2, n2, m2, rfl, g2⟩ := DSl.out g1
        obtain ⟨w3, e3, g3⟩ := DG.out g2
        obtain ⟨s1, rfl, g4⟩ := DS.out g3
        obtain ⟨w4, e4, g5⟩ := DG.out g4
        obtain ⟨x1, rfl, g6⟩ := DI.out g5
        obtain ⟨rfl, h'⟩ := DNilD.out g6
        exact (hw_safe (Λ := (W_abacistref04_Text.Λ3 K (W_abacistref04_Text.l3 K k))) mixWabacistref04 _ _ [(0, .slice A2 n2 m2), (3, .string s1), (4, .int .i64 x1)] [] H (Eq.mp (by kernel_rfl) h') (obs_seq (obs_seq obs_region rfl (obs_cond obs_skip obs_exit)) rfl (obs_seq (obs_block (obs_seq (obs_seq obs_region rfl (obs_cond obs_region obs_skip)) rfl obs_region)) rfl obs_region))).weaken (EnvLe.cons e0 (EnvLe.cons e3 (EnvLe.cons e4 (EnvLe.nil _)))) (Hp.le_refl _))))) rfl (obs_seq obs_region rfl obs_ret)))))

-- abacistref04.Word
def W_abacistref04_Word.l3 (K : Value → Hp → Prop) : Nat → ByteArray → Int → Int → Int → Hp → Prop
  | 0, _, _, _, _, _ => False
  | k + 1, s2, x2, x3, x4, H =>
    let R3 := W_abacistref04_Word.l3 K k
    BIf (decide (x4 ≥ (0 : Int))) ((0 ≤ (IntKind.i64.wrap (x2 + x4)) ∧ ixB s2 (IntKind.i64.wrap (x2 + x4)).toNat fun x5 => R3 s2 x2 (IntKind.u64.wrap ((IntKind.u64.wrap ((256 : Int) * x3)) + (IntKind.u64.wrap x5))) (IntKind.i64.wrap (x4 - (1 : Int))) H)) (K (.int .u64 x3) H)
def W_abacistref04_Word (s1 : ByteArray) (x1 : Int) (H : Hp) (K : Value → Hp → Prop) : Prop :=
  (∃ k, W_abacistref04_Word.l3 K k s1 x1 (0 : Int) (7 : Int) H)
def W_abacistref04_Word.l3.L (K : Value → Hp → Prop) (k : Nat) : Mid := fun E D H =>
  DG (E.get? 0) fun w0 => DS w0 fun s2 => DG (E.get? 1) fun w1 => DI .i64 w1 fun x2 => DG (E.get? 5) fun w5 => DI .u64 w5 fun x3 => DG (E.get? 6) fun w6 => DI .i64 w6 fun x4 => DNilD D (W_abacistref04_Word.l3 K k s2 x2 x3 x4 H)
def W_abacistref04_Word.Λ3 (_ : Value → Hp → Prop) (_R3 : ByteArray → Int → Int → Int → Hp → Prop) : Cuts := Cuts.none (fun _ => none)
def W_abacistref04_Word.Λ (K : Value → Hp → Prop) : Cuts := ⟨fun i => none, fun i => match Nat.beq i 3 with | true => some (fun E D H => ∃ k, W_abacistref04_Word.l3.L K k E D H) | false => none, (fun _ => none)⟩
theorem W_abacistref04_Word.ok (s1 : ByteArray) (x1 : Int) (H : Hp) (K : Value → Hp → Prop) (h : W_abacistref04_Word s1 x1 H K) : HCalls Tryd.prog 43 #[.string s1, .int .i64 x1] H K :=
  hcalls Tryd.func43 rfl (Nat.le_of_ble_eq_true rfl) (hw_safe (Λ := (W_abacistref04_Word.Λ K)) mixWabacistref04 _ _ _ _ _ (Eq.mp (by kernel_rfl) h) (obs_seq obs_region rfl (obs_seq obs_region rfl (obs_seq (obs_seq obs_region rfl (obs_block (obs_loop rfl (fun E D H h => by
      refine Safe.loop' (W_abacistref04_Word.l3.L K) (fun E D H h => ?_) (fun k E D H h => ?_) E D H h
      · obtain ⟨w0, e0, g1⟩ := DG.out h; obtain ⟨s2, rfl, g2⟩ := DS.out g1; obtain ⟨w1, e1, g3⟩ := DG.out g2; obtain ⟨x2, rfl, g4⟩ := DI.out g3; obtain ⟨w5, e5, g5⟩ := DG.out g4; obtain ⟨x3, rfl, g6⟩ := DI.out g5; obtain ⟨w6, e6, g7⟩ := DG.out g6; obtain ⟨x4, rfl, g8⟩ := DI.out g7; obtain ⟨rfl, h'⟩ := DNilD.out g8; exact h'
      · obtain ⟨w0, e0, g1⟩ := DG.out h
        obtain ⟨s2, rfl, g2⟩ := DS.out g1
        obtain ⟨w1, e1, g3⟩ := DG.out g2
        obtain ⟨x2, rfl, g4⟩ := DI.out g3
        obtain ⟨w5, e5, g5⟩ := DG.out g4
        obtain ⟨x3, rfl, g6⟩ := DI.out g5
        obtain ⟨w6, e6, g7⟩ := DG.out g6
        obtain ⟨x4, rfl, g8⟩ := DI.out g7
        obtain ⟨rfl, h'⟩ := DNilD.out g8
        exact (hw_safe (Λ := (W_abacistref04_Word.Λ3 K (W_abacistref04_Word.l3 K k))) mixWabacistref04 _ _ [(0, .string s2), (1, .int .i64 x2), (5, .int .u64 x3), (6, .int .i64 x4)] [] H (Eq.mp (by kernel_rfl) h') (obs_seq (obs_seq obs_region rfl (obs_cond obs_skip obs_exit)) rfl (obs_seq (obs_block obs_region) rfl obs_region))).weaken (EnvLe.cons e0 (EnvLe.cons e1 (EnvLe.cons e5 (EnvLe.cons e6 (EnvLe.nil _))))) (Hp.le_refl _))))) rfl (obs_seq obs_region rfl obs_ret)))))

-- abacistref04.Put
def W_abacistref04_Put.l7 (K : Value → Hp → Prop) (R3 : Option Addr → Nat → Nat → ByteArray → Int → Hp → Prop) : Nat → Option Addr → Nat → Nat → ByteArray → Int → Int → Int → Hp → Prop
  | 0, _, _, _, _, _, _, _, _ => False
  | k + 1, A3, n3, m3, s2, x3, x4, x5, H =>
    let R7 := W_abacistref04_Put.l7 K R3 k
    BIf (decide (x5 < (8 : Int))) (((256 : Int) ≠ 0 ∧ IntKind.u64 = IntKind.u64 ∧ Nw H (.row [.int .u8 (IntKind.u8.wrap (Int.tmod x4 (256 : Int)))] 5 1) fun b1 H1 => BsK H1 (some ⟨b1, 0, none⟩) 1 fun s3 => (s2.size + s3.size ≤ 4611686018427387904 ∧ ((256 : Int) ≠ 0 ∧ IntKind.u64 = IntKind.u64 ∧ R7 A3 n3 m3 (s2 ++ s3) x3 (IntKind.u64.wrap (Int.tdiv x4 (256 : Int))) (IntKind.i64.wrap (x5 + (1 : Int))) H1)))) (R3 A3 n3 m3 s2 (IntKind.i64.wrap (x3 + (1 : Int))) H)
def W_abacistref04_Put.l3 (K : Value → Hp → Prop) : Nat → Option Addr → Nat → Nat → ByteArray → Int → Hp → Prop
  | 0, _, _, _, _, _, _ => False
  | k + 1, A2, n2, m2, s1, x1, H =>
    let R3 := W_abacistref04_Put.l3 K k
    BIf (decide (x1 < ((n2 : Nat) : Int))) (ixI x1 n2 (NN A2 fun a1 => Ld H (a1.add (x1.toNat * 1)) fun v1 => DI .u64 v1 fun x2 => (∃ k, W_abacistref04_Put.l7 K R3 k A2 n2 m2 s1 x1 x2 (0 : Int) H))) (K (.string s1) H)
def W_abacistref04_Put (A1 : Option Addr) (n1 : Nat) (m1 : Nat) (H : Hp) (K : Value → Hp → Prop) : Prop :=
  (∃ k, W_abacistref04_Put.l3 K k A1 n1 m1 (⟨#[]⟩) (0 : Int) H)
def W_abacistref04_Put.l3.L (K : Value → Hp → Prop) (k : Nat) : Mid := fun E D H =>
  DG (E.get? 0) fun w0 => DSl w0 fun A2 n2 m2 => DG (E.get? 3) fun w3 => DS w3 fun s1 => DG (E.get? 4) fun w4 => DI .i64 w4 fun x1 => DNilD D (W_abacistref04_Put.l3 K k A2 n2 m2 s1 x1 H)
def W_abacistref04_Put.l7.L (K : Value → Hp → Prop) (R3 : Option Addr → Nat → Nat → ByteArray → Int → Hp → Prop) (k : Nat) : Mid := fun E D H =>
  DG (E.get? 0) fun w0 => DSl w0 fun A3 n3 m3 => DG (E.get? 3) fun w3 => DS w3 fun s2 => DG (E.get? 4) fun w4 => DI .i64 w4 fun x3 => DG (E.get? 5) fun w5 => DI .u64 w5 fun x4 => DG (E.get? 6) fun w6 => DI .i64 w6 fun x5 => DNilD D (W_abacistref04_Put.l7 K R3 k A3 n3 m3 s2 x3 x4 x5 H)
def W_abacistref04_Put.Λ7 (_ : Value → Hp → Prop) (_R3 : Option Addr → Nat → Nat → ByteArray → Int → Hp → Prop) (_R7 : Option Addr → Nat → Nat → ByteArray → Int → Int → Int → Hp → Prop) : Cuts := Cuts.none (fun _ => none)
def W_abacistref04_Put.Λ3 (K : Value → Hp → Prop) (R3 : Option Addr → Nat → Nat → ByteArray → Int → Hp → Prop) : Cuts := ⟨fun i => none, fun i => match Nat.beq i 7 with | true => some (fun E D H => ∃ k, W_abacistref04_Put.l7.L K R3 k E D H) | false => none, (fun _ => none)⟩
def W_abacistref04_Put.Λ (K : Value → Hp → Prop) : Cuts := ⟨fun i => none, fun i => match Nat.beq i 3 with | true => some (fun E D H => ∃ k, W_abacistref04_Put.l3.L K k E D H) | false => none, (fun _ => none)⟩
theorem W_abacistref04_Put.ok (A1 : Option Addr) (n1 : Nat) (m1 : Nat) (H : Hp) (K : Value → Hp → Prop) (h : W_abacistref04_Put A1 n1 m1 H K) : HCalls Tryd.prog 44 #[.slice A1 n1 m1] H K :=
  hcalls Tryd.func44 rfl (Nat.le_of_ble_eq_true rfl) (hw_safe (Λ := (W_abacistref04_Put.Λ K)) mixWabacistref04 _ _ _ _ _ (Eq.mp (by kernel_rfl) h) (obs_seq obs_region rfl (obs_seq obs_region rfl (obs_seq (obs_seq obs_region rfl (obs_block (obs_loop rfl (fun E D H h => by
      refine Safe.loop' (W_abacistref04_Put.l3.L K) (fun E D H h => ?_) (fun k E D H h => ?_) E D H h
      · obtain ⟨w0, e0, g1⟩ := DG.out h; obtain ⟨A2, n2, m2, rfl, g2⟩ := DSl.out g1; obtain ⟨w3, e3, g3⟩ := DG.out g2; obtain ⟨s1, rfl, g4⟩ := DS.out g3; obtain ⟨w4, e4, g5⟩ := DG.out g4; obtain ⟨x1, rfl, g6⟩ := DI.out g5; obtain ⟨rfl, h'⟩ := DNilD.out g6; exact h'
      · obtain ⟨w0, e0, g1⟩ := DG.out h
        obtain ⟨A2, n2, m2, rfl, g2⟩ := DSl.out g1
        obtain ⟨w3, e3, g3⟩ := DG.out g2
        obtain ⟨s1, rfl, g4⟩ := DS.out g3
        obtain ⟨w4, e4, g5⟩ := DG.out g4
        obtain ⟨x1, rfl, g6⟩ := DI.out g5
        obtain ⟨rfl, h'⟩ := DNilD.out g6
        exact (hw_safe (Λ := (W_abacistref04_Put.Λ3 K (W_abacistref04_Put.l3 K k))) mixWabacistref04 _ _ [(0, .slice A2 n2 m2), (3, .string s1), (4, .int .i64 x1)] [] H (Eq.mp (by kernel_rfl) h') (obs_seq (obs_seq obs_region rfl (obs_cond obs_skip obs_exit)) rfl (obs_seq (obs_block (obs_seq obs_region rfl (obs_seq obs_region rfl (obs_block (obs_loop rfl (fun E D H h => by
            refine Safe.loop' (W_abacistref04_Put.l7.L K (W_abacistref04_Put.l3 K k)) (fun E D H h => ?_) (fun k E D H h => ?_) E D H h
            · obtain ⟨w0, e0, g1⟩ := DG.out h; obtain ⟨A3, n3, m3, rfl, g2⟩ := DSl.out g1; obtain ⟨w3, e3, g3⟩ := DG.out g2; obtain ⟨s2, rfl, g4⟩ := DS.out g3; obtain ⟨w4, e4, g5⟩ := DG.out g4; obtain ⟨x3, rfl, g6⟩ := DI.out g5; obtain ⟨w5, e5, g7⟩ := DG.out g6; obtain ⟨x4, rfl, g8⟩ := DI.out g7; obtain ⟨w6, e6, g9⟩ := DG.out g8; obtain ⟨x5, rfl, g10⟩ := DI.out g9; obtain ⟨rfl, h'⟩ := DNilD.out g10; exact h'
            · obtain ⟨w0, e0, g1⟩ := DG.out h
              obtain ⟨A3, n3, m3, rfl, g2⟩ := DSl.out g1
              obtain ⟨w3, e3, g3⟩ := DG.out g2
              obtain ⟨s2, rfl, g4⟩ := DS.out g3
              obtain ⟨w4, e4, g5⟩ := DG.out g4
              obtain ⟨x3, rfl, g6⟩ := DI.out g5
              obtain ⟨w5, e5, g7⟩ := DG.out g6
              obtain ⟨x4, rfl, g8⟩ := DI.out g7
              obtain ⟨w6, e6, g9⟩ := DG.out g8
              obtain ⟨x5, rfl, g10⟩ := DI.out g9
              obtain ⟨rfl, h'⟩ := DNilD.out g10
              exact (hw_safe (Λ := (W_abacistref04_Put.Λ7 K (W_abacistref04_Put.l3 K k) (W_abacistref04_Put.l7 K (W_abacistref04_Put.l3 K k) k))) mixWabacistref04 _ _ [(0, .slice A3 n3 m3), (3, .string s2), (4, .int .i64 x3), (5, .int .u64 x4), (6, .int .i64 x5)] [] H (Eq.mp (by kernel_rfl) h') (obs_seq (obs_seq obs_region rfl (obs_cond obs_skip obs_exit)) rfl (obs_seq (obs_block (obs_seq obs_region rfl obs_region)) rfl obs_region))).weaken (EnvLe.cons e0 (EnvLe.cons e3 (EnvLe.cons e4 (EnvLe.cons e5 (EnvLe.cons e6 (EnvLe.nil _)))))) (Hp.le_refl _))))))) rfl obs_region))).weaken (EnvLe.cons e0 (EnvLe.cons e3 (EnvLe.cons e4 (EnvLe.nil _)))) (Hp.le_refl _))))) rfl (obs_seq obs_region rfl obs_ret)))))

-- abacistref04.Take
def W_abacistref04_Take.l6 (K : Value → Hp → Prop) : Nat → ByteArray → Int → Option Addr → Nat → Nat → Int → Hp → Prop
  | 0, _, _, _, _, _, _, _ => False
  | k + 1, s2, x1, A1, n1, m1, x2, H =>
    let R6 := W_abacistref04_Take.l6 K k
    BIf (decide (x2 < x1)) (HCalls Tryd.prog 43 #[.string s2, .int .i64 (IntKind.i64.wrap ((8 : Int) * x2))] H fun v1 H1 => DI .u64 v1 fun x3 => BIf (decide (x3 ≥ (18446744069414584321 : Int))) (K (.tuple #[.slice none 0 0, .int .i64 (IntKind.i64.wrap ((8 : Int) * x2)), .int .i64 (3 : Int)]) H1) (Nw H1 (.row [.int .u64 x3] 22 1) fun b1 H2 => AppK Tryd.prog 22 (.slice A1 n1 m1) (.slice (some ⟨b1, 0, none⟩) 1 1) H2 fun v2 H3 => DSl v2 fun A2 n2 m2 => R6 s2 x1 A2 n2 m2 (IntKind.i64.wrap (x2 + (1 : Int))) H3)) (K (.tuple #[.slice A1 n1 m1, .int .i64 (0 : Int), .int .i64 (0 : Int)]) H)
def W_abacistref04_Take (s1 : ByteArray) (H : Hp) (K : Value → Hp → Prop) : Prop :=
  ((8 : Int) ≠ 0 ∧ IntKind.i64 = IntKind.i64 ∧ BIf (((s1.size : Nat) : Int) != (IntKind.i64.wrap ((8 : Int) * (IntKind.i64.wrap (Int.tdiv ((s1.size : Nat) : Int) (8 : Int)))))) (K (.tuple #[.slice none 0 0, .int .i64 (IntKind.i64.wrap ((8 : Int) * (IntKind.i64.wrap (Int.tdiv ((s1.size : Nat) : Int) (8 : Int))))), .int .i64 (15 : Int)]) H) ((∃ k, W_abacistref04_Take.l6 K k s1 (IntKind.i64.wrap (Int.tdiv ((s1.size : Nat) : Int) (8 : Int))) none 0 0 (0 : Int) H)))
def W_abacistref04_Take.l6.L (K : Value → Hp → Prop) (k : Nat) : Mid := fun E D H =>
  DG (E.get? 0) fun w0 => DS w0 fun s2 => DG (E.get? 5) fun w5 => DI .i64 w5 fun x1 => DG (E.get? 6) fun w6 => DSl w6 fun A1 n1 m1 => DG (E.get? 7) fun w7 => DI .i64 w7 fun x2 => DNilD D (W_abacistref04_Take.l6 K k s2 x1 A1 n1 m1 x2 H)
def W_abacistref04_Take.Λ6 (_ : Value → Hp → Prop) (_R6 : ByteArray → Int → Option Addr → Nat → Nat → Int → Hp → Prop) : Cuts := Cuts.none (fun _ => none)
def W_abacistref04_Take.Λ (K : Value → Hp → Prop) : Cuts := ⟨fun i => none, fun i => match Nat.beq i 6 with | true => some (fun E D H => ∃ k, W_abacistref04_Take.l6.L K k E D H) | false => none, (fun _ => none)⟩
theorem W_abacistref04_Take.ok (s1 : ByteArray) (H : Hp) (K : Value → Hp → Prop) (h : W_abacistref04_Take s1 H K) : HCalls Tryd.prog 47 #[.string s1] H K :=
  hcalls Tryd.func47 rfl (Nat.le_of_ble_eq_true rfl) (hw_safe (Λ := (W_abacistref04_Take.Λ K)) mixWabacistref04 _ _ _ _ _ (Eq.mp (by kernel_rfl) h) (obs_seq obs_region rfl (obs_seq obs_region rfl (obs_seq (obs_seq obs_region rfl (obs_cond (obs_seq obs_region rfl obs_ret) obs_skip)) rfl (obs_seq obs_region rfl (obs_seq (obs_seq obs_region rfl (obs_block (obs_loop rfl (fun E D H h => by
      refine Safe.loop' (W_abacistref04_Take.l6.L K) (fun E D H h => ?_) (fun k E D H h => ?_) E D H h
      · obtain ⟨w0, e0, g1⟩ := DG.out h; obtain ⟨s2, rfl, g2⟩ := DS.out g1; obtain ⟨w5, e5, g3⟩ := DG.out g2; obtain ⟨x1, rfl, g4⟩ := DI.out g3; obtain ⟨w6, e6, g5⟩ := DG.out g4; obtain ⟨A1, n1, m1, rfl, g6⟩ := DSl.out g5; obtain ⟨w7, e7, g7⟩ := DG.out g6; obtain ⟨x2, rfl, g8⟩ := DI.out g7; obtain ⟨rfl, h'⟩ := DNilD.out g8; exact h'
      · obtain ⟨w0, e0, g1⟩ := DG.out h
        obtain ⟨s2, rfl, g2⟩ := DS.out g1
        obtain ⟨w5, e5, g3⟩ := DG.out g2
        obtain ⟨x1, rfl, g4⟩ := DI.out g3
        obtain ⟨w6, e6, g5⟩ := DG.out g4
        obtain ⟨A1, n1, m1, rfl, g6⟩ := DSl.out g5
        obtain ⟨w7, e7, g7⟩ := DG.out g6
        obtain ⟨x2, rfl, g8⟩ := DI.out g7
        obtain ⟨rfl, h'⟩ := DNilD.out g8
        exact (hw_safe (Λ := (W_abacistref04_Take.Λ6 K (W_abacistref04_Take.l6 K k))) mixWabacistref04 _ _ [(0, .string s2), (5, .int .i64 x1), (6, .slice A1 n1 m1), (7, .int .i64 x2)] [] H (Eq.mp (by kernel_rfl) h') (obs_seq (obs_seq obs_region rfl (obs_cond obs_skip obs_exit)) rfl (obs_seq (obs_block (obs_seq obs_region rfl (obs_seq (obs_seq obs_region rfl (obs_cond (obs_seq obs_region rfl obs_ret) obs_skip)) rfl obs_region))) rfl obs_region))).weaken (EnvLe.cons e0 (EnvLe.cons e5 (EnvLe.cons e6 (EnvLe.cons e7 (EnvLe.nil _))))) (Hp.le_refl _))))) rfl (obs_seq obs_region rfl obs_ret)))))))

-- abacistref04.numeral
def W_abacistref04_numeral.l12 (K : Value → Hp → Prop) : Nat → ByteArray → Int → Int → Hp → Prop
  | 0, _, _, _, _ => False
  | k + 1, s4, x5, x6, H =>
    let R12 := W_abacistref04_numeral.l12 K k
    BIf (decide (x6 < ((s4.size : Nat) : Int))) ((0 ≤ x6 ∧ ixB s4 x6.toNat fun x7 => ((10 : Int) ≠ 0 ∧ IntKind.u64 = IntKind.u64 ∧ BIf (decide (x5 > (IntKind.u64.wrap (Int.tdiv (IntKind.u64.wrap ((18446744069414584320 : Int) - (IntKind.u64.wrap ((IntKind.u64.wrap x7) - (48 : Int))))) (10 : Int))))) (K (.tuple #[.int .u64 (0 : Int), .int .i64 (3 : Int)]) H) (R12 s4 (IntKind.u64.wrap ((IntKind.u64.wrap ((10 : Int) * x5)) + (IntKind.u64.wrap ((IntKind.u64.wrap x7) - (48 : Int))))) (IntKind.i64.wrap (x6 + (1 : Int))) H)))) (K (.tuple #[.int .u64 x5, .int .i64 (0 : Int)]) H)
def W_abacistref04_numeral.l4 (K : Value → Hp → Prop) : Nat → ByteArray → Int → Hp → Prop
  | 0, _, _, _ => False
  | k + 1, s3, x2, H =>
    let R4 := W_abacistref04_numeral.l4 K k
    BIf (decide (x2 < ((s3.size : Nat) : Int))) ((0 ≤ x2 ∧ ixB s3 x2.toNat fun x3 => BIf (decide (x3 < (48 : Int))) (K (.tuple #[.int .u64 (0 : Int), .int .i64 (17 : Int)]) H) ((0 ≤ x2 ∧ ixB s3 x2.toNat fun x4 => BIf (decide (x4 > (57 : Int))) (K (.tuple #[.int .u64 (0 : Int), .int .i64 (17 : Int)]) H) (R4 s3 (IntKind.i64.wrap (x2 + (1 : Int))) H))))) (BIf (decide (((s3.size : Nat) : Int) > (20 : Int))) (K (.tuple #[.int .u64 (0 : Int), .int .i64 (14 : Int)]) H) ((∃ k, W_abacistref04_numeral.l12 K k s3 (0 : Int) (0 : Int) H)))
def W_abacistref04_numeral.j3 (K : Value → Hp → Prop) (s2 : ByteArray) (H : Hp) : Prop :=
  (∃ k, W_abacistref04_numeral.l4 K k s2 (0 : Int) H)
def W_abacistref04_numeral (s1 : ByteArray) (H : Hp) (K : Value → Hp → Prop) : Prop :=
  BIf (s1.toList == ((⟨#[]⟩) : ByteArray).toList) (K (.tuple #[.int .u64 (0 : Int), .int .i64 (17 : Int)]) H) ((0 ≤ (0 : Int) ∧ ixB s1 (0 : Int).toNat fun x1 => BIf (x1 == (48 : Int)) (BIf (decide (((s1.size : Nat) : Int) > (1 : Int))) (K (.tuple #[.int .u64 (0 : Int), .int .i64 (17 : Int)]) H) (W_abacistref04_numeral.j3 K s1 H)) (W_abacistref04_numeral.j3 K s1 H)))
def W_abacistref04_numeral.l4.L (K : Value → Hp → Prop) (k : Nat) : Mid := fun E D H =>
  DG (E.get? 0) fun w0 => DS w0 fun s3 => DG (E.get? 4) fun w4 => DI .i64 w4 fun x2 => DNilD D (W_abacistref04_numeral.l4 K k s3 x2 H)
def W_abacistref04_numeral.l12.L (K : Value → Hp → Prop) (k : Nat) : Mid := fun E D H =>
  DG (E.get? 0) fun w0 => DS w0 fun s4 => DG (E.get? 5) fun w5 => DI .u64 w5 fun x5 => DG (E.get? 6) fun w6 => DI .i64 w6 fun x6 => DNilD D (W_abacistref04_numeral.l12 K k s4 x5 x6 H)
def W_abacistref04_numeral.Λ4 (_ : Value → Hp → Prop) (_R4 : ByteArray → Int → Hp → Prop) : Cuts := Cuts.none (fun _ => none)
def W_abacistref04_numeral.Λ12 (_ : Value → Hp → Prop) (_R12 : ByteArray → Int → Int → Hp → Prop) : Cuts := Cuts.none (fun _ => none)
def W_abacistref04_numeral.Λ (K : Value → Hp → Prop) : Cuts := ⟨fun i => match Nat.beq i 3 with | true => some (fun E D H => DG (E.get? 0) fun w0 => DS w0 fun s2 => DNilD D (W_abacistref04_numeral.j3 K s2 H)) | false => none, fun i => match Nat.beq i 12 with | true => some (fun E D H => ∃ k, W_abacistref04_numeral.l12.L K k E D H) | false => match Nat.beq i 4 with | true => some (fun E D H => ∃ k, W_abacistref04_numeral.l4.L K k E D H) | false => none, (fun _ => none)⟩
theorem W_abacistref04_numeral.ok (s1 : ByteArray) (H : Hp) (K : Value → Hp → Prop) (h : W_abacistref04_numeral s1 H K) : HCalls Tryd.prog 81 #[.string s1] H K :=
  hcalls Tryd.func81 rfl (Nat.le_of_ble_eq_true rfl) (hw_safe (Λ := (W_abacistref04_numeral.Λ K)) mixWabacistref04 _ _ _ _ _ (Eq.mp (by kernel_rfl) h) (obs_seq obs_region rfl (obs_seqc (obs_seq obs_region rfl (obs_cond (obs_seq obs_region rfl obs_ret) obs_skip)) rfl (fun E D H h => by
      obtain ⟨w0, e0, g1⟩ := DG.out h
      obtain ⟨s2, rfl, g2⟩ := DS.out g1
      obtain ⟨rfl, h'⟩ := DNilD.out g2
      exact (hw_safe (Λ := (W_abacistref04_numeral.Λ K)) mixWabacistref04 _ _ [(0, .string s2)] [] H (Eq.mp (by kernel_rfl) h') (obs_seq (obs_seq obs_region rfl (obs_block (obs_loop rfl (fun E D H h => by
          refine Safe.loop' (W_abacistref04_numeral.l4.L K) (fun E D H h => ?_) (fun k E D H h => ?_) E D H h
          · obtain ⟨w0, e0, g1⟩ := DG.out h; obtain ⟨s3, rfl, g2⟩ := DS.out g1; obtain ⟨w4, e4, g3⟩ := DG.out g2; obtain ⟨x2, rfl, g4⟩ := DI.out g3; obtain ⟨rfl, h'⟩ := DNilD.out g4; exact h'
          · obtain ⟨w0, e0, g1⟩ := DG.out h
            obtain ⟨s3, rfl, g2⟩ := DS.out g1
            obtain ⟨w4, e4, g3⟩ := DG.out g2
            obtain ⟨x2, rfl, g4⟩ := DI.out g3
            obtain ⟨rfl, h'⟩ := DNilD.out g4
            exact (hw_safe (Λ := (W_abacistref04_numeral.Λ4 K (W_abacistref04_numeral.l4 K k))) mixWabacistref04 _ _ [(0, .string s3), (4, .int .i64 x2)] [] H (Eq.mp (by kernel_rfl) h') (obs_seq (obs_seq obs_region rfl (obs_cond obs_skip obs_exit)) rfl (obs_seq (obs_block (obs_seq obs_region rfl (obs_cond (obs_seq obs_region rfl obs_ret) obs_skip))) rfl obs_region))).weaken (EnvLe.cons e0 (EnvLe.cons e4 (EnvLe.nil _))) (Hp.le_refl _))))) rfl (obs_seq (obs_seq obs_region rfl (obs_cond (obs_seq obs_region rfl obs_ret) obs_skip)) rfl (obs_seq obs_region rfl (obs_seq (obs_seq obs_region rfl (obs_block (obs_loop rfl (fun E D H h => by
          refine Safe.loop' (W_abacistref04_numeral.l12.L K) (fun E D H h => ?_) (fun k E D H h => ?_) E D H h
          · obtain ⟨w0, e0, g1⟩ := DG.out h; obtain ⟨s4, rfl, g2⟩ := DS.out g1; obtain ⟨w5, e5, g3⟩ := DG.out g2; obtain ⟨x5, rfl, g4⟩ := DI.out g3; obtain ⟨w6, e6, g5⟩ := DG.out g4; obtain ⟨x6, rfl, g6⟩ := DI.out g5; obtain ⟨rfl, h'⟩ := DNilD.out g6; exact h'
          · obtain ⟨w0, e0, g1⟩ := DG.out h
            obtain ⟨s4, rfl, g2⟩ := DS.out g1
            obtain ⟨w5, e5, g3⟩ := DG.out g2
            obtain ⟨x5, rfl, g4⟩ := DI.out g3
            obtain ⟨w6, e6, g5⟩ := DG.out g4
            obtain ⟨x6, rfl, g6⟩ := DI.out g5
            obtain ⟨rfl, h'⟩ := DNilD.out g6
            exact (hw_safe (Λ := (W_abacistref04_numeral.Λ12 K (W_abacistref04_numeral.l12 K k))) mixWabacistref04 _ _ [(0, .string s4), (5, .int .u64 x5), (6, .int .i64 x6)] [] H (Eq.mp (by kernel_rfl) h') (obs_seq (obs_seq obs_region rfl (obs_cond obs_skip obs_exit)) rfl (obs_seq (obs_block (obs_seq obs_region rfl (obs_seq (obs_seq obs_region rfl (obs_cond (obs_seq obs_region rfl obs_ret) obs_skip)) rfl obs_region))) rfl obs_region))).weaken (EnvLe.cons e0 (EnvLe.cons e5 (EnvLe.cons e6 (EnvLe.nil _)))) (Hp.le_refl _))))) rfl (obs_seq obs_region rfl obs_ret)))))).weaken (EnvLe.cons e0 (EnvLe.nil _)) (Hp.le_refl _)))))

-- abacistref04.Digits
def W_abacistref04_Digits.l2 (K : Value → Hp → Prop) : Nat → Int → ByteArray → Hp → Prop
  | 0, _, _, _ => False
  | k + 1, x2, s1, H =>
    let R2 := W_abacistref04_Digits.l2 K k
    ((10 : Int) ≠ 0 ∧ IntKind.u64 = IntKind.u64 ∧ Nw H (.row [.int .u8 (IntKind.u8.wrap (IntKind.u64.wrap ((48 : Int) + (Int.tmod x2 (10 : Int)))))] 5 1) fun b1 H1 => BsK H1 (some ⟨b1, 0, none⟩) 1 fun s2 => (s2.size + s1.size ≤ 4611686018427387904 ∧ ((10 : Int) ≠ 0 ∧ IntKind.u64 = IntKind.u64 ∧ BIf ((IntKind.u64.wrap (Int.tdiv x2 (10 : Int))) == (0 : Int)) (K (.string (s2 ++ s1)) H1) (R2 (IntKind.u64.wrap (Int.tdiv x2 (10 : Int))) (s2 ++ s1) H1))))
def W_abacistref04_Digits (x1 : Int) (H : Hp) (K : Value → Hp → Prop) : Prop :=
  (∃ k, W_abacistref04_Digits.l2 K k x1 (⟨#[]⟩) H)
def W_abacistref04_Digits.l2.L (K : Value → Hp → Prop) (k : Nat) : Mid := fun E D H =>
  DG (E.get? 0) fun w0 => DI .u64 w0 fun x2 => DG (E.get? 3) fun w3 => DS w3 fun s1 => DNilD D (W_abacistref04_Digits.l2 K k x2 s1 H)
def W_abacistref04_Digits.Λ2 (_ : Value → Hp → Prop) (_R2 : Int → ByteArray → Hp → Prop) : Cuts := Cuts.none (fun _ => none)
def W_abacistref04_Digits.Λ (K : Value → Hp → Prop) : Cuts := ⟨fun i => none, fun i => match Nat.beq i 2 with | true => some (fun E D H => ∃ k, W_abacistref04_Digits.l2.L K k E D H) | false => none, (fun _ => none)⟩
theorem W_abacistref04_Digits.ok (x1 : Int) (H : Hp) (K : Value → Hp → Prop) (h : W_abacistref04_Digits x1 H K) : HCalls Tryd.prog 82 #[.int .u64 x1] H K :=
  hcalls Tryd.func82 rfl (Nat.le_of_ble_eq_true rfl) (hw_safe (Λ := (W_abacistref04_Digits.Λ K)) mixWabacistref04 _ _ _ _ _ (Eq.mp (by kernel_rfl) h) (obs_seq obs_region rfl (obs_seq obs_region rfl (obs_block (obs_loop rfl (fun E D H h => by
      refine Safe.loop' (W_abacistref04_Digits.l2.L K) (fun E D H h => ?_) (fun k E D H h => ?_) E D H h
      · obtain ⟨w0, e0, g1⟩ := DG.out h; obtain ⟨x2, rfl, g2⟩ := DI.out g1; obtain ⟨w3, e3, g3⟩ := DG.out g2; obtain ⟨s1, rfl, g4⟩ := DS.out g3; obtain ⟨rfl, h'⟩ := DNilD.out g4; exact h'
      · obtain ⟨w0, e0, g1⟩ := DG.out h
        obtain ⟨x2, rfl, g2⟩ := DI.out g1
        obtain ⟨w3, e3, g3⟩ := DG.out g2
        obtain ⟨s1, rfl, g4⟩ := DS.out g3
        obtain ⟨rfl, h'⟩ := DNilD.out g4
        exact (hw_safe (Λ := (W_abacistref04_Digits.Λ2 K (W_abacistref04_Digits.l2 K k))) mixWabacistref04 _ _ [(0, .int .u64 x2), (3, .string s1)] [] H (Eq.mp (by kernel_rfl) h') (obs_block (obs_seq obs_region rfl (obs_seq obs_region rfl (obs_seq obs_region rfl (obs_cond (obs_seq obs_region rfl obs_ret) obs_skip)))))).weaken (EnvLe.cons e0 (EnvLe.cons e3 (EnvLe.nil _))) (Hp.le_refl _)))))))

end Go.Proofs.YtbnhfcdagoigkaaDoor.W

end
section
/-! LayJ -/
/- Contracts of the library's functions, laid at this program (printed by lay2.py). -/
set_option maxRecDepth 100000
namespace Go.Proofs.YtbnhfcdagoigkaaDoor.Lib2
open Go Go.Proofs Go.Shelf Go.RowKit
def joinL_ren : Go.Shelf.Ren := ⟨fun | 156 => 78 | 165 => 116 | 166 => 117 | 169 => 118 | 240 => 153 | 241 => 154 | 276 => 190 | 277 => 191 | n => n, fun | 31 => 148 | 9 => 9 | 3 => 3 | 4 => 4 | 0 => 0 | 20 => 20 | 72 => 217 | 76 => 218 | 70 => 215 | 37 => 26 | 75 => 161 | 127 => 259 | 164 => 288 | 5 => 5 | 80 => 220 | n => n, fun | n => n⟩
theorem joinL : Go.Proofs.Lays.n156 Tryd.prog joinL_ren where
  mixed := by kernel_rfl
  f156 := Tryd.func78.trans (congrArg some (by kernel_rfl))
  f165 := Tryd.func116.trans (congrArg some (by kernel_rfl))
  f166 := Tryd.func117.trans (congrArg some (by kernel_rfl))
  f169 := Tryd.func118.trans (congrArg some (by kernel_rfl))
  f240 := Tryd.func153.trans (congrArg some (by kernel_rfl))
  f241 := Tryd.func154.trans (congrArg some (by kernel_rfl))
  f276 := Tryd.func190.trans (congrArg some (by kernel_rfl))
  f277 := Tryd.func191.trans (congrArg some (by kernel_rfl))
  t0 := Tryd.underlying0
  a0 := Tryd.isAgg0
  z0 := Tryd.sizeOf0
  v0 := Tryd.zeroValue0
  t3 := Tryd.underlying3
  a3 := Tryd.isAgg3
  z3 := Tryd.sizeOf3
  v3 := Tryd.zeroValue3
  t4 := Tryd.underlying4
  a4 := Tryd.isAgg4
  z4 := Tryd.sizeOf4
  v4 := Tryd.zeroValue4
  t9 := Tryd.underlying9
  a9 := Tryd.isAgg9
  z9 := Tryd.sizeOf9
  v9 := Tryd.zeroValue9
  t20 := Tryd.underlying20
  a20 := Tryd.isAgg20
  z20 := Tryd.sizeOf20
  v20 := Tryd.zeroValue20
  t31 := Tryd.underlying148
  a31 := Tryd.isAgg148
  z31 := Tryd.sizeOf148
  v31 := Tryd.zeroValue148
  t37 := Tryd.underlying26
  a37 := Tryd.isAgg26
  z37 := Tryd.sizeOf26
  v37 := Tryd.zeroValue26
  t70 := Tryd.underlying215
  a70 := Tryd.isAgg215
  z70 := Tryd.sizeOf215
  v70 := Tryd.zeroValue215
  t72 := Tryd.underlying217
  a72 := Tryd.isAgg217
  z72 := Tryd.sizeOf217
  v72 := Tryd.zeroValue217
  t75 := Tryd.underlying161
  a75 := Tryd.isAgg161
  z75 := Tryd.sizeOf161
  v75 := Tryd.zeroValue161
  t76 := Tryd.underlying218
  a76 := Tryd.isAgg218
  z76 := Tryd.sizeOf218
  v76 := Tryd.zeroValue218
  t127 := Tryd.underlying259
  a127 := Tryd.isAgg259
  z127 := Tryd.sizeOf259
  v127 := Tryd.zeroValue259
  t164 := Tryd.underlying288
  a164 := Tryd.isAgg288
  z164 := Tryd.sizeOf288
  v164 := Tryd.zeroValue288
end Go.Proofs.YtbnhfcdagoigkaaDoor.Lib2

end
section
/-! HwY -/
/- The frame of the proofs: the library's Join. -/
set_option maxRecDepth 100000
set_option linter.unusedSimpArgs false
set_option linter.unusedVariables false
set_option linter.unnecessarySimpa false
set_option linter.unusedSectionVars false
namespace Go.Hw
open Go Go.Proofs Go.Proofs.YtbnhfcdagoigkaaDoor.Lib2 Go.RowKit Go.Shelf

theorem joinX : Builder.Extra Tryd.prog joinL_ren where
  sizeBuilder := by kernel_rfl
  liesBuilder := by kernel_rfl
  t5 := Tryd.underlying5
  a5 := Tryd.isAgg5
  z5 := Tryd.sizeOf5
  v5 := Tryd.zeroValue5
  infoByte := by kernel_rfl
  cellsByte := by kernel_rfl
  sizeByte := by kernel_rfl
  neB5 := by decide

/-- strings.Join. -/
theorem Join_hc {b m mm : Nat} {e : TypeId} {H : Hp} (ss : List ByteArray) (sep : ByteArray) (hb : H b = some (.row (ss.map Value.string) e mm)) (hm : ss.length ≤ m) (hl : ss.length ≤ 140737488355328) (hlen : (Lib.join (ss.map (·.data.toList)) sep.data.toList).length ≤ 140737488355328) :
    HCalls Tryd.prog 78 #[.slice (some ⟨b, 0, none⟩) ss.length m, .string sep] H (RetE (.string ⟨(Lib.join (ss.map (·.data.toList)) sep.data.toList).toArray⟩) H) := fun w hw => by
  have hcell : ∀ (j : Nat) x, ss[j]? = some x → w.cell? ⟨b, 0 + j, none⟩ = some (.string x) := fun j x hj => by
    have h1 : H.cell? ⟨b, j, none⟩ = some (.string x) := by rw [cell_row hb, List.getElem?_map, hj]; rfl
    rw [Nat.zero_add]
    exact Fits.cell? hw h1
  have hbk : b < w.heap.size := by
    obtain ⟨o', h1, _⟩ := hw _ _ hb
    exact (Array.getElem?_eq_some_iff.1 h1).1
  refine (Any.strings_Join joinL joinX b 0 m ss sep w hcell hbk hl hm hlen).mono ?_
  rintro e' w' ⟨rfl, hbel⟩
  refine ⟨_, H, rfl, ⟨rfl, rfl⟩, ?_⟩
  exact ⟨fun i o hi => by
    obtain ⟨o', h1, h2⟩ := hw i o hi
    exact ⟨o', (hbel.block i (Array.getElem?_eq_some_iff.1 h1).1).trans h1, h2⟩, hbel.size, hbel.os, hbel.tape, hbel.output, fun i hi h0 => ⟨h0, hbel.block i hi⟩⟩

/-- What is appended to has room for it. -/
theorem AppK_cap {P : Program} {e : TypeId} {s x : Value} {H : Hp} {K : Value → Hp → Prop} (h : AppK P e s x H fun v H' => (∀ A n m, v = .slice A n m → n ≤ m) → K v H') : AppK P e s x H K := by
  unfold AppK at h ⊢
  split at h
  · split at h
    · obtain ⟨n, ys, h1, h2, h3, h4, h5, h6, h7, h8, h9⟩ := h
      refine ⟨n, ys, h1, h2, h3, h4, h5, h6, h7, h8, h9.imp ?_ ?_⟩
      · rintro ⟨e1, e2, e3, k0, k⟩
        refine ⟨e1, e2, e3, fun h0 => k0 h0 (fun A n m e => by cases e; exact Nat.le_refl _), fun hp c hc b hb => k hp c hc b hb (fun A n m e => by cases e; exact hc)⟩
      · rintro ⟨b0, xs, m, e1, e2, e3, e4, k⟩
        exact ⟨b0, xs, m, e1, e2, e3, e4, fun c m' hc hl b hb => k c m' hc hl b hb (fun A n m e => by cases e; exact hl)⟩
    · exact h
  · exact h
theorem Nw_cap {P : Program} {e : TypeId} {s : Value} {x : Nat → Value} {H : Hp} {o : AO} {K : Value → Hp → Prop} (h : Nw H o fun b H' => AppK P e s (x b) H' fun v H' => (∀ A n m, v = .slice A n m → n ≤ m) → K v H') : Nw H o fun b H' => AppK P e s (x b) H' K := fun b hb => AppK_cap (h b hb)

end Go.Hw

end
section
/-! GenD -/
/- The reference's rows of words; equal words. -/
set_option maxRecDepth 100000
set_option linter.unusedSimpArgs false
set_option linter.unusedVariables false
set_option linter.unnecessarySimpa false
set_option linter.unusedSectionVars false
namespace Go.Proofs.YtbnhfcdagoigkaaDoor.Gen
open Go Go.Hw Go.Proofs.YtbnhfcdagoigkaaDoor.W Go.Proofs.YtbnhfcdagoigkaaDoor.Gol

/-- The word ahead of the i-th. -/
def ahead (k : Int) (a b c : Nat) : Nat → Nat
  | 0 => a
  | i + 1 => val k a b c i
theorem vals_succ (k : Int) (a b c n : Nat) : vals k a b c 0 (n + 1) = vals k a b c 0 n ++ [val k a b c n] := by
  unfold vals
  rw [List.range_succ, List.map_append]
  simp

theorem Same_loop (H : Hp) (A B : Option Addr) (n m m' : Nat) (ws : List Nat) (hn : n = ws.length) (hl : n ≤ 1000000000) (ha : Cells H A (natV ws)) (hb : Cells H B (natV ws)) :
    ∀ (t i : Nat), i + t = n → W_abacistref04_Same.l4 (RetE (.bool true) H) (t + 1) A n m B n m' (i : Int) H
  | 0, i, h => by
    unfold W_abacistref04_Same.l4
    exact BIf_dneg (by omega) (RetE.mk _ _)
  | t + 1, i, h => by
    unfold W_abacistref04_Same.l4
    refine BIf_dpos (by omega) ?_
    have hg : (natV ws)[i]? = some (.int .u64 ((ws[i]'(by omega) : Nat) : Int)) := by
      rw [natV_get, List.getElem?_eq_getElem (by omega)]; rfl
    refine ha.read hg rfl (by rw [natV_length]; omega) ?_
    simp only [DI_int', DB_bool, DS_string, DP_pointer, DSl_slice, DM_map, DA_agg, DTup_tuple, DCons_cons, DNil_nil, NN_some, BIf_true, BIf_false, BIf_same, List.toList_toArray, Bool.not_true, Bool.not_false]
    refine hb.read hg rfl (by rw [natV_length]; omega) ?_
    simp only [DI_int', DB_bool, DS_string, DP_pointer, DSl_slice, DM_map, DA_agg, DTup_tuple, DCons_cons, DNil_nil, NN_some, BIf_true, BIf_false, BIf_same, List.toList_toArray, Bool.not_true, Bool.not_false]
    refine BIf_bnen rfl ?_
    rw [i64w (x := (i : Int) + 1) (by omega) (by omega)]
    exact Same_loop H A B n m m' ws hn hl ha hb t (i + 1) (by omega)
theorem Same_ok (A B : Option Addr) (n m m' : Nat) (ws : List Nat) (hn : n = ws.length) (hl : n ≤ 1000000000) (H : Hp) (ha : Cells H A (natV ws)) (hb : Cells H B (natV ws)) :
    HCalls Tryd.prog 27 #[.slice A n m, .slice B n m'] H (RetE (.bool true) H) := by
  apply W_abacistref04_Same.ok
  unfold W_abacistref04_Same
  refine BIf_bnen rfl ⟨n + 1, ?_⟩
  exact Same_loop H A B n m m' ws hn hl ha hb n 0 (by omega)

end Go.Proofs.YtbnhfcdagoigkaaDoor.Gen

end
section
/-! Wlstrconv -/
/- Formulas of functions, printed by wip/tools/hwp.py. -/
set_option maxRecDepth 100000
set_option linter.unusedVariables false
namespace Go.Proofs.YtbnhfcdagoigkaaDoor.W
open Go Go.Hw

theorem mixWlstrconv : Tryd.prog.follows .mixedOrders = true := by kernel_rfl
-- strconv.FormatUint
def W_strconv_FormatUint (x1 : Int) (x2 : Int) (H : Hp) (K : Value → Hp → Prop) : Prop :=
  HCalls Tryd.prog 115 #[.int .u64 x1, .int .i64 x2] H fun v1 H1 => DS v1 fun s1 => K (.string s1) H1
def W_strconv_FormatUint.Λ (_ : Value → Hp → Prop) : Cuts := Cuts.none (fun _ => none)
theorem W_strconv_FormatUint.ok (x1 : Int) (x2 : Int) (H : Hp) (K : Value → Hp → Prop) (h : W_strconv_FormatUint x1 x2 H K) : HCalls Tryd.prog 77 #[.int .u64 x1, .int .i64 x2] H K :=
  hcalls Tryd.func77 rfl (Nat.le_of_ble_eq_true rfl) (hw_safe (Λ := Cuts.none (fun _ => none)) mixWlstrconv _ _ _ _ _ (Eq.mp (by kernel_rfl) h) (obs_none _ _ _ _ _))

-- internal/strconv.FormatUint
def W_internal_strconv_FormatUint (x1 : Int) (x2 : Int) (H : Hp) (K : Value → Hp → Prop) : Prop :=
  BIf (x2 == (10 : Int)) (BIf (decide (x1 < (100 : Int))) (HCalls Tryd.prog 149 #[.int .i64 (IntKind.i64.wrap x1)] H fun v1 H1 => DS v1 fun s1 => K (.string s1) H1) (Nw H (.obj (.cells #[.int .u8 (0 : Int), .int .u8 (0 : Int), .int .u8 (0 : Int), .int .u8 (0 : Int), .int .u8 (0 : Int), .int .u8 (0 : Int), .int .u8 (0 : Int), .int .u8 (0 : Int), .int .u8 (0 : Int), .int .u8 (0 : Int), .int .u8 (0 : Int), .int .u8 (0 : Int), .int .u8 (0 : Int), .int .u8 (0 : Int), .int .u8 (0 : Int), .int .u8 (0 : Int), .int .u8 (0 : Int), .int .u8 (0 : Int), .int .u8 (0 : Int), .int .u8 (0 : Int), .int .u8 (0 : Int), .int .u8 (0 : Int), .int .u8 (0 : Int), .int .u8 (0 : Int)] 256)) fun b1 H2 => HCalls Tryd.prog 150 #[.int .u64 x1] H2 fun v2 H3 => DI .i64 v2 fun x3 => slB 24 24 none (some x3) fun n1 n2 => HCalls Tryd.prog 151 #[.slice (slA (some (⟨b1, 0, none⟩ : Addr)) 24 n1 1) (n2 - n1) (24 - n1), .int .u64 x1] H3 fun v3 H4 => slB 24 24 none (some x3) fun n3 n4 => BsK H4 (slA (some (⟨b1, 0, none⟩ : Addr)) 24 n3 1) (n4 - n3) fun s2 => K (.string s2) H4)) (HCalls Tryd.prog 152 #[.slice none 0 0, .int .u64 x1, .int .i64 x2, .bool false, .bool false] H fun v4 H5 => DTup v4 fun l1 => DCons l1 fun v5 l2 => DSl v5 fun A1 n5 m1 => DCons l2 fun v6 l3 => DS v6 fun s3 => DNil l3 (K (.string s3) H5))
def W_internal_strconv_FormatUint.Λ (_ : Value → Hp → Prop) : Cuts := Cuts.none (fun _ => none)
theorem W_internal_strconv_FormatUint.ok (x1 : Int) (x2 : Int) (H : Hp) (K : Value → Hp → Prop) (h : W_internal_strconv_FormatUint x1 x2 H K) : HCalls Tryd.prog 115 #[.int .u64 x1, .int .i64 x2] H K :=
  hcalls Tryd.func115 rfl (Nat.le_of_ble_eq_true rfl) (hw_safe (Λ := Cuts.none (fun _ => none)) mixWlstrconv _ _ _ _ _ (Eq.mp (by kernel_rfl) h) (obs_none _ _ _ _ _))

-- internal/strconv.small
def W_internal_strconv_small (x1 : Int) (H : Hp) (K : Value → Hp → Prop) : Prop :=
  BIf (decide (x1 < (10 : Int))) (slB (((⟨#[48, 49, 50, 51, 52, 53, 54, 55, 56, 57, 97, 98, 99, 100, 101, 102, 103, 104, 105, 106, 107, 108, 109, 110, 111, 112, 113, 114, 115, 116, 117, 118, 119, 120, 121, 122]⟩) : ByteArray).size) (((⟨#[48, 49, 50, 51, 52, 53, 54, 55, 56, 57, 97, 98, 99, 100, 101, 102, 103, 104, 105, 106, 107, 108, 109, 110, 111, 112, 113, 114, 115, 116, 117, 118, 119, 120, 121, 122]⟩) : ByteArray).size) (some x1) (some (IntKind.i64.wrap (x1 + (1 : Int)))) fun n1 n2 => K (.string (((⟨#[48, 49, 50, 51, 52, 53, 54, 55, 56, 57, 97, 98, 99, 100, 101, 102, 103, 104, 105, 106, 107, 108, 109, 110, 111, 112, 113, 114, 115, 116, 117, 118, 119, 120, 121, 122]⟩) : ByteArray).extract n1 n2)) H) (slB (((⟨#[48, 48, 48, 49, 48, 50, 48, 51, 48, 52, 48, 53, 48, 54, 48, 55, 48, 56, 48, 57, 49, 48, 49, 49, 49, 50, 49, 51, 49, 52, 49, 53, 49, 54, 49, 55, 49, 56, 49, 57, 50, 48, 50, 49, 50, 50, 50, 51, 50, 52, 50, 53, 50, 54, 50, 55, 50, 56, 50, 57, 51, 48, 51, 49, 51, 50, 51, 51, 51, 52, 51, 53, 51, 54, 51, 55, 51, 56, 51, 57, 52, 48, 52, 49, 52, 50, 52, 51, 52, 52, 52, 53, 52, 54, 52, 55, 52, 56, 52, 57, 53, 48, 53, 49, 53, 50, 53, 51, 53, 52, 53, 53, 53, 54, 53, 55, 53, 56, 53, 57, 54, 48, 54, 49, 54, 50, 54, 51, 54, 52, 54, 53, 54, 54, 54, 55, 54, 56, 54, 57, 55, 48, 55, 49, 55, 50, 55, 51, 55, 52, 55, 53, 55, 54, 55, 55, 55, 56, 55, 57, 56, 48, 56, 49, 56, 50, 56, 51, 56, 52, 56, 53, 56, 54, 56, 55, 56, 56, 56, 57, 57, 48, 57, 49, 57, 50, 57, 51, 57, 52, 57, 53, 57, 54, 57, 55, 57, 56, 57, 57]⟩) : ByteArray).size) (((⟨#[48, 48, 48, 49, 48, 50, 48, 51, 48, 52, 48, 53, 48, 54, 48, 55, 48, 56, 48, 57, 49, 48, 49, 49, 49, 50, 49, 51, 49, 52, 49, 53, 49, 54, 49, 55, 49, 56, 49, 57, 50, 48, 50, 49, 50, 50, 50, 51, 50, 52, 50, 53, 50, 54, 50, 55, 50, 56, 50, 57, 51, 48, 51, 49, 51, 50, 51, 51, 51, 52, 51, 53, 51, 54, 51, 55, 51, 56, 51, 57, 52, 48, 52, 49, 52, 50, 52, 51, 52, 52, 52, 53, 52, 54, 52, 55, 52, 56, 52, 57, 53, 48, 53, 49, 53, 50, 53, 51, 53, 52, 53, 53, 53, 54, 53, 55, 53, 56, 53, 57, 54, 48, 54, 49, 54, 50, 54, 51, 54, 52, 54, 53, 54, 54, 54, 55, 54, 56, 54, 57, 55, 48, 55, 49, 55, 50, 55, 51, 55, 52, 55, 53, 55, 54, 55, 55, 55, 56, 55, 57, 56, 48, 56, 49, 56, 50, 56, 51, 56, 52, 56, 53, 56, 54, 56, 55, 56, 56, 56, 57, 57, 48, 57, 49, 57, 50, 57, 51, 57, 52, 57, 53, 57, 54, 57, 55, 57, 56, 57, 57]⟩) : ByteArray).size) (some (IntKind.i64.wrap (x1 * (2 : Int)))) (some (IntKind.i64.wrap ((IntKind.i64.wrap (x1 * (2 : Int))) + (2 : Int)))) fun n3 n4 => K (.string (((⟨#[48, 48, 48, 49, 48, 50, 48, 51, 48, 52, 48, 53, 48, 54, 48, 55, 48, 56, 48, 57, 49, 48, 49, 49, 49, 50, 49, 51, 49, 52, 49, 53, 49, 54, 49, 55, 49, 56, 49, 57, 50, 48, 50, 49, 50, 50, 50, 51, 50, 52, 50, 53, 50, 54, 50, 55, 50, 56, 50, 57, 51, 48, 51, 49, 51, 50, 51, 51, 51, 52, 51, 53, 51, 54, 51, 55, 51, 56, 51, 57, 52, 48, 52, 49, 52, 50, 52, 51, 52, 52, 52, 53, 52, 54, 52, 55, 52, 56, 52, 57, 53, 48, 53, 49, 53, 50, 53, 51, 53, 52, 53, 53, 53, 54, 53, 55, 53, 56, 53, 57, 54, 48, 54, 49, 54, 50, 54, 51, 54, 52, 54, 53, 54, 54, 54, 55, 54, 56, 54, 57, 55, 48, 55, 49, 55, 50, 55, 51, 55, 52, 55, 53, 55, 54, 55, 55, 55, 56, 55, 57, 56, 48, 56, 49, 56, 50, 56, 51, 56, 52, 56, 53, 56, 54, 56, 55, 56, 56, 56, 57, 57, 48, 57, 49, 57, 50, 57, 51, 57, 52, 57, 53, 57, 54, 57, 55, 57, 56, 57, 57]⟩) : ByteArray).extract n3 n4)) H)
def W_internal_strconv_small.Λ (_ : Value → Hp → Prop) : Cuts := Cuts.none (fun _ => none)
theorem W_internal_strconv_small.ok (x1 : Int) (H : Hp) (K : Value → Hp → Prop) (h : W_internal_strconv_small x1 H K) : HCalls Tryd.prog 149 #[.int .i64 x1] H K :=
  hcalls Tryd.func149 rfl (Nat.le_of_ble_eq_true rfl) (hw_safe (Λ := Cuts.none (fun _ => none)) mixWlstrconv _ _ _ _ _ (Eq.mp (by kernel_rfl) h) (obs_none _ _ _ _ _))

-- internal/strconv.numDigits
def W_internal_strconv_numDigits (x1 : Int) (H : Hp) (K : Value → Hp → Prop) : Prop :=
  HCalls Tryd.prog 187 #[.int .u64 x1] H fun v1 H1 => DI .i64 v1 fun x2 => HCalls Tryd.prog 186 #[.int .i64 x2] H1 fun v2 H2 => DI .i64 v2 fun x3 => ixI x3 20 (Ld H2 ((⟨4, 0, none⟩ : Addr).add (x3.toNat * 1)) fun v3 => DI .u64 v3 fun x4 => HCalls Tryd.prog 188 #[.bool (decide (x1 ≥ x4))] H2 fun v4 H3 => DI .i64 v4 fun x5 => K (.int .i64 (IntKind.i64.wrap (x3 + x5))) H3)
def W_internal_strconv_numDigits.Λ (_ : Value → Hp → Prop) : Cuts := Cuts.none (fun _ => none)
theorem W_internal_strconv_numDigits.ok (x1 : Int) (H : Hp) (K : Value → Hp → Prop) (h : W_internal_strconv_numDigits x1 H K) : HCalls Tryd.prog 150 #[.int .u64 x1] H K :=
  hcalls Tryd.func150 rfl (Nat.le_of_ble_eq_true rfl) (hw_safe (Λ := Cuts.none (fun _ => none)) mixWlstrconv _ _ _ _ _ (Eq.mp (by kernel_rfl) h) (obs_none _ _ _ _ _))

-- internal/strconv.formatBase10
def W_internal_strconv_formatBase10.j25 (K : Value → Hp → Prop) (A4 : Option Addr) (n4 : Nat) (m4 : Nat) (x20 : Int) (x21 : Int) (H : Hp) : Prop :=
  BIf (decide (x20 > (0 : Int))) (ixI (0 : Int) n4 (NN A4 fun a15 => St H ((a15.add ((0 : Int).toNat * 1)).add 0) (.int .u8 (IntKind.u8.wrap (IntKind.u32.wrap ((48 : Int) + x21)))) fun H15 => K (.tuple #[]) H15)) (K (.tuple #[]) H)
def W_internal_strconv_formatBase10.j20 (K : Value → Hp → Prop) (A3 : Option Addr) (n3 : Nat) (m3 : Nat) (x16 : Int) (x17 : Int) (H : Hp) : Prop :=
  BIf (decide (x16 ≥ (2 : Int))) (((100 : Int) ≠ 0 ∧ IntKind.u32 = IntKind.u32 ∧ ((100 : Int) ≠ 0 ∧ IntKind.u32 = IntKind.u32 ∧ (0 ≤ (IntKind.u32.wrap ((IntKind.u32.wrap ((Int.tmod x17 (100 : Int)) * (2 : Int))) + (1 : Int))) ∧ ixB ((⟨#[48, 48, 48, 49, 48, 50, 48, 51, 48, 52, 48, 53, 48, 54, 48, 55, 48, 56, 48, 57, 49, 48, 49, 49, 49, 50, 49, 51, 49, 52, 49, 53, 49, 54, 49, 55, 49, 56, 49, 57, 50, 48, 50, 49, 50, 50, 50, 51, 50, 52, 50, 53, 50, 54, 50, 55, 50, 56, 50, 57, 51, 48, 51, 49, 51, 50, 51, 51, 51, 52, 51, 53, 51, 54, 51, 55, 51, 56, 51, 57, 52, 48, 52, 49, 52, 50, 52, 51, 52, 52, 52, 53, 52, 54, 52, 55, 52, 56, 52, 57, 53, 48, 53, 49, 53, 50, 53, 51, 53, 52, 53, 53, 53, 54, 53, 55, 53, 56, 53, 57, 54, 48, 54, 49, 54, 50, 54, 51, 54, 52, 54, 53, 54, 54, 54, 55, 54, 56, 54, 57, 55, 48, 55, 49, 55, 50, 55, 51, 55, 52, 55, 53, 55, 54, 55, 55, 55, 56, 55, 57, 56, 48, 56, 49, 56, 50, 56, 51, 56, 52, 56, 53, 56, 54, 56, 55, 56, 56, 56, 57, 57, 48, 57, 49, 57, 50, 57, 51, 57, 52, 57, 53, 57, 54, 57, 55, 57, 56, 57, 57]⟩) : ByteArray) (IntKind.u32.wrap ((IntKind.u32.wrap ((Int.tmod x17 (100 : Int)) * (2 : Int))) + (1 : Int))).toNat fun x18 => (0 ≤ (IntKind.u32.wrap ((Int.tmod x17 (100 : Int)) * (2 : Int))) ∧ ixB ((⟨#[48, 48, 48, 49, 48, 50, 48, 51, 48, 52, 48, 53, 48, 54, 48, 55, 48, 56, 48, 57, 49, 48, 49, 49, 49, 50, 49, 51, 49, 52, 49, 53, 49, 54, 49, 55, 49, 56, 49, 57, 50, 48, 50, 49, 50, 50, 50, 51, 50, 52, 50, 53, 50, 54, 50, 55, 50, 56, 50, 57, 51, 48, 51, 49, 51, 50, 51, 51, 51, 52, 51, 53, 51, 54, 51, 55, 51, 56, 51, 57, 52, 48, 52, 49, 52, 50, 52, 51, 52, 52, 52, 53, 52, 54, 52, 55, 52, 56, 52, 57, 53, 48, 53, 49, 53, 50, 53, 51, 53, 52, 53, 53, 53, 54, 53, 55, 53, 56, 53, 57, 54, 48, 54, 49, 54, 50, 54, 51, 54, 52, 54, 53, 54, 54, 54, 55, 54, 56, 54, 57, 55, 48, 55, 49, 55, 50, 55, 51, 55, 52, 55, 53, 55, 54, 55, 55, 55, 56, 55, 57, 56, 48, 56, 49, 56, 50, 56, 51, 56, 52, 56, 53, 56, 54, 56, 55, 56, 56, 56, 57, 57, 48, 57, 49, 57, 50, 57, 51, 57, 52, 57, 53, 57, 54, 57, 55, 57, 56, 57, 57]⟩) : ByteArray) (IntKind.u32.wrap ((Int.tmod x17 (100 : Int)) * (2 : Int))).toNat fun x19 => ixI (IntKind.i64.wrap (x16 - (1 : Int))) n3 (NN A3 fun a13 => St H ((a13.add ((IntKind.i64.wrap (x16 - (1 : Int))).toNat * 1)).add 0) (.int .u8 x18) fun H13 => ixI (IntKind.i64.wrap (x16 - (2 : Int))) n3 (NN A3 fun a14 => St H13 ((a14.add ((IntKind.i64.wrap (x16 - (2 : Int))).toNat * 1)).add 0) (.int .u8 x19) fun H14 => W_internal_strconv_formatBase10.j25 K A3 n3 m3 (IntKind.i64.wrap (x16 - (2 : Int))) (IntKind.u32.wrap (Int.tdiv x17 (100 : Int))) H14))))))) (W_internal_strconv_formatBase10.j25 K A3 n3 m3 x16 x17 H)
def W_internal_strconv_formatBase10.l1 (K : Value → Hp → Prop) : Nat → Option Addr → Nat → Nat → Int → Int → Hp → Prop
  | 0, _, _, _, _, _, _ => False
  | k + 1, A2, n2, m2, x2, x3, H =>
    let R1 := W_internal_strconv_formatBase10.l1 K k
    BIf (decide (x3 ≥ (8 : Int))) (((100000000 : Int) ≠ 0 ∧ IntKind.u64 = IntKind.u64 ∧ ((100000000 : Int) ≠ 0 ∧ IntKind.u64 = IntKind.u64 ∧ ((10000 : Int) ≠ 0 ∧ IntKind.u32 = IntKind.u32 ∧ ((10000 : Int) ≠ 0 ∧ IntKind.u32 = IntKind.u32 ∧ ((100 : Int) ≠ 0 ∧ IntKind.u32 = IntKind.u32 ∧ ((100 : Int) ≠ 0 ∧ IntKind.u32 = IntKind.u32 ∧ ((100 : Int) ≠ 0 ∧ IntKind.u32 = IntKind.u32 ∧ ((100 : Int) ≠ 0 ∧ IntKind.u32 = IntKind.u32 ∧ (0 ≤ (IntKind.u32.wrap ((IntKind.u32.wrap ((Int.tmod (Int.tmod (IntKind.u32.wrap (Int.tmod x2 (100000000 : Int))) (10000 : Int)) (100 : Int)) * (2 : Int))) + (1 : Int))) ∧ ixB ((⟨#[48, 48, 48, 49, 48, 50, 48, 51, 48, 52, 48, 53, 48, 54, 48, 55, 48, 56, 48, 57, 49, 48, 49, 49, 49, 50, 49, 51, 49, 52, 49, 53, 49, 54, 49, 55, 49, 56, 49, 57, 50, 48, 50, 49, 50, 50, 50, 51, 50, 52, 50, 53, 50, 54, 50, 55, 50, 56, 50, 57, 51, 48, 51, 49, 51, 50, 51, 51, 51, 52, 51, 53, 51, 54, 51, 55, 51, 56, 51, 57, 52, 48, 52, 49, 52, 50, 52, 51, 52, 52, 52, 53, 52, 54, 52, 55, 52, 56, 52, 57, 53, 48, 53, 49, 53, 50, 53, 51, 53, 52, 53, 53, 53, 54, 53, 55, 53, 56, 53, 57, 54, 48, 54, 49, 54, 50, 54, 51, 54, 52, 54, 53, 54, 54, 54, 55, 54, 56, 54, 57, 55, 48, 55, 49, 55, 50, 55, 51, 55, 52, 55, 53, 55, 54, 55, 55, 55, 56, 55, 57, 56, 48, 56, 49, 56, 50, 56, 51, 56, 52, 56, 53, 56, 54, 56, 55, 56, 56, 56, 57, 57, 48, 57, 49, 57, 50, 57, 51, 57, 52, 57, 53, 57, 54, 57, 55, 57, 56, 57, 57]⟩) : ByteArray) (IntKind.u32.wrap ((IntKind.u32.wrap ((Int.tmod (Int.tmod (IntKind.u32.wrap (Int.tmod x2 (100000000 : Int))) (10000 : Int)) (100 : Int)) * (2 : Int))) + (1 : Int))).toNat fun x4 => (0 ≤ (IntKind.u32.wrap ((Int.tmod (Int.tmod (IntKind.u32.wrap (Int.tmod x2 (100000000 : Int))) (10000 : Int)) (100 : Int)) * (2 : Int))) ∧ ixB ((⟨#[48, 48, 48, 49, 48, 50, 48, 51, 48, 52, 48, 53, 48, 54, 48, 55, 48, 56, 48, 57, 49, 48, 49, 49, 49, 50, 49, 51, 49, 52, 49, 53, 49, 54, 49, 55, 49, 56, 49, 57, 50, 48, 50, 49, 50, 50, 50, 51, 50, 52, 50, 53, 50, 54, 50, 55, 50, 56, 50, 57, 51, 48, 51, 49, 51, 50, 51, 51, 51, 52, 51, 53, 51, 54, 51, 55, 51, 56, 51, 57, 52, 48, 52, 49, 52, 50, 52, 51, 52, 52, 52, 53, 52, 54, 52, 55, 52, 56, 52, 57, 53, 48, 53, 49, 53, 50, 53, 51, 53, 52, 53, 53, 53, 54, 53, 55, 53, 56, 53, 57, 54, 48, 54, 49, 54, 50, 54, 51, 54, 52, 54, 53, 54, 54, 54, 55, 54, 56, 54, 57, 55, 48, 55, 49, 55, 50, 55, 51, 55, 52, 55, 53, 55, 54, 55, 55, 55, 56, 55, 57, 56, 48, 56, 49, 56, 50, 56, 51, 56, 52, 56, 53, 56, 54, 56, 55, 56, 56, 56, 57, 57, 48, 57, 49, 57, 50, 57, 51, 57, 52, 57, 53, 57, 54, 57, 55, 57, 56, 57, 57]⟩) : ByteArray) (IntKind.u32.wrap ((Int.tmod (Int.tmod (IntKind.u32.wrap (Int.tmod x2 (100000000 : Int))) (10000 : Int)) (100 : Int)) * (2 : Int))).toNat fun x5 => ixI (IntKind.i64.wrap (x3 - (1 : Int))) n2 (NN A2 fun a1 => St H ((a1.add ((IntKind.i64.wrap (x3 - (1 : Int))).toNat * 1)).add 0) (.int .u8 x4) fun H1 => ixI (IntKind.i64.wrap (x3 - (2 : Int))) n2 (NN A2 fun a2 => St H1 ((a2.add ((IntKind.i64.wrap (x3 - (2 : Int))).toNat * 1)).add 0) (.int .u8 x5) fun H2 => (0 ≤ (IntKind.u32.wrap ((IntKind.u32.wrap ((IntKind.u32.wrap (Int.tdiv (Int.tmod (IntKind.u32.wrap (Int.tmod x2 (100000000 : Int))) (10000 : Int)) (100 : Int))) * (2 : Int))) + (1 : Int))) ∧ ixB ((⟨#[48, 48, 48, 49, 48, 50, 48, 51, 48, 52, 48, 53, 48, 54, 48, 55, 48, 56, 48, 57, 49, 48, 49, 49, 49, 50, 49, 51, 49, 52, 49, 53, 49, 54, 49, 55, 49, 56, 49, 57, 50, 48, 50, 49, 50, 50, 50, 51, 50, 52, 50, 53, 50, 54, 50, 55, 50, 56, 50, 57, 51, 48, 51, 49, 51, 50, 51, 51, 51, 52, 51, 53, 51, 54, 51, 55, 51, 56, 51, 57, 52, 48, 52, 49, 52, 50, 52, 51, 52, 52, 52, 53, 52, 54, 52, 55, 52, 56, 52, 57, 53, 48, 53, 49, 53, 50, 53, 51, 53, 52, 53, 53, 53, 54, 53, 55, 53, 56, 53, 57, 54, 48, 54, 49, 54, 50, 54, 51, 54, 52, 54, 53, 54, 54, 54, 55, 54, 56, 54, 57, 55, 48, 55, 49, 55, 50, 55, 51, 55, 52, 55, 53, 55, 54, 55, 55, 55, 56, 55, 57, 56, 48, 56, 49, 56, 50, 56, 51, 56, 52, 56, 53, 56, 54, 56, 55, 56, 56, 56, 57, 57, 48, 57, 49, 57, 50, 57, 51, 57, 52, 57, 53, 57, 54, 57, 55, 57, 56, 57, 57]⟩) : ByteArray) (IntKind.u32.wrap ((IntKind.u32.wrap ((IntKind.u32.wrap (Int.tdiv (Int.tmod (IntKind.u32.wrap (Int.tmod x2 (100000000 : Int))) (10000 : Int)) (100 : Int))) * (2 : Int))) + (1 : Int))).toNat fun x6 => (0 ≤ (IntKind.u32.wrap ((IntKind.u32.wrap (Int.tdiv (Int.tmod (IntKind.u32.wrap (Int.tmod x2 (100000000 : Int))) (10000 : Int)) (100 : Int))) * (2 : Int))) ∧ ixB ((⟨#[48, 48, 48, 49, 48, 50, 48, 51, 48, 52, 48, 53, 48, 54, 48, 55, 48, 56, 48, 57, 49, 48, 49, 49, 49, 50, 49, 51, 49, 52, 49, 53, 49, 54, 49, 55, 49, 56, 49, 57, 50, 48, 50, 49, 50, 50, 50, 51, 50, 52, 50, 53, 50, 54, 50, 55, 50, 56, 50, 57, 51, 48, 51, 49, 51, 50, 51, 51, 51, 52, 51, 53, 51, 54, 51, 55, 51, 56, 51, 57, 52, 48, 52, 49, 52, 50, 52, 51, 52, 52, 52, 53, 52, 54, 52, 55, 52, 56, 52, 57, 53, 48, 53, 49, 53, 50, 53, 51, 53, 52, 53, 53, 53, 54, 53, 55, 53, 56, 53, 57, 54, 48, 54, 49, 54, 50, 54, 51, 54, 52, 54, 53, 54, 54, 54, 55, 54, 56, 54, 57, 55, 48, 55, 49, 55, 50, 55, 51, 55, 52, 55, 53, 55, 54, 55, 55, 55, 56, 55, 57, 56, 48, 56, 49, 56, 50, 56, 51, 56, 52, 56, 53, 56, 54, 56, 55, 56, 56, 56, 57, 57, 48, 57, 49, 57, 50, 57, 51, 57, 52, 57, 53, 57, 54, 57, 55, 57, 56, 57, 57]⟩) : ByteArray) (IntKind.u32.wrap ((IntKind.u32.wrap (Int.tdiv (Int.tmod (IntKind.u32.wrap (Int.tmod x2 (100000000 : Int))) (10000 : Int)) (100 : Int))) * (2 : Int))).toNat fun x7 => ixI (IntKind.i64.wrap (x3 - (3 : Int))) n2 (NN A2 fun a3 => St H2 ((a3.add ((IntKind.i64.wrap (x3 - (3 : Int))).toNat * 1)).add 0) (.int .u8 x6) fun H3 => ixI (IntKind.i64.wrap (x3 - (4 : Int))) n2 (NN A2 fun a4 => St H3 ((a4.add ((IntKind.i64.wrap (x3 - (4 : Int))).toNat * 1)).add 0) (.int .u8 x7) fun H4 => (0 ≤ (IntKind.u32.wrap ((IntKind.u32.wrap ((Int.tmod (IntKind.u32.wrap (Int.tdiv (IntKind.u32.wrap (Int.tmod x2 (100000000 : Int))) (10000 : Int))) (100 : Int)) * (2 : Int))) + (1 : Int))) ∧ ixB ((⟨#[48, 48, 48, 49, 48, 50, 48, 51, 48, 52, 48, 53, 48, 54, 48, 55, 48, 56, 48, 57, 49, 48, 49, 49, 49, 50, 49, 51, 49, 52, 49, 53, 49, 54, 49, 55, 49, 56, 49, 57, 50, 48, 50, 49, 50, 50, 50, 51, 50, 52, 50, 53, 50, 54, 50, 55, 50, 56, 50, 57, 51, 48, 51, 49, 51, 50, 51, 51, 51, 52, 51, 53, 51, 54, 51, 55, 51, 56, 51, 57, 52, 48, 52, 49, 52, 50, 52, 51, 52, 52, 52, 53, 52, 54, 52, 55, 52, 56, 52, 57, 53, 48, 53, 49, 53, 50, 53, 51, 53, 52, 53, 53, 53, 54, 53, 55, 53, 56, 53, 57, 54, 48, 54, 49, 54, 50, 54, 51, 54, 52, 54, 53, 54, 54, 54, 55, 54, 56, 54, 57, 55, 48, 55, 49, 55, 50, 55, 51, 55, 52, 55, 53, 55, 54, 55, 55, 55, 56, 55, 57, 56, 48, 56, 49, 56, 50, 56, 51, 56, 52, 56, 53, 56, 54, 56, 55, 56, 56, 56, 57, 57, 48, 57, 49, 57, 50, 57, 51, 57, 52, 57, 53, 57, 54, 57, 55, 57, 56, 57, 57]⟩) : ByteArray) (IntKind.u32.wrap ((IntKind.u32.wrap ((Int.tmod (IntKind.u32.wrap (Int.tdiv (IntKind.u32.wrap (Int.tmod x2 (100000000 : Int))) (10000 : Int))) (100 : Int)) * (2 : Int))) + (1 : Int))).toNat fun x8 => (0 ≤ (IntKind.u32.wrap ((Int.tmod (IntKind.u32.wrap (Int.tdiv (IntKind.u32.wrap (Int.tmod x2 (100000000 : Int))) (10000 : Int))) (100 : Int)) * (2 : Int))) ∧ ixB ((⟨#[48, 48, 48, 49, 48, 50, 48, 51, 48, 52, 48, 53, 48, 54, 48, 55, 48, 56, 48, 57, 49, 48, 49, 49, 49, 50, 49, 51, 49, 52, 49, 53, 49, 54, 49, 55, 49, 56, 49, 57, 50, 48, 50, 49, 50, 50, 50, 51, 50, 52, 50, 53, 50, 54, 50, 55, 50, 56, 50, 57, 51, 48, 51, 49, 51, 50, 51, 51, 51, 52, 51, 53, 51, 54, 51, 55, 51, 56, 51, 57, 52, 48, 52, 49, 52, 50, 52, 51, 52, 52, 52, 53, 52, 54, 52, 55, 52, 56, 52, 57, 53, 48, 53, 49, 53, 50, 53, 51, 53, 52, 53, 53, 53, 54, 53, 55, 53, 56, 53, 57, 54, 48, 54, 49, 54, 50, 54, 51, 54, 52, 54, 53, 54, 54, 54, 55, 54, 56, 54, 57, 55, 48, 55, 49, 55, 50, 55, 51, 55, 52, 55, 53, 55, 54, 55, 55, 55, 56, 55, 57, 56, 48, 56, 49, 56, 50, 56, 51, 56, 52, 56, 53, 56, 54, 56, 55, 56, 56, 56, 57, 57, 48, 57, 49, 57, 50, 57, 51, 57, 52, 57, 53, 57, 54, 57, 55, 57, 56, 57, 57]⟩) : ByteArray) (IntKind.u32.wrap ((Int.tmod (IntKind.u32.wrap (Int.tdiv (IntKind.u32.wrap (Int.tmod x2 (100000000 : Int))) (10000 : Int))) (100 : Int)) * (2 : Int))).toNat fun x9 => ixI (IntKind.i64.wrap (x3 - (5 : Int))) n2 (NN A2 fun a5 => St H4 ((a5.add ((IntKind.i64.wrap (x3 - (5 : Int))).toNat * 1)).add 0) (.int .u8 x8) fun H5 => ixI (IntKind.i64.wrap (x3 - (6 : Int))) n2 (NN A2 fun a6 => St H5 ((a6.add ((IntKind.i64.wrap (x3 - (6 : Int))).toNat * 1)).add 0) (.int .u8 x9) fun H6 => (0 ≤ (IntKind.u32.wrap ((IntKind.u32.wrap ((IntKind.u32.wrap (Int.tdiv (IntKind.u32.wrap (Int.tdiv (IntKind.u32.wrap (Int.tmod x2 (100000000 : Int))) (10000 : Int))) (100 : Int))) * (2 : Int))) + (1 : Int))) ∧ ixB ((⟨#[48, 48, 48, 49, 48, 50, 48, 51, 48, 52, 48, 53, 48, 54, 48, 55, 48, 56, 48, 57, 49, 48, 49, 49, 49, 50, 49, 51, 49, 52, 49, 53, 49, 54, 49, 55, 49, 56, 49, 57, 50, 48, 50, 49, 50, 50, 50, 51, 50, 52, 50, 53, 50, 54, 50, 55, 50, 56, 50, 57, 51, 48, 51, 49, 51, 50, 51, 51, 51, 52, 51, 53, 51, 54, 51, 55, 51, 56, 51, 57, 52, 48, 52, 49, 52, 50, 52, 51, 52, 52, 52, 53, 52, 54, 52, 55, 52, 56, 52, 57, 53, 48, 53, 49, 53, 50, 53, 51, 53, 52, 53, 53, 53, 54, 53, 55, 53, 56, 53, 57, 54, 48, 54, 49, 54, 50, 54, 51, 54, 52, 54, 53, 54, 54, 54, 55, 54, 56, 54, 57, 55, 48, 55, 49, 55, 50, 55, 51, 55, 52, 55, 53, 55, 54, 55, 55, 55, 56, 55, 57, 56, 48, 56, 49, 56, 50, 56, 51, 56, 52, 56, 53, 56, 54, 56, 55, 56, 56, 56, 57, 57, 48, 57, 49, 57, 50, 57, 51, 57, 52, 57, 53, 57, 54, 57, 55, 57, 56, 57, 57]⟩) : ByteArray) (IntKind.u32.wrap ((IntKind.u32.wrap ((IntKind.u32.wrap (Int.tdiv (IntKind.u32.wrap (Int.tdiv (IntKind.u32.wrap (Int.tmod x2 (100000000 : Int))) (10000 : Int))) (100 : Int))) * (2 : Int))) + (1 : Int))).toNat fun x10 => (0 ≤ (IntKind.u32.wrap ((IntKind.u32.wrap (Int.tdiv (IntKind.u32.wrap (Int.tdiv (IntKind.u32.wrap (Int.tmod x2 (100000000 : Int))) (10000 : Int))) (100 : Int))) * (2 : Int))) ∧ ixB ((⟨#[48, 48, 48, 49, 48, 50, 48, 51, 48, 52, 48, 53, 48, 54, 48, 55, 48, 56, 48, 57, 49, 48, 49, 49, 49, 50, 49, 51, 49, 52, 49, 53, 49, 54, 49, 55, 49, 56, 49, 57, 50, 48, 50, 49, 50, 50, 50, 51, 50, 52, 50, 53, 50, 54, 50, 55, 50, 56, 50, 57, 51, 48, 51, 49, 51, 50, 51, 51, 51, 52, 51, 53, 51, 54, 51, 55, 51, 56, 51, 57, 52, 48, 52, 49, 52, 50, 52, 51, 52, 52, 52, 53, 52, 54, 52, 55, 52, 56, 52, 57, 53, 48, 53, 49, 53, 50, 53, 51, 53, 52, 53, 53, 53, 54, 53, 55, 53, 56, 53, 57, 54, 48, 54, 49, 54, 50, 54, 51, 54, 52, 54, 53, 54, 54, 54, 55, 54, 56, 54, 57, 55, 48, 55, 49, 55, 50, 55, 51, 55, 52, 55, 53, 55, 54, 55, 55, 55, 56, 55, 57, 56, 48, 56, 49, 56, 50, 56, 51, 56, 52, 56, 53, 56, 54, 56, 55, 56, 56, 56, 57, 57, 48, 57, 49, 57, 50, 57, 51, 57, 52, 57, 53, 57, 54, 57, 55, 57, 56, 57, 57]⟩) : ByteArray) (IntKind.u32.wrap ((IntKind.u32.wrap (Int.tdiv (IntKind.u32.wrap (Int.tdiv (IntKind.u32.wrap (Int.tmod x2 (100000000 : Int))) (10000 : Int))) (100 : Int))) * (2 : Int))).toNat fun x11 => ixI (IntKind.i64.wrap (x3 - (7 : Int))) n2 (NN A2 fun a7 => St H6 ((a7.add ((IntKind.i64.wrap (x3 - (7 : Int))).toNat * 1)).add 0) (.int .u8 x10) fun H7 => ixI (IntKind.i64.wrap (x3 - (8 : Int))) n2 (NN A2 fun a8 => St H7 ((a8.add ((IntKind.i64.wrap (x3 - (8 : Int))).toNat * 1)).add 0) (.int .u8 x11) fun H8 => R1 A2 n2 m2 (IntKind.u64.wrap (Int.tdiv x2 (100000000 : Int))) (IntKind.i64.wrap (x3 - (8 : Int))) H8))))))))))))))))))))))))) (BIf (decide (x3 ≥ (4 : Int))) (((10000 : Int) ≠ 0 ∧ IntKind.u32 = IntKind.u32 ∧ ((10000 : Int) ≠ 0 ∧ IntKind.u32 = IntKind.u32 ∧ ((100 : Int) ≠ 0 ∧ IntKind.u32 = IntKind.u32 ∧ ((100 : Int) ≠ 0 ∧ IntKind.u32 = IntKind.u32 ∧ (0 ≤ (IntKind.u32.wrap ((IntKind.u32.wrap ((Int.tmod (Int.tmod (IntKind.u32.wrap x2) (10000 : Int)) (100 : Int)) * (2 : Int))) + (1 : Int))) ∧ ixB ((⟨#[48, 48, 48, 49, 48, 50, 48, 51, 48, 52, 48, 53, 48, 54, 48, 55, 48, 56, 48, 57, 49, 48, 49, 49, 49, 50, 49, 51, 49, 52, 49, 53, 49, 54, 49, 55, 49, 56, 49, 57, 50, 48, 50, 49, 50, 50, 50, 51, 50, 52, 50, 53, 50, 54, 50, 55, 50, 56, 50, 57, 51, 48, 51, 49, 51, 50, 51, 51, 51, 52, 51, 53, 51, 54, 51, 55, 51, 56, 51, 57, 52, 48, 52, 49, 52, 50, 52, 51, 52, 52, 52, 53, 52, 54, 52, 55, 52, 56, 52, 57, 53, 48, 53, 49, 53, 50, 53, 51, 53, 52, 53, 53, 53, 54, 53, 55, 53, 56, 53, 57, 54, 48, 54, 49, 54, 50, 54, 51, 54, 52, 54, 53, 54, 54, 54, 55, 54, 56, 54, 57, 55, 48, 55, 49, 55, 50, 55, 51, 55, 52, 55, 53, 55, 54, 55, 55, 55, 56, 55, 57, 56, 48, 56, 49, 56, 50, 56, 51, 56, 52, 56, 53, 56, 54, 56, 55, 56, 56, 56, 57, 57, 48, 57, 49, 57, 50, 57, 51, 57, 52, 57, 53, 57, 54, 57, 55, 57, 56, 57, 57]⟩) : ByteArray) (IntKind.u32.wrap ((IntKind.u32.wrap ((Int.tmod (Int.tmod (IntKind.u32.wrap x2) (10000 : Int)) (100 : Int)) * (2 : Int))) + (1 : Int))).toNat fun x12 => (0 ≤ (IntKind.u32.wrap ((Int.tmod (Int.tmod (IntKind.u32.wrap x2) (10000 : Int)) (100 : Int)) * (2 : Int))) ∧ ixB ((⟨#[48, 48, 48, 49, 48, 50, 48, 51, 48, 52, 48, 53, 48, 54, 48, 55, 48, 56, 48, 57, 49, 48, 49, 49, 49, 50, 49, 51, 49, 52, 49, 53, 49, 54, 49, 55, 49, 56, 49, 57, 50, 48, 50, 49, 50, 50, 50, 51, 50, 52, 50, 53, 50, 54, 50, 55, 50, 56, 50, 57, 51, 48, 51, 49, 51, 50, 51, 51, 51, 52, 51, 53, 51, 54, 51, 55, 51, 56, 51, 57, 52, 48, 52, 49, 52, 50, 52, 51, 52, 52, 52, 53, 52, 54, 52, 55, 52, 56, 52, 57, 53, 48, 53, 49, 53, 50, 53, 51, 53, 52, 53, 53, 53, 54, 53, 55, 53, 56, 53, 57, 54, 48, 54, 49, 54, 50, 54, 51, 54, 52, 54, 53, 54, 54, 54, 55, 54, 56, 54, 57, 55, 48, 55, 49, 55, 50, 55, 51, 55, 52, 55, 53, 55, 54, 55, 55, 55, 56, 55, 57, 56, 48, 56, 49, 56, 50, 56, 51, 56, 52, 56, 53, 56, 54, 56, 55, 56, 56, 56, 57, 57, 48, 57, 49, 57, 50, 57, 51, 57, 52, 57, 53, 57, 54, 57, 55, 57, 56, 57, 57]⟩) : ByteArray) (IntKind.u32.wrap ((Int.tmod (Int.tmod (IntKind.u32.wrap x2) (10000 : Int)) (100 : Int)) * (2 : Int))).toNat fun x13 => ixI (IntKind.i64.wrap (x3 - (1 : Int))) n2 (NN A2 fun a9 => St H ((a9.add ((IntKind.i64.wrap (x3 - (1 : Int))).toNat * 1)).add 0) (.int .u8 x12) fun H9 => ixI (IntKind.i64.wrap (x3 - (2 : Int))) n2 (NN A2 fun a10 => St H9 ((a10.add ((IntKind.i64.wrap (x3 - (2 : Int))).toNat * 1)).add 0) (.int .u8 x13) fun H10 => (0 ≤ (IntKind.u32.wrap ((IntKind.u32.wrap ((IntKind.u32.wrap (Int.tdiv (Int.tmod (IntKind.u32.wrap x2) (10000 : Int)) (100 : Int))) * (2 : Int))) + (1 : Int))) ∧ ixB ((⟨#[48, 48, 48, 49, 48, 50, 48, 51, 48, 52, 48, 53, 48, 54, 48, 55, 48, 56, 48, 57, 49, 48, 49, 49, 49, 50, 49, 51, 49, 52, 49, 53, 49, 54, 49, 55, 49, 56, 49, 57, 50, 48, 50, 49, 50, 50, 50, 51, 50, 52, 50, 53, 50, 54, 50, 55, 50, 56, 50, 57, 51, 48, 51, 49, 51, 50, 51, 51, 51, 52, 51, 53, 51, 54, 51, 55, 51, 56, 51, 57, 52, 48, 52, 49, 52, 50, 52, 51, 52, 52, 52, 53, 52, 54, 52, 55, 52, 56, 52, 57, 53, 48, 53, 49, 53, 50, 53, 51, 53, 52, 53, 53, 53, 54, 53, 55, 53, 56, 53, 57, 54, 48, 54, 49, 54, 50, 54, 51, 54, 52, 54, 53, 54, 54, 54, 55, 54, 56, 54, 57, 55, 48, 55, 49, 55, 50, 55, 51, 55, 52, 55, 53, 55, 54, 55, 55, 55, 56, 55, 57, 56, 48, 56, 49, 56, 50, 56, 51, 56, 52, 56, 53, 56, 54, 56, 55, 56, 56, 56, 57, 57, 48, 57, 49, 57, 50, 57, 51, 57, 52, 57, 53, 57, 54, 57, 55, 57, 56, 57, 57]⟩) : ByteArray) (IntKind.u32.wrap ((IntKind.u32.wrap ((IntKind.u32.wrap (Int.tdiv (Int.tmod (IntKind.u32.wrap x2) (10000 : Int)) (100 : Int))) * (2 : Int))) + (1 : Int))).toNat fun x14 => (0 ≤ (IntKind.u32.wrap ((IntKind.u32.wrap (Int.tdiv (Int.tmod (IntKind.u32.wrap x2) (10000 : Int)) (100 : Int))) * (2 : Int))) ∧ ixB ((⟨#[48, 48, 48, 49, 48, 50, 48, 51, 48, 52, 48, 53, 48, 54, 48, 55, 48, 56, 48, 57, 49, 48, 49, 49, 49, 50, 49, 51, 49, 52, 49, 53, 49, 54, 49, 55, 49, 56, 49, 57, 50, 48, 50, 49, 50, 50, 50, 51, 50, 52, 50, 53, 50, 54, 50, 55, 50, 56, 50, 57, 51, 48, 51, 49, 51, 50, 51, 51, 51, 52, 51, 53, 51, 54, 51, 55, 51, 56, 51, 57, 52, 48, 52, 49, 52, 50, 52, 51, 52, 52, 52, 53, 52, 54, 52, 55, 52, 56, 52, 57, 53, 48, 53, 49, 53, 50, 53, 51, 53, 52, 53, 53, 53, 54, 53, 55, 53, 56, 53, 57, 54, 48, 54, 49, 54, 50, 54, 51, 54, 52, 54, 53, 54, 54, 54, 55, 54, 56, 54, 57, 55, 48, 55, 49, 55, 50, 55, 51, 55, 52, 55, 53, 55, 54, 55, 55, 55, 56, 55, 57, 56, 48, 56, 49, 56, 50, 56, 51, 56, 52, 56, 53, 56, 54, 56, 55, 56, 56, 56, 57, 57, 48, 57, 49, 57, 50, 57, 51, 57, 52, 57, 53, 57, 54, 57, 55, 57, 56, 57, 57]⟩) : ByteArray) (IntKind.u32.wrap ((IntKind.u32.wrap (Int.tdiv (Int.tmod (IntKind.u32.wrap x2) (10000 : Int)) (100 : Int))) * (2 : Int))).toNat fun x15 => ixI (IntKind.i64.wrap (x3 - (3 : Int))) n2 (NN A2 fun a11 => St H10 ((a11.add ((IntKind.i64.wrap (x3 - (3 : Int))).toNat * 1)).add 0) (.int .u8 x14) fun H11 => ixI (IntKind.i64.wrap (x3 - (4 : Int))) n2 (NN A2 fun a12 => St H11 ((a12.add ((IntKind.i64.wrap (x3 - (4 : Int))).toNat * 1)).add 0) (.int .u8 x15) fun H12 => W_internal_strconv_formatBase10.j20 K A2 n2 m2 (IntKind.i64.wrap (x3 - (4 : Int))) (IntKind.u32.wrap (Int.tdiv (IntKind.u32.wrap x2) (10000 : Int))) H12))))))))))))) (W_internal_strconv_formatBase10.j20 K A2 n2 m2 x3 (IntKind.u32.wrap x2) H))
def W_internal_strconv_formatBase10 (A1 : Option Addr) (n1 : Nat) (m1 : Nat) (x1 : Int) (H : Hp) (K : Value → Hp → Prop) : Prop :=
  (∃ k, W_internal_strconv_formatBase10.l1 K k A1 n1 m1 x1 ((n1 : Nat) : Int) H)
def W_internal_strconv_formatBase10.l1.L (K : Value → Hp → Prop) (k : Nat) : Mid := fun E D H =>
  DG (E.get? 0) fun w0 => DSl w0 fun A2 n2 m2 => DG (E.get? 1) fun w1 => DI .u64 w1 fun x2 => DG (E.get? 4) fun w4 => DI .i64 w4 fun x3 => DNilD D (W_internal_strconv_formatBase10.l1 K k A2 n2 m2 x2 x3 H)
def W_internal_strconv_formatBase10.Λ1 (_ : Value → Hp → Prop) (_R1 : Option Addr → Nat → Nat → Int → Int → Hp → Prop) : Cuts := Cuts.none (fun i => match Nat.beq i 23 with | true => some ([], [0, 0, 2, 0, 0, 16, 0, 64, 192, 0, 512, 455, 2503, 8191, 16383], 0) | false => match Nat.beq i 18 with | true => some ([], [0, 0, 2, 0, 0, 16, 0, 64, 192, 0, 512, 455, 2503, 8191, 16383], 0) | false => match Nat.beq i 17 with | true => some ([], [0, 0, 2, 0, 0, 16, 0, 64, 192, 0, 512, 455, 2503, 8191, 16383], 0) | false => match Nat.beq i 10 with | true => some ([], [0, 0, 2, 0, 0, 16, 0, 64, 192, 0, 512, 455, 2503, 8191, 16383], 0) | false => match Nat.beq i 9 with | true => some ([], [0, 0, 2, 0, 0, 16, 0, 64, 192, 0, 512, 455, 2503, 8191, 16383], 0) | false => match Nat.beq i 8 with | true => some ([], [0, 0, 2, 0, 0, 16, 0, 64, 192, 0, 512, 455, 2503, 8191, 16383], 0) | false => match Nat.beq i 7 with | true => some ([], [0, 0, 2, 0, 0, 16, 0, 64, 192, 0, 512, 455, 2503, 8191, 16383], 0) | false => none)
def W_internal_strconv_formatBase10.Λ (K : Value → Hp → Prop) : Cuts := ⟨fun i => match Nat.beq i 25 with | true => some (fun E D H => DG (E.get? 0) fun w0 => DSl w0 fun A4 n4 m4 => DG (E.get? 4) fun w4 => DI .i64 w4 fun x20 => DG (E.get? 12) fun w12 => DI .u32 w12 fun x21 => DNilD D (W_internal_strconv_formatBase10.j25 K A4 n4 m4 x20 x21 H)) | false => match Nat.beq i 20 with | true => some (fun E D H => DG (E.get? 0) fun w0 => DSl w0 fun A3 n3 m3 => DG (E.get? 4) fun w4 => DI .i64 w4 fun x16 => DG (E.get? 12) fun w12 => DI .u32 w12 fun x17 => DNilD D (W_internal_strconv_formatBase10.j20 K A3 n3 m3 x16 x17 H)) | false => none, fun i => match Nat.beq i 1 with | true => some (fun E D H => ∃ k, W_internal_strconv_formatBase10.l1.L K k E D H) | false => none, (fun i => match Nat.beq i 23 with | true => some ([], [0, 0, 2, 0, 0, 16, 0, 64, 192, 0, 512, 455, 2503, 8191, 16383], 0) | false => match Nat.beq i 18 with | true => some ([], [0, 0, 2, 0, 0, 16, 0, 64, 192, 0, 512, 455, 2503, 8191, 16383], 0) | false => match Nat.beq i 17 with | true => some ([], [0, 0, 2, 0, 0, 16, 0, 64, 192, 0, 512, 455, 2503, 8191, 16383], 0) | false => match Nat.beq i 10 with | true => some ([], [0, 0, 2, 0, 0, 16, 0, 64, 192, 0, 512, 455, 2503, 8191, 16383], 0) | false => match Nat.beq i 9 with | true => some ([], [0, 0, 2, 0, 0, 16, 0, 64, 192, 0, 512, 455, 2503, 8191, 16383], 0) | false => match Nat.beq i 8 with | true => some ([], [0, 0, 2, 0, 0, 16, 0, 64, 192, 0, 512, 455, 2503, 8191, 16383], 0) | false => match Nat.beq i 7 with | true => some ([], [0, 0, 2, 0, 0, 16, 0, 64, 192, 0, 512, 455, 2503, 8191, 16383], 0) | false => none)⟩
theorem W_internal_strconv_formatBase10.ok (A1 : Option Addr) (n1 : Nat) (m1 : Nat) (x1 : Int) (H : Hp) (K : Value → Hp → Prop) (h : W_internal_strconv_formatBase10 A1 n1 m1 x1 H K) : HCalls Tryd.prog 151 #[.slice A1 n1 m1, .int .u64 x1] H K :=
  hcalls Tryd.func151 rfl (Nat.le_of_ble_eq_true rfl) (hw_safe (Λ := (W_internal_strconv_formatBase10.Λ K)) mixWlstrconv _ _ _ _ _ (Eq.mp (by kernel_rfl) h) (obs_seq obs_region rfl (obs_seq (obs_block (obs_loop rfl (fun E D H h => by
      refine Safe.loop' (W_internal_strconv_formatBase10.l1.L K) (fun E D H h => ?_) (fun k E D H h => ?_) E D H h
      · obtain ⟨w0, e0, g1⟩ := DG.out h; obtain ⟨A2, n2, m2, rfl, g2⟩ := DSl.out g1; obtain ⟨w1, e1, g3⟩ := DG.out g2; obtain ⟨x2, rfl, g4⟩ := DI.out g3; obtain ⟨w4, e4, g5⟩ := DG.out g4; obtain ⟨x3, rfl, g6⟩ := DI.out g5; obtain ⟨rfl, h'⟩ := DNilD.out g6; exact h'
      · obtain ⟨w0, e0, g1⟩ := DG.out h
        obtain ⟨A2, n2, m2, rfl, g2⟩ := DSl.out g1
        obtain ⟨w1, e1, g3⟩ := DG.out g2
        obtain ⟨x2, rfl, g4⟩ := DI.out g3
        obtain ⟨w4, e4, g5⟩ := DG.out g4
        obtain ⟨x3, rfl, g6⟩ := DI.out g5
        obtain ⟨rfl, h'⟩ := DNilD.out g6
        exact (hw_safe (Λ := (W_internal_strconv_formatBase10.Λ1 K (W_internal_strconv_formatBase10.l1 K k))) mixWlstrconv _ _ [(0, .slice A2 n2 m2), (1, .int .u64 x2), (4, .int .i64 x3)] [] H (Eq.mp (by kernel_rfl) h') (obs_seq (obs_seq obs_region rfl (obs_cond obs_skip obs_exit)) rfl (obs_block (obs_seq obs_region rfl (obs_seq obs_region rfl (obs_seq obs_region rfl (obs_seq obs_region rfl (obs_seq obs_region rfl (obs_seq obs_region rfl (obs_seq obs_region rfl (obs_seq obs_region rfl (obs_seq obs_region rfl obs_region)))))))))))).weaken (EnvLe.cons e0 (EnvLe.cons e1 (EnvLe.cons e4 (EnvLe.nil _)))) (Hp.le_refl _)))) rfl (obs_seq obs_region rfl (obs_seqc (obs_seq obs_region rfl (obs_cond (obs_seq obs_region rfl (obs_seq obs_region rfl (obs_seq obs_region rfl (obs_seq obs_region rfl (obs_seq obs_region rfl obs_region))))) obs_skip)) rfl (fun E D H h => by
      obtain ⟨w0, e0, g1⟩ := DG.out h
      obtain ⟨A3, n3, m3, rfl, g2⟩ := DSl.out g1
      obtain ⟨w4, e4, g3⟩ := DG.out g2
      obtain ⟨x16, rfl, g4⟩ := DI.out g3
      obtain ⟨w12, e12, g5⟩ := DG.out g4
      obtain ⟨x17, rfl, g6⟩ := DI.out g5
      obtain ⟨rfl, h'⟩ := DNilD.out g6
      exact (hw_safe (Λ := (W_internal_strconv_formatBase10.Λ K)) mixWlstrconv _ _ [(0, .slice A3 n3 m3), (4, .int .i64 x16), (12, .int .u32 x17)] [] H (Eq.mp (by kernel_rfl) h') (obs_seqc (obs_seq obs_region rfl (obs_cond (obs_seq obs_region rfl (obs_seq obs_region rfl (obs_seq obs_region rfl obs_region))) obs_skip)) rfl (fun E D H h => by
          obtain ⟨w0, e0, g1⟩ := DG.out h
          obtain ⟨A4, n4, m4, rfl, g2⟩ := DSl.out g1
          obtain ⟨w4, e4, g3⟩ := DG.out g2
          obtain ⟨x20, rfl, g4⟩ := DI.out g3
          obtain ⟨w12, e12, g5⟩ := DG.out g4
          obtain ⟨x21, rfl, g6⟩ := DI.out g5
          obtain ⟨rfl, h'⟩ := DNilD.out g6
          exact (hw_safe (Λ := (W_internal_strconv_formatBase10.Λ K)) mixWlstrconv _ _ [(0, .slice A4 n4 m4), (4, .int .i64 x20), (12, .int .u32 x21)] [] H (Eq.mp (by kernel_rfl) h') (obs_seq obs_region rfl (obs_cond obs_region obs_skip))).weaken (EnvLe.cons e0 (EnvLe.cons e4 (EnvLe.cons e12 (EnvLe.nil _)))) (Hp.le_refl _)))).weaken (EnvLe.cons e0 (EnvLe.cons e4 (EnvLe.cons e12 (EnvLe.nil _)))) (Hp.le_refl _)))))))

-- internal/strconv.lower
def W_internal_strconv_lower (x1 : Int) (H : Hp) (K : Value → Hp → Prop) : Prop :=
  K (.int .u8 (bOr .u8 x1 (32 : Int))) H
def W_internal_strconv_lower.Λ (_ : Value → Hp → Prop) : Cuts := Cuts.none (fun _ => none)
theorem W_internal_strconv_lower.ok (x1 : Int) (H : Hp) (K : Value → Hp → Prop) (h : W_internal_strconv_lower x1 H K) : HCalls Tryd.prog 159 #[.int .u8 x1] H K :=
  hcalls Tryd.func159 rfl (Nat.le_of_ble_eq_true rfl) (hw_safe (Λ := Cuts.none (fun _ => none)) mixWlstrconv _ _ _ _ _ (Eq.mp (by kernel_rfl) h) (obs_none _ _ _ _ _))

-- internal/strconv.underscoreOK
def W_internal_strconv_underscoreOK.j14 (K : Value → Hp → Prop) (R10 : ByteArray → Int → Int → Bool → Hp → Prop) (s4 : ByteArray) (x30 : Int) (x31 : Int) (c2 : Bool) (H : Hp) : Prop :=
  (0 ≤ x31 ∧ ixB s4 x31.toNat fun x32 => BIf (x32 == (95 : Int)) (BIf (x30 != (48 : Int)) (K (.bool false) H) (R10 s4 (95 : Int) (IntKind.i64.wrap (x31 + (1 : Int))) c2 H)) (BIf (x30 == (95 : Int)) (K (.bool false) H) (R10 s4 (33 : Int) (IntKind.i64.wrap (x31 + (1 : Int))) c2 H)))
def W_internal_strconv_underscoreOK.l10 (K : Value → Hp → Prop) : Nat → ByteArray → Int → Int → Bool → Hp → Prop
  | 0, _, _, _, _, _ => False
  | k + 1, s3, x18, x19, c1, H =>
    let R10 := W_internal_strconv_underscoreOK.l10 K k
    BIf (decide (x19 < ((s3.size : Nat) : Int))) ((0 ≤ x19 ∧ ixB s3 x19.toNat fun x20 => BIf (decide ((48 : Int) ≤ x20)) ((0 ≤ x19 ∧ ixB s3 x19.toNat fun x21 => BIf (decide (x21 ≤ (57 : Int))) (R10 s3 (48 : Int) (IntKind.i64.wrap (x19 + (1 : Int))) c1 H) (BIf c1 ((0 ≤ x19 ∧ ixB s3 x19.toNat fun x22 => HCalls Tryd.prog 159 #[.int .u8 x22] H fun v7 H7 => DI .u8 v7 fun x24 => BIf (decide ((97 : Int) ≤ x24)) ((0 ≤ x19 ∧ ixB s3 x19.toNat fun x26 => HCalls Tryd.prog 159 #[.int .u8 x26] H7 fun v9 H9 => DI .u8 v9 fun x28 => BIf (decide (x28 ≤ (102 : Int))) (R10 s3 (48 : Int) (IntKind.i64.wrap (x19 + (1 : Int))) c1 H9) (W_internal_strconv_underscoreOK.j14 K R10 s3 x18 x19 c1 H9))) (W_internal_strconv_underscoreOK.j14 K R10 s3 x18 x19 c1 H7))) (W_internal_strconv_underscoreOK.j14 K R10 s3 x18 x19 c1 H)))) (BIf c1 ((0 ≤ x19 ∧ ixB s3 x19.toNat fun x23 => HCalls Tryd.prog 159 #[.int .u8 x23] H fun v8 H8 => DI .u8 v8 fun x25 => BIf (decide ((97 : Int) ≤ x25)) ((0 ≤ x19 ∧ ixB s3 x19.toNat fun x27 => HCalls Tryd.prog 159 #[.int .u8 x27] H8 fun v10 H10 => DI .u8 v10 fun x29 => BIf (decide (x29 ≤ (102 : Int))) (R10 s3 (48 : Int) (IntKind.i64.wrap (x19 + (1 : Int))) c1 H10) (W_internal_strconv_underscoreOK.j14 K R10 s3 x18 x19 c1 H10))) (W_internal_strconv_underscoreOK.j14 K R10 s3 x18 x19 c1 H8))) (W_internal_strconv_underscoreOK.j14 K R10 s3 x18 x19 c1 H)))) (K (.bool (x18 != (95 : Int))) H)
def W_internal_strconv_underscoreOK.j5 (K : Value → Hp → Prop) (s2 : ByteArray) (x3 : Int) (x4 : Int) (H : Hp) : Prop :=
  BIf (decide (((s2.size : Nat) : Int) ≥ (2 : Int))) ((0 ≤ (0 : Int) ∧ ixB s2 (0 : Int).toNat fun x5 => BIf (x5 == (48 : Int)) ((0 ≤ (1 : Int) ∧ ixB s2 (1 : Int).toNat fun x6 => HCalls Tryd.prog 159 #[.int .u8 x6] H fun v1 H1 => DI .u8 v1 fun x7 => BIf (x7 == (98 : Int)) ((0 ≤ (1 : Int) ∧ ixB s2 (1 : Int).toNat fun x12 => HCalls Tryd.prog 159 #[.int .u8 x12] H1 fun v4 H4 => DI .u8 v4 fun x15 => (∃ k, W_internal_strconv_underscoreOK.l10 K k s2 (48 : Int) (2 : Int) (x15 == (120 : Int)) H4))) ((0 ≤ (1 : Int) ∧ ixB s2 (1 : Int).toNat fun x8 => HCalls Tryd.prog 159 #[.int .u8 x8] H1 fun v2 H2 => DI .u8 v2 fun x9 => BIf (x9 == (111 : Int)) ((0 ≤ (1 : Int) ∧ ixB s2 (1 : Int).toNat fun x13 => HCalls Tryd.prog 159 #[.int .u8 x13] H2 fun v5 H5 => DI .u8 v5 fun x16 => (∃ k, W_internal_strconv_underscoreOK.l10 K k s2 (48 : Int) (2 : Int) (x16 == (120 : Int)) H5))) ((0 ≤ (1 : Int) ∧ ixB s2 (1 : Int).toNat fun x10 => HCalls Tryd.prog 159 #[.int .u8 x10] H2 fun v3 H3 => DI .u8 v3 fun x11 => BIf (x11 == (120 : Int)) ((0 ≤ (1 : Int) ∧ ixB s2 (1 : Int).toNat fun x14 => HCalls Tryd.prog 159 #[.int .u8 x14] H3 fun v6 H6 => DI .u8 v6 fun x17 => (∃ k, W_internal_strconv_underscoreOK.l10 K k s2 (48 : Int) (2 : Int) (x17 == (120 : Int)) H6))) ((∃ k, W_internal_strconv_underscoreOK.l10 K k s2 x3 x4 false H3)))))))) ((∃ k, W_internal_strconv_underscoreOK.l10 K k s2 x3 x4 false H)))) ((∃ k, W_internal_strconv_underscoreOK.l10 K k s2 x3 x4 false H))
def W_internal_strconv_underscoreOK (s1 : ByteArray) (H : Hp) (K : Value → Hp → Prop) : Prop :=
  BIf (decide (((s1.size : Nat) : Int) ≥ (1 : Int))) ((0 ≤ (0 : Int) ∧ ixB s1 (0 : Int).toNat fun x1 => BIf (x1 == (45 : Int)) (slB s1.size s1.size (some (1 : Int)) none fun n1 n2 => W_internal_strconv_underscoreOK.j5 K (s1.extract n1 n2) (94 : Int) (0 : Int) H) ((0 ≤ (0 : Int) ∧ ixB s1 (0 : Int).toNat fun x2 => BIf (x2 == (43 : Int)) (slB s1.size s1.size (some (1 : Int)) none fun n3 n4 => W_internal_strconv_underscoreOK.j5 K (s1.extract n3 n4) (94 : Int) (0 : Int) H) (W_internal_strconv_underscoreOK.j5 K s1 (94 : Int) (0 : Int) H))))) (W_internal_strconv_underscoreOK.j5 K s1 (94 : Int) (0 : Int) H)
def W_internal_strconv_underscoreOK.l10.L (K : Value → Hp → Prop) (k : Nat) : Mid := fun E D H =>
  DG (E.get? 0) fun w0 => DS w0 fun s3 => DG (E.get? 3) fun w3 => DI .i32 w3 fun x18 => DG (E.get? 4) fun w4 => DI .i64 w4 fun x19 => DG (E.get? 5) fun w5 => DB w5 fun c1 => DNilD D (W_internal_strconv_underscoreOK.l10 K k s3 x18 x19 c1 H)
def W_internal_strconv_underscoreOK.Λ10 (K : Value → Hp → Prop) (R10 : ByteArray → Int → Int → Bool → Hp → Prop) : Cuts := ⟨fun i => match Nat.beq i 14 with | true => some (fun E D H => DG (E.get? 0) fun w0 => DS w0 fun s4 => DG (E.get? 3) fun w3 => DI .i32 w3 fun x30 => DG (E.get? 4) fun w4 => DI .i64 w4 fun x31 => DG (E.get? 5) fun w5 => DB w5 fun c2 => DNilD D (W_internal_strconv_underscoreOK.j14 K R10 s4 x30 x31 c2 H)) | false => none, fun i => none, (fun _ => none)⟩
def W_internal_strconv_underscoreOK.Λ (K : Value → Hp → Prop) : Cuts := ⟨fun i => match Nat.beq i 5 with | true => some (fun E D H => DG (E.get? 0) fun w0 => DS w0 fun s2 => DG (E.get? 3) fun w3 => DI .i32 w3 fun x3 => DG (E.get? 4) fun w4 => DI .i64 w4 fun x4 => DNilD D (W_internal_strconv_underscoreOK.j5 K s2 x3 x4 H)) | false => none, fun i => match Nat.beq i 10 with | true => some (fun E D H => ∃ k, W_internal_strconv_underscoreOK.l10.L K k E D H) | false => none, (fun _ => none)⟩
theorem W_internal_strconv_underscoreOK.ok (s1 : ByteArray) (H : Hp) (K : Value → Hp → Prop) (h : W_internal_strconv_underscoreOK s1 H K) : HCalls Tryd.prog 160 #[.string s1] H K :=
  hcalls Tryd.func160 rfl (Nat.le_of_ble_eq_true rfl) (hw_safe (Λ := (W_internal_strconv_underscoreOK.Λ K)) mixWlstrconv _ _ _ _ _ (Eq.mp (by kernel_rfl) h) (obs_seq obs_region rfl (obs_seq obs_region rfl (obs_seq obs_region rfl (obs_seqc (obs_seq obs_region rfl (obs_cond obs_region obs_skip)) rfl (fun E D H h => by
      obtain ⟨w0, e0, g1⟩ := DG.out h
      obtain ⟨s2, rfl, g2⟩ := DS.out g1
      obtain ⟨w3, e3, g3⟩ := DG.out g2
      obtain ⟨x3, rfl, g4⟩ := DI.out g3
      obtain ⟨w4, e4, g5⟩ := DG.out g4
      obtain ⟨x4, rfl, g6⟩ := DI.out g5
      obtain ⟨rfl, h'⟩ := DNilD.out g6
      exact (hw_safe (Λ := (W_internal_strconv_underscoreOK.Λ K)) mixWlstrconv _ _ [(0, .string s2), (3, .int .i32 x3), (4, .int .i64 x4)] [] H (Eq.mp (by kernel_rfl) h') (obs_seq obs_region rfl (obs_seq (obs_seq obs_region rfl (obs_cond (obs_seq obs_region rfl (obs_seq obs_region rfl obs_region)) obs_skip)) rfl (obs_seq (obs_block (obs_loop rfl (fun E D H h => by
          refine Safe.loop' (W_internal_strconv_underscoreOK.l10.L K) (fun E D H h => ?_) (fun k E D H h => ?_) E D H h
          · obtain ⟨w0, e0, g1⟩ := DG.out h; obtain ⟨s3, rfl, g2⟩ := DS.out g1; obtain ⟨w3, e3, g3⟩ := DG.out g2; obtain ⟨x18, rfl, g4⟩ := DI.out g3; obtain ⟨w4, e4, g5⟩ := DG.out g4; obtain ⟨x19, rfl, g6⟩ := DI.out g5; obtain ⟨w5, e5, g7⟩ := DG.out g6; obtain ⟨c1, rfl, g8⟩ := DB.out g7; obtain ⟨rfl, h'⟩ := DNilD.out g8; exact h'
          · obtain ⟨w0, e0, g1⟩ := DG.out h
            obtain ⟨s3, rfl, g2⟩ := DS.out g1
            obtain ⟨w3, e3, g3⟩ := DG.out g2
            obtain ⟨x18, rfl, g4⟩ := DI.out g3
            obtain ⟨w4, e4, g5⟩ := DG.out g4
            obtain ⟨x19, rfl, g6⟩ := DI.out g5
            obtain ⟨w5, e5, g7⟩ := DG.out g6
            obtain ⟨c1, rfl, g8⟩ := DB.out g7
            obtain ⟨rfl, h'⟩ := DNilD.out g8
            exact (hw_safe (Λ := (W_internal_strconv_underscoreOK.Λ10 K (W_internal_strconv_underscoreOK.l10 K k))) mixWlstrconv _ _ [(0, .string s3), (3, .int .i32 x18), (4, .int .i64 x19), (5, .bool c1)] [] H (Eq.mp (by kernel_rfl) h') (obs_seq (obs_seq obs_region rfl (obs_cond obs_skip obs_exit)) rfl (obs_seq (obs_block (obs_seqc (obs_seq obs_region rfl (obs_cond (obs_seq obs_region rfl obs_exit) obs_skip)) rfl (fun E D H h => by
                obtain ⟨w0, e0, g1⟩ := DG.out h
                obtain ⟨s4, rfl, g2⟩ := DS.out g1
                obtain ⟨w3, e3, g3⟩ := DG.out g2
                obtain ⟨x30, rfl, g4⟩ := DI.out g3
                obtain ⟨w4, e4, g5⟩ := DG.out g4
                obtain ⟨x31, rfl, g6⟩ := DI.out g5
                obtain ⟨w5, e5, g7⟩ := DG.out g6
                obtain ⟨c2, rfl, g8⟩ := DB.out g7
                obtain ⟨rfl, h'⟩ := DNilD.out g8
                exact (hw_safe (Λ := (W_internal_strconv_underscoreOK.Λ10 K (W_internal_strconv_underscoreOK.l10 K k))) mixWlstrconv _ _ [(0, .string s4), (3, .int .i32 x30), (4, .int .i64 x31), (5, .bool c2)] [] H (Eq.mp (by kernel_rfl) h') (obs_seq (obs_seq obs_region rfl (obs_cond (obs_seq (obs_seq obs_region rfl (obs_cond (obs_seq obs_region rfl obs_ret) obs_skip)) rfl (obs_seq obs_region rfl obs_exit)) obs_skip)) rfl (obs_seq (obs_seq obs_region rfl (obs_cond (obs_seq obs_region rfl obs_ret) obs_skip)) rfl obs_region))).weaken (EnvLe.cons e0 (EnvLe.cons e3 (EnvLe.cons e4 (EnvLe.cons e5 (EnvLe.nil _))))) (Hp.le_refl _)))) rfl obs_region))).weaken (EnvLe.cons e0 (EnvLe.cons e3 (EnvLe.cons e4 (EnvLe.cons e5 (EnvLe.nil _))))) (Hp.le_refl _)))) rfl (obs_seq obs_region rfl obs_ret))))).weaken (EnvLe.cons e0 (EnvLe.cons e3 (EnvLe.cons e4 (EnvLe.nil _)))) (Hp.le_refl _)))))))

-- internal/strconv.log10Pow2
def W_internal_strconv_log10Pow2 (x1 : Int) (H : Hp) (K : Value → Hp → Prop) : Prop :=
  (0 ≤ (18 : Int) ∧ K (.int .i64 (shrI .i64 (IntKind.i64.wrap (x1 * (78913 : Int))) (18 : Int))) H)
def W_internal_strconv_log10Pow2.Λ (_ : Value → Hp → Prop) : Cuts := Cuts.none (fun _ => none)
theorem W_internal_strconv_log10Pow2.ok (x1 : Int) (H : Hp) (K : Value → Hp → Prop) (h : W_internal_strconv_log10Pow2 x1 H K) : HCalls Tryd.prog 186 #[.int .i64 x1] H K :=
  hcalls Tryd.func186 rfl (Nat.le_of_ble_eq_true rfl) (hw_safe (Λ := Cuts.none (fun _ => none)) mixWlstrconv _ _ _ _ _ (Eq.mp (by kernel_rfl) h) (obs_none _ _ _ _ _))

-- internal/strconv.bool2[int]
def W_internal_strconv_bool2_int (c1 : Bool) (H : Hp) (K : Value → Hp → Prop) : Prop :=
  BIf c1 (K (.int .i64 (1 : Int)) H) (K (.int .i64 (0 : Int)) H)
def W_internal_strconv_bool2_int.Λ (_ : Value → Hp → Prop) : Cuts := Cuts.none (fun _ => none)
theorem W_internal_strconv_bool2_int.ok (c1 : Bool) (H : Hp) (K : Value → Hp → Prop) (h : W_internal_strconv_bool2_int c1 H K) : HCalls Tryd.prog 188 #[.bool c1] H K :=
  hcalls Tryd.func188 rfl (Nat.le_of_ble_eq_true rfl) (hw_safe (Λ := Cuts.none (fun _ => none)) mixWlstrconv _ _ _ _ _ (Eq.mp (by kernel_rfl) h) (obs_none _ _ _ _ _))

-- internal/strconv.isPowerOfTwo
def W_internal_strconv_isPowerOfTwo (x1 : Int) (H : Hp) (K : Value → Hp → Prop) : Prop :=
  K (.bool ((bAnd .i64 x1 (IntKind.i64.wrap (x1 - (1 : Int)))) == (0 : Int))) H
def W_internal_strconv_isPowerOfTwo.Λ (_ : Value → Hp → Prop) : Cuts := Cuts.none (fun _ => none)
theorem W_internal_strconv_isPowerOfTwo.ok (x1 : Int) (H : Hp) (K : Value → Hp → Prop) (h : W_internal_strconv_isPowerOfTwo x1 H K) : HCalls Tryd.prog 189 #[.int .i64 x1] H K :=
  hcalls Tryd.func189 rfl (Nat.le_of_ble_eq_true rfl) (hw_safe (Λ := Cuts.none (fun _ => none)) mixWlstrconv _ _ _ _ _ (Eq.mp (by kernel_rfl) h) (obs_none _ _ _ _ _))

-- strconv.Itoa
def W_strconv_Itoa (x1 : Int) (H : Hp) (K : Value → Hp → Prop) : Prop :=
  HCalls Tryd.prog 218 #[.int .i64 x1] H fun v1 H1 => DS v1 fun s1 => K (.string s1) H1
def W_strconv_Itoa.Λ (_ : Value → Hp → Prop) : Cuts := Cuts.none (fun _ => none)
theorem W_strconv_Itoa.ok (x1 : Int) (H : Hp) (K : Value → Hp → Prop) (h : W_strconv_Itoa x1 H K) : HCalls Tryd.prog 197 #[.int .i64 x1] H K :=
  hcalls Tryd.func197 rfl (Nat.le_of_ble_eq_true rfl) (hw_safe (Λ := Cuts.none (fun _ => none)) mixWlstrconv _ _ _ _ _ (Eq.mp (by kernel_rfl) h) (obs_none _ _ _ _ _))

-- internal/strconv.Itoa
def W_internal_strconv_Itoa (x1 : Int) (H : Hp) (K : Value → Hp → Prop) : Prop :=
  HCalls Tryd.prog 227 #[.int .i64 x1, .int .i64 (10 : Int)] H fun v1 H1 => DS v1 fun s1 => K (.string s1) H1
def W_internal_strconv_Itoa.Λ (_ : Value → Hp → Prop) : Cuts := Cuts.none (fun _ => none)
theorem W_internal_strconv_Itoa.ok (x1 : Int) (H : Hp) (K : Value → Hp → Prop) (h : W_internal_strconv_Itoa x1 H K) : HCalls Tryd.prog 218 #[.int .i64 x1] H K :=
  hcalls Tryd.func218 rfl (Nat.le_of_ble_eq_true rfl) (hw_safe (Λ := Cuts.none (fun _ => none)) mixWlstrconv _ _ _ _ _ (Eq.mp (by kernel_rfl) h) (obs_none _ _ _ _ _))

-- internal/strconv.FormatInt
def W_internal_strconv_FormatInt.j8 (K : Value → Hp → Prop) (x4 : Int) (a1 : Addr) (x5 : Int) (H : Hp) : Prop :=
  HCalls Tryd.prog 150 #[.int .u64 x5] H fun v2 H3 => DI .i64 v2 fun x6 => slB 24 24 (some (1 : Int)) (some (IntKind.i64.wrap ((1 : Int) + x6))) fun n1 n2 => HCalls Tryd.prog 151 #[.slice (slA (some a1) 24 n1 1) (n2 - n1) (24 - n1), .int .u64 x5] H3 fun v3 H4 => BIf (decide (x4 < (0 : Int))) (ixI (0 : Int) 24 (St H4 ((a1.add ((0 : Int).toNat * 1)).add 0) (.int .u8 (45 : Int)) fun H5 => slB 24 24 none (some (IntKind.i64.wrap ((1 : Int) + x6))) fun n3 n4 => BsK H5 (slA (some a1) 24 n3 1) (n4 - n3) fun s2 => K (.string s2) H5)) (slB 24 24 (some (1 : Int)) (some (IntKind.i64.wrap ((1 : Int) + x6))) fun n5 n6 => BsK H4 (slA (some a1) 24 n5 1) (n6 - n5) fun s3 => K (.string s3) H4)
def W_internal_strconv_FormatInt.j4 (K : Value → Hp → Prop) (x3 : Int) (H : Hp) : Prop :=
  Nw H (.obj (.cells #[.int .u8 (0 : Int), .int .u8 (0 : Int), .int .u8 (0 : Int), .int .u8 (0 : Int), .int .u8 (0 : Int), .int .u8 (0 : Int), .int .u8 (0 : Int), .int .u8 (0 : Int), .int .u8 (0 : Int), .int .u8 (0 : Int), .int .u8 (0 : Int), .int .u8 (0 : Int), .int .u8 (0 : Int), .int .u8 (0 : Int), .int .u8 (0 : Int), .int .u8 (0 : Int), .int .u8 (0 : Int), .int .u8 (0 : Int), .int .u8 (0 : Int), .int .u8 (0 : Int), .int .u8 (0 : Int), .int .u8 (0 : Int), .int .u8 (0 : Int), .int .u8 (0 : Int)] 256)) fun b1 H2 => BIf (decide (x3 < (0 : Int))) (W_internal_strconv_FormatInt.j8 K x3 (⟨b1, 0, none⟩ : Addr) (IntKind.u64.wrap (0 - (IntKind.u64.wrap x3))) H2) (W_internal_strconv_FormatInt.j8 K x3 (⟨b1, 0, none⟩ : Addr) (IntKind.u64.wrap x3) H2)
def W_internal_strconv_FormatInt (x1 : Int) (x2 : Int) (H : Hp) (K : Value → Hp → Prop) : Prop :=
  BIf (x2 == (10 : Int)) (BIf (decide ((0 : Int) ≤ x1)) (BIf (decide (x1 < (100 : Int))) (HCalls Tryd.prog 149 #[.int .i64 x1] H fun v1 H1 => DS v1 fun s1 => K (.string s1) H1) (W_internal_strconv_FormatInt.j4 K x1 H)) (W_internal_strconv_FormatInt.j4 K x1 H)) (HCalls Tryd.prog 152 #[.slice none 0 0, .int .u64 (IntKind.u64.wrap x1), .int .i64 x2, .bool (decide (x1 < (0 : Int))), .bool false] H fun v4 H6 => DTup v4 fun l1 => DCons l1 fun v5 l2 => DSl v5 fun A1 n7 m1 => DCons l2 fun v6 l3 => DS v6 fun s4 => DNil l3 (K (.string s4) H6))
def W_internal_strconv_FormatInt.Λ (K : Value → Hp → Prop) : Cuts := ⟨fun i => match Nat.beq i 8 with | true => some (fun E D H => DG (E.get? 0) fun w0 => DI .i64 w0 fun x4 => DG (E.get? 5) fun w5 => DP w5 fun pw5 => NN pw5 fun a1 => DG (E.get? 6) fun w6 => DI .u64 w6 fun x5 => DNilD D (W_internal_strconv_FormatInt.j8 K x4 a1 x5 H)) | false => match Nat.beq i 4 with | true => some (fun E D H => DG (E.get? 0) fun w0 => DI .i64 w0 fun x3 => DNilD D (W_internal_strconv_FormatInt.j4 K x3 H)) | false => none, fun i => none, (fun _ => none)⟩
theorem W_internal_strconv_FormatInt.ok (x1 : Int) (x2 : Int) (H : Hp) (K : Value → Hp → Prop) (h : W_internal_strconv_FormatInt x1 x2 H K) : HCalls Tryd.prog 227 #[.int .i64 x1, .int .i64 x2] H K :=
  hcalls Tryd.func227 rfl (Nat.le_of_ble_eq_true rfl) (hw_safe (Λ := (W_internal_strconv_FormatInt.Λ K)) mixWlstrconv _ _ _ _ _ (Eq.mp (by kernel_rfl) h) (obs_seq obs_region rfl (obs_seq (obs_seq obs_region rfl (obs_cond (obs_seqc (obs_seq obs_region rfl (obs_cond (obs_seq obs_region rfl obs_ret) obs_skip)) rfl (fun E D H h => by
      obtain ⟨w0, e0, g1⟩ := DG.out h
      obtain ⟨x3, rfl, g2⟩ := DI.out g1
      obtain ⟨rfl, h'⟩ := DNilD.out g2
      exact (hw_safe (Λ := (W_internal_strconv_FormatInt.Λ K)) mixWlstrconv _ _ [(0, .int .i64 x3)] [] H (Eq.mp (by kernel_rfl) h') (obs_seq obs_region rfl (obs_seq obs_region rfl (obs_seqc (obs_seq obs_region rfl (obs_cond obs_region obs_skip)) rfl (fun E D H h => by
          obtain ⟨w0, e0, g1⟩ := DG.out h
          obtain ⟨x4, rfl, g2⟩ := DI.out g1
          obtain ⟨w5, e5, g3⟩ := DG.out g2
          obtain ⟨pw5, rfl, g4⟩ := DP.out g3
          obtain ⟨a1, rfl, g5⟩ := NN.out g4
          obtain ⟨w6, e6, g6⟩ := DG.out g5
          obtain ⟨x5, rfl, g7⟩ := DI.out g6
          obtain ⟨rfl, h'⟩ := DNilD.out g7
          exact (hw_safe (Λ := (W_internal_strconv_FormatInt.Λ K)) mixWlstrconv _ _ [(0, .int .i64 x4), (5, .pointer (some a1)), (6, .int .u64 x5)] [] H (Eq.mp (by kernel_rfl) h') (obs_seq obs_region rfl (obs_seq obs_region rfl (obs_seq (obs_seq obs_region rfl (obs_cond (obs_seq obs_region rfl (obs_seq obs_region rfl obs_ret)) obs_skip)) rfl (obs_seq obs_region rfl obs_ret))))).weaken (EnvLe.cons e0 (EnvLe.cons e5 (EnvLe.cons e6 (EnvLe.nil _)))) (Hp.le_refl _)))))).weaken (EnvLe.cons e0 (EnvLe.nil _)) (Hp.le_refl _))) obs_skip)) rfl (obs_seq obs_region rfl (obs_seq obs_region rfl obs_ret)))))

end Go.Proofs.YtbnhfcdagoigkaaDoor.W

end
section
/-! Wabacistlaw38 -/
/- Formulas of functions, printed by wip/tools/hwp.py. -/
set_option maxRecDepth 100000
set_option linter.unusedVariables false
namespace Go.Proofs.YtbnhfcdagoigkaaDoor.W
open Go Go.Hw

theorem mixWabacistlaw38 : Tryd.prog.follows .mixedOrders = true := by kernel_rfl
-- abacistlaw38.GenLines
def W_abacistlaw38_GenLines.j19 (K : Value → Hp → Prop) (a4 : Addr) (s9 : ByteArray) (H : Hp) : Prop :=
  HCalls Tryd.prog 50 #[.string s9] H fun v23 H19 => DTup v23 fun l11 => DCons l11 fun v24 l12 => DA v24 fun y2 => DCons l12 fun v25 l13 => DI .i64 v25 fun x16 => DNil l13 (Nw H19 (.obj (.cells #[.int .i64 (0 : Int), .int .u64 (0 : Int), .int .u64 (0 : Int), .int .u64 (0 : Int)] 102)) fun b6 H20 => StA H20 (⟨b6, 0, none⟩ : Addr) y2 4 fun H21 => BIf (x16 == (0 : Int)) (LdA H21 (⟨b6, 0, none⟩ : Addr) 4 fun l14 => LdA H21 a4 4 fun l15 => EqV Tryd.prog .eql 102 (.agg l14.toArray) (.agg l15.toArray) fun c6 => K (.bool c6) H21) (K (.bool false) H21))
def W_abacistlaw38_GenLines.j17 (K : Value → Hp → Prop) (a2 : Addr) (s8 : ByteArray) (a3 : Addr) (H : Hp) : Prop :=
  Ld H (a2.add 0) fun v21 => DI .i64 v21 fun x14 => ixI x14 6 (Ld H (a3.add (x14.toNat * 1)) fun v22 => DI .i64 v22 fun x15 => BIf (decide (x15 < (2 : Int))) (St H ((a2.add 2).add 0) (.int .u64 (0 : Int)) fun H18 => W_abacistlaw38_GenLines.j19 K a2 s8 H18) (W_abacistlaw38_GenLines.j19 K a2 s8 H))
def W_abacistlaw38_GenLines.j9 (K : Value → Hp → Prop) (a1 : Addr) (s5 : ByteArray) (H : Hp) : Prop :=
  LdA H a1 4 fun l10 => HCalls Tryd.prog 51 #[.agg l10.toArray] H fun v10 H11 => DB v10 fun c5 => BIf (!c5) (K (.bool (s5.toList == ((⟨#[]⟩) : ByteArray).toList)) H11) (Nw H11 (.obj (.cells #[.string ByteArray.empty, .string ByteArray.empty, .string ByteArray.empty, .string ByteArray.empty, .string ByteArray.empty, .string ByteArray.empty] 107)) fun b3 H12 => StA H12 (⟨b3, 0, none⟩ : Addr) #[.string (⟨#[]⟩), .string (⟨#[99, 111, 110, 115, 116, 32]⟩), .string (⟨#[108, 105, 110, 101, 32]⟩), .string (⟨#[112, 111, 119, 101, 114, 32]⟩), .string (⟨#[99, 104, 97, 105, 110, 32]⟩), .string (⟨#[112, 117, 108, 115, 101, 32]⟩)] 6 fun H13 => Nw H13 (.obj (.cells #[.int .i64 (0 : Int), .int .i64 (0 : Int), .int .i64 (0 : Int), .int .i64 (0 : Int), .int .i64 (0 : Int), .int .i64 (0 : Int)] 108)) fun b4 H14 => StA H14 (⟨b4, 0, none⟩ : Addr) #[.int .i64 (0 : Int), .int .i64 (1 : Int), .int .i64 (2 : Int), .int .i64 (2 : Int), .int .i64 (3 : Int), .int .i64 (3 : Int)] 6 fun H15 => Ld H15 (a1.add 0) fun v11 => DI .i64 v11 fun x6 => ixI x6 6 (Ld H15 ((⟨b3, 0, none⟩ : Addr).add (x6.toNat * 1)) fun v12 => DS v12 fun s6 => Ld H15 (a1.add 1) fun v13 => DI .u64 v13 fun x7 => Ld H15 (a1.add 2) fun v14 => DI .u64 v14 fun x8 => Ld H15 (a1.add 3) fun v15 => DI .u64 v15 fun x9 => Ld H15 (a1.add 0) fun v16 => DI .i64 v16 fun x10 => ixI x10 6 (Ld H15 ((⟨b4, 0, none⟩ : Addr).add (x10.toNat * 1)) fun v17 => DI .i64 v17 fun x11 => Nw H15 (.row [.int .u64 x7, .int .u64 x8, .int .u64 x9] 22 3) fun b5 H16 => slB 3 3 none (some x11) fun n1 n2 => QCall Tryd.prog 36 #[.slice (slA (some ⟨b5, 0, none⟩) 3 n1 1) (n2 - n1) (3 - n1)] H16 fun v18 => DS v18 fun s7 => (s6.size + s7.size ≤ 4611686018427387904 ∧ BIf (!(s5.toList == (s6 ++ s7).toList)) (K (.bool false) H16) (Ld H16 (a1.add 0) fun v19 => DI .i64 v19 fun x12 => ixI x12 6 (Ld H16 ((⟨b4, 0, none⟩ : Addr).add (x12.toNat * 1)) fun v20 => DI .i64 v20 fun x13 => BIf (decide (x13 < (3 : Int))) (St H16 ((a1.add 3).add 0) (.int .u64 (0 : Int)) fun H17 => W_abacistlaw38_GenLines.j17 K a1 s5 (⟨b4, 0, none⟩ : Addr) H17) (W_abacistlaw38_GenLines.j17 K a1 s5 (⟨b4, 0, none⟩ : Addr) H16)))))))
def W_abacistlaw38_GenLines (x1 : Int) (x2 : Int) (x3 : Int) (x4 : Int) (s1 : ByteArray) (H : Hp) (K : Value → Hp → Prop) : Prop :=
  Nw H (.obj (.cells #[.int .i64 x1, .int .u64 x2, .int .u64 x3, .int .u64 x4] 102)) fun b1 H1 => HCalls Tryd.prog 48 #[] H1 fun v1 H2 => DB v1 fun c1 => BIf (!c1) (K (.bool false) H2) (BIf (decide (((s1.size : Nat) : Int) > (100 : Int))) (K (.bool true) H2) (LdA H2 (⟨b1, 0, none⟩ : Addr) 4 fun l1 => HCalls Tryd.prog 49 #[.agg l1.toArray] H2 fun v2 H3 => DS v2 fun s2 => HCalls Tryd.prog 50 #[.string s1] H3 fun v3 H4 => DTup v3 fun l2 => DCons l2 fun v4 l3 => DA v4 fun y1 => DCons l3 fun v5 l4 => DI .i64 v5 fun x5 => DNil l4 (Nw H4 (.obj (.cells #[.int .i64 (0 : Int), .int .u64 (0 : Int), .int .u64 (0 : Int), .int .u64 (0 : Int)] 102)) fun b2 H5 => StA H5 (⟨b2, 0, none⟩ : Addr) y1 4 fun H6 => BIf (x5 != (0 : Int)) (LdA H6 (⟨b2, 0, none⟩ : Addr) 4 fun l5 => EqV Tryd.prog .neq 102 (.agg l5.toArray) (.agg #[.int .i64 (0 : Int), .int .u64 (0 : Int), .int .u64 (0 : Int), .int .u64 (0 : Int)]) fun c2 => BIf c2 (K (.bool false) H6) (BIf (x5 == (0 : Int)) (LdA H6 (⟨b2, 0, none⟩ : Addr) 4 fun l6 => HCalls Tryd.prog 51 #[.agg l6.toArray] H6 fun v6 H7 => DB v6 fun c3 => BIf (!c3) (K (.bool false) H7) (LdA H7 (⟨b2, 0, none⟩ : Addr) 4 fun l8 => HCalls Tryd.prog 49 #[.agg l8.toArray] H7 fun v8 H9 => DS v8 fun s3 => BIf (!(s3.toList == s1.toList)) (K (.bool false) H9) (W_abacistlaw38_GenLines.j9 K (⟨b1, 0, none⟩ : Addr) s2 H9))) (W_abacistlaw38_GenLines.j9 K (⟨b1, 0, none⟩ : Addr) s2 H6))) (BIf (x5 == (0 : Int)) (LdA H6 (⟨b2, 0, none⟩ : Addr) 4 fun l7 => HCalls Tryd.prog 51 #[.agg l7.toArray] H6 fun v7 H8 => DB v7 fun c4 => BIf (!c4) (K (.bool false) H8) (LdA H8 (⟨b2, 0, none⟩ : Addr) 4 fun l9 => HCalls Tryd.prog 49 #[.agg l9.toArray] H8 fun v9 H10 => DS v9 fun s4 => BIf (!(s4.toList == s1.toList)) (K (.bool false) H10) (W_abacistlaw38_GenLines.j9 K (⟨b1, 0, none⟩ : Addr) s2 H10))) (W_abacistlaw38_GenLines.j9 K (⟨b1, 0, none⟩ : Addr) s2 H6)))))
def W_abacistlaw38_GenLines.Λ (K : Value → Hp → Prop) : Cuts := ⟨fun i => match Nat.beq i 19 with | true => some (fun E D H => DG (E.get? 2) fun w2 => DP w2 fun pw2 => NN pw2 fun a4 => DG (E.get? 5) fun w5 => DS w5 fun s9 => DNilD D (W_abacistlaw38_GenLines.j19 K a4 s9 H)) | false => match Nat.beq i 17 with | true => some (fun E D H => DG (E.get? 2) fun w2 => DP w2 fun pw2 => NN pw2 fun a2 => DG (E.get? 5) fun w5 => DS w5 fun s8 => DG (E.get? 9) fun w9 => DP w9 fun pw9 => NN pw9 fun a3 => DNilD D (W_abacistlaw38_GenLines.j17 K a2 s8 a3 H)) | false => match Nat.beq i 9 with | true => some (fun E D H => DG (E.get? 2) fun w2 => DP w2 fun pw2 => NN pw2 fun a1 => DG (E.get? 5) fun w5 => DS w5 fun s5 => DNilD D (W_abacistlaw38_GenLines.j9 K a1 s5 H)) | false => none, fun i => none, (fun i => match Nat.beq i 13 with | true => some ([2, 4, 6, 8, 10, 13, 15, 17], [0, 0, 2, 6, 14, 0, 32, 0, 128, 0, 512, 2016, 0, 4096, 12288, 28672, 65504, 131040, 262142, 524287], 0) | false => none)⟩
theorem W_abacistlaw38_GenLines.ok (x1 : Int) (x2 : Int) (x3 : Int) (x4 : Int) (s1 : ByteArray) (H : Hp) (K : Value → Hp → Prop) (h : W_abacistlaw38_GenLines x1 x2 x3 x4 s1 H K) : HCalls Tryd.prog 11 #[.agg #[.int .i64 x1, .int .u64 x2, .int .u64 x3, .int .u64 x4], .string s1] H K :=
  hcalls Tryd.func11 rfl (Nat.le_of_ble_eq_true rfl) (hw_safe (Λ := (W_abacistlaw38_GenLines.Λ K)) mixWabacistlaw38 _ _ _ _ _ (Eq.mp (by kernel_rfl) h) (obs_seq obs_region rfl (obs_seq (obs_seq obs_region rfl (obs_cond (obs_seq obs_region rfl obs_ret) obs_skip)) rfl (obs_seq (obs_seq obs_region rfl (obs_cond (obs_seq obs_region rfl obs_ret) obs_skip)) rfl (obs_seq obs_region rfl (obs_seq obs_region rfl (obs_seqc (obs_seq obs_region rfl (obs_cond (obs_seq obs_region rfl obs_ret) obs_skip)) rfl (fun E D H h => by
      obtain ⟨w2, e2, g1⟩ := DG.out h
      obtain ⟨pw2, rfl, g2⟩ := DP.out g1
      obtain ⟨a1, rfl, g3⟩ := NN.out g2
      obtain ⟨w5, e5, g4⟩ := DG.out g3
      obtain ⟨s5, rfl, g5⟩ := DS.out g4
      obtain ⟨rfl, h'⟩ := DNilD.out g5
      exact (hw_safe (Λ := (W_abacistlaw38_GenLines.Λ K)) mixWabacistlaw38 _ _ [(2, .pointer (some a1)), (5, .string s5)] [] H (Eq.mp (by kernel_rfl) h') (obs_seq (obs_seq obs_region rfl (obs_cond (obs_seq obs_region rfl obs_ret) obs_skip)) rfl (obs_seq obs_region rfl (obs_seq obs_region rfl (obs_seq (obs_seq obs_region rfl (obs_cond (obs_seq obs_region rfl obs_ret) obs_skip)) rfl (obs_seqc (obs_seq obs_region rfl (obs_cond obs_region obs_skip)) rfl (fun E D H h => by
          obtain ⟨w2, e2, g1⟩ := DG.out h
          obtain ⟨pw2, rfl, g2⟩ := DP.out g1
          obtain ⟨a2, rfl, g3⟩ := NN.out g2
          obtain ⟨w5, e5, g4⟩ := DG.out g3
          obtain ⟨s8, rfl, g5⟩ := DS.out g4
          obtain ⟨w9, e9, g6⟩ := DG.out g5
          obtain ⟨pw9, rfl, g7⟩ := DP.out g6
          obtain ⟨a3, rfl, g8⟩ := NN.out g7
          obtain ⟨rfl, h'⟩ := DNilD.out g8
          exact (hw_safe (Λ := (W_abacistlaw38_GenLines.Λ K)) mixWabacistlaw38 _ _ [(2, .pointer (some a2)), (5, .string s8), (9, .pointer (some a3))] [] H (Eq.mp (by kernel_rfl) h') (obs_seqc (obs_seq obs_region rfl (obs_cond obs_region obs_skip)) rfl (fun E D H h => by
              obtain ⟨w2, e2, g1⟩ := DG.out h
              obtain ⟨pw2, rfl, g2⟩ := DP.out g1
              obtain ⟨a4, rfl, g3⟩ := NN.out g2
              obtain ⟨w5, e5, g4⟩ := DG.out g3
              obtain ⟨s9, rfl, g5⟩ := DS.out g4
              obtain ⟨rfl, h'⟩ := DNilD.out g5
              exact (hw_safe (Λ := (W_abacistlaw38_GenLines.Λ K)) mixWabacistlaw38 _ _ [(2, .pointer (some a4)), (5, .string s9)] [] H (Eq.mp (by kernel_rfl) h') (obs_seq obs_region rfl (obs_seq obs_region rfl obs_ret))).weaken (EnvLe.cons e2 (EnvLe.cons e5 (EnvLe.nil _))) (Hp.le_refl _)))).weaken (EnvLe.cons e2 (EnvLe.cons e5 (EnvLe.cons e9 (EnvLe.nil _)))) (Hp.le_refl _)))))))).weaken (EnvLe.cons e2 (EnvLe.cons e5 (EnvLe.nil _))) (Hp.le_refl _)))))))))

-- abacistlaw38.awake
def W_abacistlaw38_awake (H : Hp) (K : Value → Hp → Prop) : Prop :=
  HCalls Tryd.prog 90 #[.agg #[.int .i64 (2 : Int), .int .u64 (3 : Int), .int .u64 (2 : Int), .int .u64 (0 : Int)], .int .i64 (4 : Int)] H fun v1 H1 => DTup v1 fun l1 => DCons l1 fun v2 l2 => DSl v2 fun A1 n1 m1 => DCons l2 fun v3 l3 => DI .i64 v3 fun x1 => DNil l3 (BIf (x1 == (0 : Int)) (Nw H1 (.row [.int .u64 (3 : Int), .int .u64 (5 : Int), .int .u64 (7 : Int), .int .u64 (9 : Int)] 22 4) fun b1 H2 => HCalls Tryd.prog 27 #[.slice A1 n1 m1, .slice (some ⟨b1, 0, none⟩) 4 4] H2 fun v4 H3 => DB v4 fun c1 => BIf c1 (HCalls Tryd.prog 49 #[.agg #[.int .i64 (3 : Int), .int .u64 (1 : Int), .int .u64 (7 : Int), .int .u64 (0 : Int)]] H3 fun v5 H4 => DS v5 fun s1 => K (.bool (s1.toList == ((⟨#[112, 111, 119, 101, 114, 32, 49, 32, 55]⟩) : ByteArray).toList)) H4) (K (.bool false) H3)) (K (.bool false) H1))
def W_abacistlaw38_awake.Λ (_ : Value → Hp → Prop) : Cuts := Cuts.none (fun _ => none)
theorem W_abacistlaw38_awake.ok (H : Hp) (K : Value → Hp → Prop) (h : W_abacistlaw38_awake H K) : HCalls Tryd.prog 48 #[] H K :=
  hcalls Tryd.func48 rfl (Nat.le_of_ble_eq_true rfl) (hw_safe (Λ := Cuts.none (fun _ => none)) mixWabacistlaw38 _ _ _ _ _ (Eq.mp (by kernel_rfl) h) (obs_none _ _ _ _ _))

end Go.Proofs.YtbnhfcdagoigkaaDoor.W

end
section
/-! GenE -/
/- gen: a rule's line, of small numbers; the law's first look. -/
set_option maxRecDepth 100000
set_option linter.unusedSimpArgs false
set_option linter.unusedVariables false
set_option linter.unnecessarySimpa false
set_option linter.unusedSectionVars false
namespace Go.Proofs.YtbnhfcdagoigkaaDoor.Gen
open Go Go.Hw Go.Proofs.YtbnhfcdagoigkaaDoor.W Go.Proofs.YtbnhfcdagoigkaaDoor.Gol

theorem LdA_two {H : Hp} {g off : Nat} {u v : Value} {K : List Value → Prop} (h1 : H.cell? ⟨g, off, none⟩ = some u) (h2 : H.cell? ⟨g, off + 1, none⟩ = some v) (k : K [u, v]) : LdA H ⟨g, off, none⟩ 2 K := by
  have e0 : (⟨g, off, none⟩ : Addr).add 0 = ⟨g, off, none⟩ := by rw [Addr.add_lit']; rfl
  have e1 : (⟨g, off, none⟩ : Addr).add (0 + 1) = ⟨g, off + 1, none⟩ := by rw [Addr.add_lit']
  unfold LdA Hp.cells? Hp.cells? Hp.cells?
  rw [e0, e1, h1, h2]
  exact k

/-- Small numbers' texts. -/
theorem small_ok (x : Nat) (hx : x < 10) (H : Hp) : HCalls Tryd.prog 149 #[.int .i64 (x : Int)] H (RetE (.string ⟨#[UInt8.ofNat (48 + x)]⟩) H) := by
  apply W_internal_strconv_small.ok
  unfold W_internal_strconv_small
  refine BIf_dpos (by omega) ?_
  rw [i64w (x := (x : Int) + 1) (by omega) (by omega)]
  refine ⟨by omega, by show (x : Int) + 1 ≤ 36; omega, by omega, by omega, ?_⟩
  rw [show ((x : Int) + 1).toNat = x + 1 by omega, Int.toNat_natCast]
  have : ∀ y, y < 10 → ((⟨#[48, 49, 50, 51, 52, 53, 54, 55, 56, 57, 97, 98, 99, 100, 101, 102, 103, 104, 105, 106, 107, 108, 109, 110, 111, 112, 113, 114, 115, 116, 117, 118, 119, 120, 121, 122]⟩ : ByteArray).extract y (y + 1)) = ⟨#[UInt8.ofNat (48 + y)]⟩ := by decide
  exact ⟨congrArg Value.string (this x hx), rfl⟩
theorem Format_ok (x : Nat) (hx : x < 10) (H : Hp) : HCalls Tryd.prog 77 #[.int .u64 (x : Int), .int .i64 10] H (RetE (.string ⟨#[UInt8.ofNat (48 + x)]⟩) H) := by
  apply W_strconv_FormatUint.ok
  unfold W_strconv_FormatUint
  have h : HCalls Tryd.prog 115 #[.int .u64 (x : Int), .int .i64 10] H (RetE (.string ⟨#[UInt8.ofNat (48 + x)]⟩) H) := by
    apply W_internal_strconv_FormatUint.ok
    unfold W_internal_strconv_FormatUint
    refine BIf_beqp rfl (BIf_dpos (by omega) ?_)
    rw [i64n (by omega)]
    refine HCalls.use (small_ok x hx H) ?_
    simp only [DI_int', DB_bool, DS_string, DP_pointer, DSl_slice, DM_map, DA_agg, DTup_tuple, DCons_cons, DNil_nil, NN_some, BIf_true, BIf_false, BIf_same, List.toList_toArray, Bool.not_true, Bool.not_false]
    exact RetE.mk _ _
  refine HCalls.use h ?_
  simp only [DI_int', DB_bool, DS_string, DP_pointer, DSl_slice, DM_map, DA_agg, DTup_tuple, DCons_cons, DNil_nil, NN_some, BIf_true, BIf_false, BIf_same, List.toList_toArray, Bool.not_true, Bool.not_false]
  exact RetE.mk _ _

theorem cell_str : cellInfo Tryd.prog 9 = some (1, 16, some #[.string ByteArray.empty]) := by kernel_rfl

/-- Two small numbers' text. -/
theorem Text_two (A : Option Addr) (m : Nat) (x y : Nat) (hx : x < 10) (hy : y < 10) (H : Hp) (hc : Cells H A (natV [x, y])) :
    HCalls Tryd.prog 33 #[.slice A 2 m] H (RetE (.string ⟨#[UInt8.ofNat (48 + x), 32, UInt8.ofNat (48 + y)]⟩) H) := HCalls.ret (by
  apply W_codec_Text.ok
  unfold W_codec_Text
  have hs := Sep.start H
  have hs : Sep [own H, Own 9 1 none 0 0 []] H := by
    have : Sep (Own 9 1 none 0 0 [] :: [own H]) H := ⟨fun _ => none, H, fun _ _ h => (nomatch h), Hp.le_refl _, fun _ => .inl rfl, Own.none _ _ _, hs⟩
    exact this.re [1, 0] rfl
  refine ⟨3, ?_⟩
  unfold W_codec_Text.l3
  refine BIf_dpos (by decide) ?_
  refine hc.read (i := 0) rfl rfl (by rw [natV_length]; exact Nat.le_refl _) ?_
  simp only [DI_int', DB_bool, DS_string, DP_pointer, DSl_slice, DM_map, DA_agg, DTup_tuple, DCons_cons, DNil_nil, NN_some, BIf_true, BIf_false, BIf_same, List.toList_toArray, Bool.not_true, Bool.not_false]
  refine HCalls.use (Format_ok x hx H) ?_
  simp only [DI_int', DB_bool, DS_string, DP_pointer, DSl_slice, DM_map, DA_agg, DTup_tuple, DCons_cons, DNil_nil, NN_some, BIf_true, BIf_false, BIf_same, List.toList_toArray, Bool.not_true, Bool.not_false]
  refine Nw_cap ?_
  refine hs.app1 1 rfl cell_str (by omega) rfl (by omega) (by omega) fun A' m' H1 hs hcap => ?_
  simp only [DI_int', DB_bool, DS_string, DP_pointer, DSl_slice, DM_map, DA_agg, DTup_tuple, DCons_cons, DNil_nil, NN_some, BIf_true, BIf_false, BIf_same, List.toList_toArray, Bool.not_true, Bool.not_false]
  rw [show IntKind.i64.wrap ((0 : Int) + 1) = 1 by decide]
  unfold W_codec_Text.l3
  refine BIf_dpos (by decide) ?_
  refine (hc.le (hs.ow 0 rfl)).read (i := 1) rfl rfl (by rw [natV_length]; exact Nat.le_refl _) ?_
  simp only [DI_int', DB_bool, DS_string, DP_pointer, DSl_slice, DM_map, DA_agg, DTup_tuple, DCons_cons, DNil_nil, NN_some, BIf_true, BIf_false, BIf_same, List.toList_toArray, Bool.not_true, Bool.not_false]
  refine HCalls.use (Format_ok y hy H1) ?_
  simp only [DI_int', DB_bool, DS_string, DP_pointer, DSl_slice, DM_map, DA_agg, DTup_tuple, DCons_cons, DNil_nil, NN_some, BIf_true, BIf_false, BIf_same, List.toList_toArray, Bool.not_true, Bool.not_false]
  refine Nw_cap ?_
  refine hs.app1 1 rfl cell_str (by omega) rfl (by omega) (by omega) fun A' m' H1 hs hcap => ?_
  simp only [DI_int', DB_bool, DS_string, DP_pointer, DSl_slice, DM_map, DA_agg, DTup_tuple, DCons_cons, DNil_nil, NN_some, BIf_true, BIf_false, BIf_same, List.toList_toArray, Bool.not_true, Bool.not_false]
  rw [show IntKind.i64.wrap ((1 : Int) + 1) = 2 by decide]
  unfold W_codec_Text.l3
  refine BIf_dneg (by decide) ?_
  rcases hs.unown 1 rfl with ⟨_, h0, _⟩ | ⟨b, mm, rfl, hmm, hl, hs⟩
  · omega
  have hb := hs.get 1 rfl
  have hm' : 2 ≤ m' := hcap _ _ _ rfl
  refine HCalls.use (Join_hc (b := b) (m := m') (mm := mm) (e := 9) (H := H1) [⟨#[UInt8.ofNat (48 + x)]⟩, ⟨#[UInt8.ofNat (48 + y)]⟩] ⟨#[32]⟩ hb hm' (by show 2 ≤ _; omega) (by show 3 ≤ _; omega)) ?_
  simp only [DI_int', DB_bool, DS_string, DP_pointer, DSl_slice, DM_map, DA_agg, DTup_tuple, DCons_cons, DNil_nil, NN_some, BIf_true, BIf_false, BIf_same, List.toList_toArray, Bool.not_true, Bool.not_false]
  exact hs.fin 0 rfl _)

/-- What the laid tables hold. -/
def kindV : List Value := [.string ⟨#[]⟩, .int .i64 0, .string ⟨#[99, 111, 110, 115, 116]⟩, .int .i64 1, .string ⟨#[108, 105, 110, 101]⟩, .int .i64 2, .string ⟨#[112, 111, 119, 101, 114]⟩, .int .i64 2, .string ⟨#[99, 104, 97, 105, 110]⟩, .int .i64 3, .string ⟨#[112, 117, 108, 115, 101]⟩, .int .i64 3]
def Kinds (H : Hp) : Prop := Cells H (some ⟨1, 0, none⟩) kindV
theorem Kinds.le {H H' : Hp} (h : Kinds H) (k : H.le H') : Kinds H' := Cells.le h k

theorem Line_1_7 (H : Hp) (hK : Kinds H) : HCalls Tryd.prog 49 #[.agg #[.int .i64 3, .int .u64 1, .int .u64 7, .int .u64 0]] H (RetE (.string ⟨#[112, 111, 119, 101, 114, 32, 49, 32, 55]⟩) H) := HCalls.ret (by
  apply W_gen_Line.ok
  unfold W_gen_Line
  refine (Sep.start H).nw fun b1 H1 hs => ?_
  refine hs.ldw 1 rfl rfl ?_
  refine HCalls.use (Good_ok 3 1 7 0 H1) ?_
  rw [goodR_yes (k := 3) (a := 1) (b := 7) (c := 0) ⟨by omega, by omega, by omega, by omega, by omega, fun h => by omega⟩]
  simp only [DI_int', DB_bool, DS_string, DP_pointer, DSl_slice, DM_map, DA_agg, DTup_tuple, DCons_cons, DNil_nil, NN_some, BIf_true, BIf_false, BIf_same, List.toList_toArray, Bool.not_true, Bool.not_false]
  first | refine hs.ldf 1 rfl rfl ?_ | refine hs.ldg 1 rfl rfl ?_
  try simp only [DI_int', DB_bool, DS_string, DP_pointer, DSl_slice, DM_map, DA_agg, DTup_tuple, DCons_cons, DNil_nil, NN_some, BIf_true, BIf_false, BIf_same, List.toList_toArray, Bool.not_true, Bool.not_false]
  refine ⟨by decide, by decide, ?_⟩
  have hk := hK.le (hs.ow 0 rfl)
  have g1 : H1.cell? ⟨1, 6, none⟩ = some (.string ⟨#[112, 111, 119, 101, 114]⟩) := by
    obtain ⟨a, ha, hc⟩ := hk 6 _ rfl
    cases ha
    rw [Addr.add_lit'] at hc
    exact hc
  have g2 : H1.cell? ⟨1, 6 + 1, none⟩ = some (.int .i64 2) := by
    obtain ⟨a, ha, hc⟩ := hk 7 _ rfl
    cases ha
    rw [Addr.add_lit'] at hc
    exact hc
  rw [Addr.add_lit']
  refine LdA_two g1 g2 ?_
  refine hs.nw fun b2 H1 hs => ?_
  refine hs.stw 2 rfl rfl rfl rfl fun H1 hs => ?_
  first | refine hs.ldf 1 rfl rfl ?_ | refine hs.ldg 1 rfl rfl ?_
  try simp only [DI_int', DB_bool, DS_string, DP_pointer, DSl_slice, DM_map, DA_agg, DTup_tuple, DCons_cons, DNil_nil, NN_some, BIf_true, BIf_false, BIf_same, List.toList_toArray, Bool.not_true, Bool.not_false]
  first | refine hs.ldf 1 rfl rfl ?_ | refine hs.ldg 1 rfl rfl ?_
  try simp only [DI_int', DB_bool, DS_string, DP_pointer, DSl_slice, DM_map, DA_agg, DTup_tuple, DCons_cons, DNil_nil, NN_some, BIf_true, BIf_false, BIf_same, List.toList_toArray, Bool.not_true, Bool.not_false]
  first | refine hs.ldf 1 rfl rfl ?_ | refine hs.ldg 1 rfl rfl ?_
  try simp only [DI_int', DB_bool, DS_string, DP_pointer, DSl_slice, DM_map, DA_agg, DTup_tuple, DCons_cons, DNil_nil, NN_some, BIf_true, BIf_false, BIf_same, List.toList_toArray, Bool.not_true, Bool.not_false]
  first | refine hs.ldf 2 rfl rfl ?_ | refine hs.ldg 2 rfl rfl ?_
  try simp only [DI_int', DB_bool, DS_string, DP_pointer, DSl_slice, DM_map, DA_agg, DTup_tuple, DCons_cons, DNil_nil, NN_some, BIf_true, BIf_false, BIf_same, List.toList_toArray, Bool.not_true, Bool.not_false]
  have txt : ∀ {b H1}, Sep [own H, pts b1 (ruleO 3 1 7 0), pts b2 (.obj (.cells #[.string ⟨#[112, 111, 119, 101, 114]⟩, .int .i64 2] 170)), pts b (.row [.int .u64 1, .int .u64 7, .int .u64 0] 22 3)] H1 →
      HCalls Tryd.prog 33 #[.slice (slA (some ⟨b, 0, none⟩) 3 0 1) (2 - 0) (3 - 0)] H1 (RetE (.string ⟨#[49, 32, 55]⟩) H1) := fun {b H1} hs => by
    rw [slA_zero]
    refine Text_two (some ⟨b, 0, none⟩) 3 1 7 (by omega) (by omega) H1 ?_
    have := Cells.row (hs.get 3 rfl) 0 2
    exact this
  refine ⟨?_, ?_⟩
  · first | refine hs.ldf 2 rfl rfl ?_ | refine hs.ldg 2 rfl rfl ?_
    try simp only [DI_int', DB_bool, DS_string, DP_pointer, DSl_slice, DM_map, DA_agg, DTup_tuple, DCons_cons, DNil_nil, NN_some, BIf_true, BIf_false, BIf_same, List.toList_toArray, Bool.not_true, Bool.not_false]
    refine ⟨by decide, hs.nw fun b3 H1 hs => slB_to (r := 2) rfl (by omega) ?_⟩
    refine HCalls.use (txt hs) ?_
    simp only [DI_int', DB_bool, DS_string, DP_pointer, DSl_slice, DM_map, DA_agg, DTup_tuple, DCons_cons, DNil_nil, NN_some, BIf_true, BIf_false, BIf_same, List.toList_toArray, Bool.not_true, Bool.not_false]
    exact ⟨by decide, hs.fin 0 rfl _⟩
  · refine hs.nw fun b3 H1 hs => slB_to (r := 2) rfl (by omega) ⟨?_, ?_⟩
    · first | refine hs.ldf 2 rfl rfl ?_ | refine hs.ldg 2 rfl rfl ?_
      try simp only [DI_int', DB_bool, DS_string, DP_pointer, DSl_slice, DM_map, DA_agg, DTup_tuple, DCons_cons, DNil_nil, NN_some, BIf_true, BIf_false, BIf_same, List.toList_toArray, Bool.not_true, Bool.not_false]
      refine ⟨by decide, ?_⟩
      refine HCalls.use (txt hs) ?_
      simp only [DI_int', DB_bool, DS_string, DP_pointer, DSl_slice, DM_map, DA_agg, DTup_tuple, DCons_cons, DNil_nil, NN_some, BIf_true, BIf_false, BIf_same, List.toList_toArray, Bool.not_true, Bool.not_false]
      exact ⟨by decide, hs.fin 0 rfl _⟩
    · refine HCalls.use (txt hs) ?_
      simp only [DI_int', DB_bool, DS_string, DP_pointer, DSl_slice, DM_map, DA_agg, DTup_tuple, DCons_cons, DNil_nil, NN_some, BIf_true, BIf_false, BIf_same, List.toList_toArray, Bool.not_true, Bool.not_false]
      first | refine hs.ldf 2 rfl rfl ?_ | refine hs.ldg 2 rfl rfl ?_
      try simp only [DI_int', DB_bool, DS_string, DP_pointer, DSl_slice, DM_map, DA_agg, DTup_tuple, DCons_cons, DNil_nil, NN_some, BIf_true, BIf_false, BIf_same, List.toList_toArray, Bool.not_true, Bool.not_false]
      exact ⟨by decide, by decide, hs.fin 0 rfl _⟩)

theorem awake_ok (H : Hp) (hK : Kinds H) : HCalls Tryd.prog 48 #[] H (RetE (.bool true) H) := HCalls.ret (by
  apply W_abacistlaw38_awake.ok
  unfold W_abacistlaw38_awake
  have hs := Sep.start H
  have hg : goodR 2 3 2 0 = true := goodR_yes ⟨by omega, by omega, by omega, by omega, by omega, fun h => by omega⟩
  refine (Row_tr (k := 2) (a := 3) (b := 2) (c := 0) (n := 4) hg (by omega)).use hs [] rfl rfl ?_
  rintro _ _ H1 ⟨bo, mm, rfl, rfl⟩ hs
  simp only [DI_int', DB_bool, DS_string, DP_pointer, DSl_slice, DM_map, DA_agg, DTup_tuple, DCons_cons, DNil_nil, NN_some, BIf_true, BIf_false, BIf_same, List.toList_toArray, Bool.not_true, Bool.not_false]
  refine BIf_beqp rfl ?_
  refine hs.nw fun b1 H1 hs => ?_
  have hv : vals 2 3 2 0 0 4 = [3, 5, 7, 9] := by decide
  rw [hv] at hs
  have c1 : Cells H1 (some ⟨bo, 0, none⟩) (natV [3, 5, 7, 9]) := by
    have := Cells.row (hs.get 0 rfl) 0 4
    exact this
  have c2 : Cells H1 (some ⟨b1, 0, none⟩) (natV [3, 5, 7, 9]) := by
    have := Cells.row (hs.get 2 rfl) 0 4
    exact this
  refine HCalls.use (Same_ok (some ⟨bo, 0, none⟩) (some ⟨b1, 0, none⟩) 4 4 4 [3, 5, 7, 9] rfl (by omega) H1 c1 c2) ?_
  simp only [DI_int', DB_bool, DS_string, DP_pointer, DSl_slice, DM_map, DA_agg, DTup_tuple, DCons_cons, DNil_nil, NN_some, BIf_true, BIf_false, BIf_same, List.toList_toArray, Bool.not_true, Bool.not_false]
  refine HCalls.use (Line_1_7 H1 (hK.le (hs.ow 1 rfl))) ?_
  simp only [DI_int', DB_bool, DS_string, DP_pointer, DSl_slice, DM_map, DA_agg, DTup_tuple, DCons_cons, DNil_nil, NN_some, BIf_true, BIf_false, BIf_same, List.toList_toArray, Bool.not_true, Bool.not_false]
  rw [beq_self_eq_true]
  exact hs.fin 1 rfl _)

end Go.Proofs.YtbnhfcdagoigkaaDoor.Gen

end
section
/-! CodA -/
/- wide: numbers of two words: times a small power of two, sums. -/
set_option maxRecDepth 100000
set_option linter.unusedSimpArgs false
set_option linter.unusedVariables false
set_option linter.unnecessarySimpa false
set_option linter.unusedSectionVars false
namespace Go.Proofs.YtbnhfcdagoigkaaDoor.Cod
open Go Go.Hw Go.Proofs.YtbnhfcdagoigkaaDoor.W Go.Proofs.YtbnhfcdagoigkaaDoor.Gol Go.Proofs.YtbnhfcdagoigkaaDoor.Gen

/-- A number of two words. -/
def wA (N : Nat) : Array Value := #[.int .u64 ((N / 18446744073709551616 : Nat) : Int), .int .u64 ((N % 18446744073709551616 : Nat) : Int)]

theorem or_add (n x y : Nat) (h : y < 2 ^ n) : x * 2 ^ n ||| y = x * 2 ^ n + y := by
  have := Nat.shiftLeft_add_eq_or_of_lt h x
  rw [Nat.shiftLeft_eq] at this
  exact this.symm

theorem Shl_ok (N n : Nat) (k : Int) (hk : (k = 1 ∧ n = 1) ∨ (k = 3 ∧ n = 3)) (hN : N * 2 ^ n < 340282366920938463463374607431768211456) (H : Hp) :
    HCalls Tryd.prog 121 #[.agg (wA N), .int .i64 k] H (RetE (.agg (wA (N * 2 ^ n))) H) := HCalls.ret (by
  unfold wA
  apply W_wide_Shl.ok
  unfold W_wide_Shl
  refine (Sep.start H).nw fun b1 H1 hs => ?_
  refine hs.nw fun b2 H1 hs => ?_
  rcases hk with ⟨rfl, rfl⟩ | ⟨rfl, rfl⟩
  · refine BIf_dneg (by decide) (BIf_dneg (by decide) ?_)
    first | refine hs.ldf 1 rfl rfl ?_ | refine hs.ldg 1 rfl rfl ?_
    try simp only [DI_int', DB_bool, DS_string, DP_pointer, DSl_slice, DM_map, DA_agg, DTup_tuple, DCons_cons, DNil_nil, NN_some, BIf_true, BIf_false, BIf_same, List.toList_toArray, Bool.not_true, Bool.not_false]
    refine ⟨by decide, ?_⟩
    first | refine hs.ldf 1 rfl rfl ?_ | refine hs.ldg 1 rfl rfl ?_
    try simp only [DI_int', DB_bool, DS_string, DP_pointer, DSl_slice, DM_map, DA_agg, DTup_tuple, DCons_cons, DNil_nil, NN_some, BIf_true, BIf_false, BIf_same, List.toList_toArray, Bool.not_true, Bool.not_false]
    refine ⟨by decide, ?_⟩
    first | refine hs.ldf 1 rfl rfl ?_ | refine hs.ldg 1 rfl rfl ?_
    try simp only [DI_int', DB_bool, DS_string, DP_pointer, DSl_slice, DM_map, DA_agg, DTup_tuple, DCons_cons, DNil_nil, NN_some, BIf_true, BIf_false, BIf_same, List.toList_toArray, Bool.not_true, Bool.not_false]
    refine ⟨by decide, ?_⟩
    rw [show IntKind.u64.wrap (1 : Int) = ((1 : Nat) : Int) by decide, show IntKind.u64.wrap (IntKind.i64.wrap ((64 : Int) - 1)) = ((63 : Nat) : Int) by decide, shlN rfl (by decide), shlN rfl (by decide), shrN rfl (by decide), Nat.mod_eq_of_lt (a := N / 18446744073709551616 * 2 ^ 1) (by omega), orN (by omega) (by omega), or_add 1 _ _ (by omega)]
    first | refine hs.stw 2 rfl rfl rfl rfl fun H hs => ?_
    try simp only [DI_int', DB_bool, DS_string, DP_pointer, DSl_slice, DM_map, DA_agg, DTup_tuple, DCons_cons, DNil_nil, NN_some, BIf_true, BIf_false, BIf_same, List.toList_toArray, Bool.not_true, Bool.not_false]
    first | refine hs.ldw 2 rfl rfl ?_
    try simp only [DI_int', DB_bool, DS_string, DP_pointer, DSl_slice, DM_map, DA_agg, DTup_tuple, DCons_cons, DNil_nil, NN_some, BIf_true, BIf_false, BIf_same, List.toList_toArray, Bool.not_true, Bool.not_false]
    have e : #[Value.int .u64 ((N / 18446744073709551616 * 2 ^ 1 + N % 18446744073709551616 / 2 ^ 63 : Nat) : Int), .int .u64 ((N % 18446744073709551616 * 2 ^ 1 % 2 ^ 64 : Nat) : Int)] = wA (N * 2 ^ 1) := by
      unfold wA
      congr 4 <;> omega
    rw [e]
    exact hs.fin 0 rfl _
  · refine BIf_dneg (by decide) (BIf_dneg (by decide) ?_)
    first | refine hs.ldf 1 rfl rfl ?_ | refine hs.ldg 1 rfl rfl ?_
    try simp only [DI_int', DB_bool, DS_string, DP_pointer, DSl_slice, DM_map, DA_agg, DTup_tuple, DCons_cons, DNil_nil, NN_some, BIf_true, BIf_false, BIf_same, List.toList_toArray, Bool.not_true, Bool.not_false]
    refine ⟨by decide, ?_⟩
    first | refine hs.ldf 1 rfl rfl ?_ | refine hs.ldg 1 rfl rfl ?_
    try simp only [DI_int', DB_bool, DS_string, DP_pointer, DSl_slice, DM_map, DA_agg, DTup_tuple, DCons_cons, DNil_nil, NN_some, BIf_true, BIf_false, BIf_same, List.toList_toArray, Bool.not_true, Bool.not_false]
    refine ⟨by decide, ?_⟩
    first | refine hs.ldf 1 rfl rfl ?_ | refine hs.ldg 1 rfl rfl ?_
    try simp only [DI_int', DB_bool, DS_string, DP_pointer, DSl_slice, DM_map, DA_agg, DTup_tuple, DCons_cons, DNil_nil, NN_some, BIf_true, BIf_false, BIf_same, List.toList_toArray, Bool.not_true, Bool.not_false]
    refine ⟨by decide, ?_⟩
    rw [show IntKind.u64.wrap (3 : Int) = ((3 : Nat) : Int) by decide, show IntKind.u64.wrap (IntKind.i64.wrap ((64 : Int) - 3)) = ((61 : Nat) : Int) by decide, shlN rfl (by decide), shlN rfl (by decide), shrN rfl (by decide), Nat.mod_eq_of_lt (a := N / 18446744073709551616 * 2 ^ 3) (by omega), orN (by omega) (by omega), or_add 3 _ _ (by omega)]
    first | refine hs.stw 2 rfl rfl rfl rfl fun H hs => ?_
    try simp only [DI_int', DB_bool, DS_string, DP_pointer, DSl_slice, DM_map, DA_agg, DTup_tuple, DCons_cons, DNil_nil, NN_some, BIf_true, BIf_false, BIf_same, List.toList_toArray, Bool.not_true, Bool.not_false]
    first | refine hs.ldw 2 rfl rfl ?_
    try simp only [DI_int', DB_bool, DS_string, DP_pointer, DSl_slice, DM_map, DA_agg, DTup_tuple, DCons_cons, DNil_nil, NN_some, BIf_true, BIf_false, BIf_same, List.toList_toArray, Bool.not_true, Bool.not_false]
    have e : #[Value.int .u64 ((N / 18446744073709551616 * 2 ^ 3 + N % 18446744073709551616 / 2 ^ 61 : Nat) : Int), .int .u64 ((N % 18446744073709551616 * 2 ^ 3 % 2 ^ 64 : Nat) : Int)] = wA (N * 2 ^ 3) := by
      unfold wA
      congr 4 <;> omega
    rw [e]
    exact hs.fin 0 rfl _)

theorem Add_ok (a b : Nat) (h : a + b < 340282366920938463463374607431768211456) (H : Hp) :
    HCalls Tryd.prog 158 #[.agg (wA a), .agg (wA b)] H (RetE (.tuple #[.agg (wA (a + b)), .int .u64 0]) H) := HCalls.ret (by
  unfold wA
  apply W_wide_Add.ok
  unfold W_wide_Add
  refine (Sep.start H).nw fun b1 H1 hs => ?_
  refine hs.nw fun b2 H1 hs => ?_
  refine hs.nw fun b3 H1 hs => ?_
  first | refine hs.ldf 1 rfl rfl ?_ | refine hs.ldg 1 rfl rfl ?_
  try simp only [DI_int', DB_bool, DS_string, DP_pointer, DSl_slice, DM_map, DA_agg, DTup_tuple, DCons_cons, DNil_nil, NN_some, BIf_true, BIf_false, BIf_same, List.toList_toArray, Bool.not_true, Bool.not_false]
  first | refine hs.ldf 2 rfl rfl ?_ | refine hs.ldg 2 rfl rfl ?_
  try simp only [DI_int', DB_bool, DS_string, DP_pointer, DSl_slice, DM_map, DA_agg, DTup_tuple, DCons_cons, DNil_nil, NN_some, BIf_true, BIf_false, BIf_same, List.toList_toArray, Bool.not_true, Bool.not_false]
  refine ExC_add64 _ _ 0 (by omega) ?_
  simp only [DI_int', DB_bool, DS_string, DP_pointer, DSl_slice, DM_map, DA_agg, DTup_tuple, DCons_cons, DNil_nil, NN_some, BIf_true, BIf_false, BIf_same, List.toList_toArray, Bool.not_true, Bool.not_false]
  simp only [NN_some, Addr.add_lit', Addr.add_zero, Nat.zero_add, Nat.add_zero]
  refine hs.st 3 rfl (by decide) rfl fun H1 hs => ?_
  refine hs.ld 1 rfl rfl ?_
  simp only [DI_int', DB_bool, DS_string, DP_pointer, DSl_slice, DM_map, DA_agg, DTup_tuple, DCons_cons, DNil_nil, NN_some, BIf_true, BIf_false, BIf_same, List.toList_toArray, Bool.not_true, Bool.not_false]
  refine hs.ld 2 rfl rfl ?_
  simp only [DI_int', DB_bool, DS_string, DP_pointer, DSl_slice, DM_map, DA_agg, DTup_tuple, DCons_cons, DNil_nil, NN_some, BIf_true, BIf_false, BIf_same, List.toList_toArray, Bool.not_true, Bool.not_false]
  refine ExC_add64 _ _ _ (by omega) ?_
  simp only [DI_int', DB_bool, DS_string, DP_pointer, DSl_slice, DM_map, DA_agg, DTup_tuple, DCons_cons, DNil_nil, NN_some, BIf_true, BIf_false, BIf_same, List.toList_toArray, Bool.not_true, Bool.not_false]
  refine hs.st 3 rfl (Nat.zero_lt_succ 1) rfl fun H1 hs => ?_
  first | refine hs.ldw 3 rfl rfl ?_
  try simp only [DI_int', DB_bool, DS_string, DP_pointer, DSl_slice, DM_map, DA_agg, DTup_tuple, DCons_cons, DNil_nil, NN_some, BIf_true, BIf_false, BIf_same, List.toList_toArray, Bool.not_true, Bool.not_false]
  first | refine hs.stw 3 rfl rfl rfl rfl fun H hs => ?_
  try simp only [DI_int', DB_bool, DS_string, DP_pointer, DSl_slice, DM_map, DA_agg, DTup_tuple, DCons_cons, DNil_nil, NN_some, BIf_true, BIf_false, BIf_same, List.toList_toArray, Bool.not_true, Bool.not_false]
  first | refine hs.ldw 3 rfl rfl ?_
  try simp only [DI_int', DB_bool, DS_string, DP_pointer, DSl_slice, DM_map, DA_agg, DTup_tuple, DCons_cons, DNil_nil, NN_some, BIf_true, BIf_false, BIf_same, List.toList_toArray, Bool.not_true, Bool.not_false]
  have e : (#[Value.int .u64 0, .int .u64 0].setIfInBounds 1 (.int .u64 (((a % 18446744073709551616 + b % 18446744073709551616) % 18446744073709551616 : Nat) : Int))).setIfInBounds 0 (.int .u64 (((a / 18446744073709551616 + b / 18446744073709551616 + (a % 18446744073709551616 + b % 18446744073709551616) / 18446744073709551616) % 18446744073709551616 : Nat) : Int)) = wA (a + b) := by
    show #[_, _] = wA (a + b)
    unfold wA
    congr 4 <;> omega
  have e2 : ((a / 18446744073709551616 + b / 18446744073709551616 + (a % 18446744073709551616 + b % 18446744073709551616) / 18446744073709551616) / 18446744073709551616 : Nat) = 0 := by omega
  rw [e2]
  simp only [Array.toArray_toList]
  rw [e]
  exact hs.fin 0 rfl _)

/-- A row of numbers of two words. -/
def wL (ns : List Nat) : List Value := ns.flatMap fun N => (wA N).toList
theorem wL_get : ∀ (ns : List Nat) (j : Nat) (h : j < ns.length), (wL ns)[2 * j]? = some (.int .u64 ((ns[j] / 18446744073709551616 : Nat) : Int)) ∧ (wL ns)[2 * j + 1]? = some (.int .u64 ((ns[j] % 18446744073709551616 : Nat) : Int))
  | [], j, h => absurd h (by simp)
  | N :: ns, 0, _ => ⟨rfl, rfl⟩
  | N :: ns, j + 1, h => by
    have ih := wL_get ns j (by simpa using h)
    have e : wL (N :: ns) = .int .u64 ((N / 18446744073709551616 : Nat) : Int) :: .int .u64 ((N % 18446744073709551616 : Nat) : Int) :: wL ns := rfl
    rw [e, show 2 * (j + 1) = 2 * j + 1 + 1 by omega, List.getElem?_cons_succ, List.getElem?_cons_succ, List.getElem?_cons_succ, List.getElem?_cons_succ]
    exact ih

theorem Sum_loop (b b1 : Nat) (e e2 : TypeId) (mm m : Nat) (ns : List Nat) (n : Nat) (hn : n = ns.length) (hl : n ≤ 1000000) (hs128 : ns.sum < 340282366920938463463374607431768211456) (H0 : Hp) (hb : H0 b = some (.row (wL ns) e mm)) :
    ∀ (t j : Nat) (H : Hp), j + t = n → Sep [own H0, pts b1 (.obj (.cells (wA (ns.take j).sum) e2))] H →
      W_wide_Sum.l2 (Ret (.agg (wA ns.sum)) H0) (t + 1) ⟨b1, 0, none⟩ (some ⟨b, 0, none⟩) n m (n : Int) (j : Int) H
  | 0, j, H, hj, hs => by
    unfold W_wide_Sum.l2
    refine BIf_dneg (by omega) ?_
    first | refine hs.ldw 1 rfl rfl ?_
    try simp only [DI_int', DB_bool, DS_string, DP_pointer, DSl_slice, DM_map, DA_agg, DTup_tuple, DCons_cons, DNil_nil, NN_some, BIf_true, BIf_false, BIf_same, List.toList_toArray, Bool.not_true, Bool.not_false]
    first | refine hs.stw 1 rfl rfl rfl rfl fun H hs => ?_
    try simp only [DI_int', DB_bool, DS_string, DP_pointer, DSl_slice, DM_map, DA_agg, DTup_tuple, DCons_cons, DNil_nil, NN_some, BIf_true, BIf_false, BIf_same, List.toList_toArray, Bool.not_true, Bool.not_false]
    first | refine hs.ldw 1 rfl rfl ?_
    try simp only [DI_int', DB_bool, DS_string, DP_pointer, DSl_slice, DM_map, DA_agg, DTup_tuple, DCons_cons, DNil_nil, NN_some, BIf_true, BIf_false, BIf_same, List.toList_toArray, Bool.not_true, Bool.not_false]
    rw [List.take_of_length_le (by omega), Array.toArray_toList]
    exact hs.fin 0 rfl _
  | t + 1, j, H, hj, hs => by
    unfold W_wide_Sum.l2
    refine BIf_dpos (by omega) ⟨by omega, by omega, ?_⟩
    have hlt : j < ns.length := by omega
    obtain ⟨g1, g2⟩ := wL_get ns j hlt
    have hb' := (hs.ow 0 rfl) _ _ hb
    rw [NN_some, Addr.add_lit', Nat.zero_add, show (j : Int).toNat * 2 = 2 * j by omega]
    refine LdA_two (by rw [cell_row hb']; exact g1) (by rw [cell_row hb']; exact g2) ?_
    refine hs.nw fun b2 H1 hs => ?_
    first | refine hs.stw 2 rfl rfl rfl rfl fun H hs => ?_
    try simp only [DI_int', DB_bool, DS_string, DP_pointer, DSl_slice, DM_map, DA_agg, DTup_tuple, DCons_cons, DNil_nil, NN_some, BIf_true, BIf_false, BIf_same, List.toList_toArray, Bool.not_true, Bool.not_false]
    first | refine hs.ldw 1 rfl rfl ?_
    try simp only [DI_int', DB_bool, DS_string, DP_pointer, DSl_slice, DM_map, DA_agg, DTup_tuple, DCons_cons, DNil_nil, NN_some, BIf_true, BIf_false, BIf_same, List.toList_toArray, Bool.not_true, Bool.not_false]
    first | refine hs.ldw 2 rfl rfl ?_
    try simp only [DI_int', DB_bool, DS_string, DP_pointer, DSl_slice, DM_map, DA_agg, DTup_tuple, DCons_cons, DNil_nil, NN_some, BIf_true, BIf_false, BIf_same, List.toList_toArray, Bool.not_true, Bool.not_false]
    have hle : (ns.take (j + 1)).sum ≤ ns.sum := by
      conv => rhs; rw [← List.take_append_drop (j + 1) ns, List.sum_append]
      exact Nat.le_add_right _ _
    have he : (ns.take (j + 1)).sum = (ns.take j).sum + ns[j] := by
      rw [List.take_add_one, List.sum_append, List.getElem?_eq_getElem hlt]; simp
    rw [Array.toArray_toList]
    refine HCalls.use (Add_ok (ns.take j).sum ns[j] (by omega) _) ?_
    simp only [DI_int', DB_bool, DS_string, DP_pointer, DSl_slice, DM_map, DA_agg, DTup_tuple, DCons_cons, DNil_nil, NN_some, BIf_true, BIf_false, BIf_same, List.toList_toArray, Bool.not_true, Bool.not_false]
    first | refine hs.stw 1 rfl rfl rfl rfl fun H hs => ?_
    try simp only [DI_int', DB_bool, DS_string, DP_pointer, DSl_slice, DM_map, DA_agg, DTup_tuple, DCons_cons, DNil_nil, NN_some, BIf_true, BIf_false, BIf_same, List.toList_toArray, Bool.not_true, Bool.not_false]
    rw [i64w (x := (j : Int) + 1) (by omega) (by omega)]
    refine Sum_loop b b1 e e2 mm m ns n hn hl hs128 H0 hb t (j + 1) _ (by omega) ?_
    have hs := hs.re [0, 1] rfl
    rw [he]
    exact hs

theorem Sum_ok (b : Nat) (e : TypeId) (mm m : Nat) (ns : List Nat) (n : Nat) (hn : n = ns.length) (hl : n ≤ 1000000) (hs128 : ns.sum < 340282366920938463463374607431768211456) (H : Hp) (hb : H b = some (.row (wL ns) e mm)) :
    HCalls Tryd.prog 120 #[.slice (some ⟨b, 0, none⟩) n m] H (RetE (.agg (wA ns.sum)) H) := HCalls.ret (by
  apply W_wide_Sum.ok
  unfold W_wide_Sum
  refine (Sep.start H).nw fun b1 H1 hs => ?_
  have e0 : wA (List.take 0 ns).sum = #[.int .u64 0, .int .u64 0] := by rw [List.take_zero]; rfl
  exact ⟨n + 1, Sum_loop b b1 e _ mm m ns n hn hl hs128 H hb n 0 H1 (by omega) (by rw [e0]; exact hs)⟩)

end Go.Proofs.YtbnhfcdagoigkaaDoor.Cod

end
section
/-! LayT -/
/- Contracts of the library's functions, laid at this program (printed by lay2.py). -/
set_option maxRecDepth 100000
namespace Go.Proofs.YtbnhfcdagoigkaaDoor.Lib2
open Go Go.Proofs Go.Shelf Go.RowKit
def trimL_ren : Go.Shelf.Ren := ⟨fun | 160 => 96 | 232 => 131 | 231 => 130 | 227 => 132 | 234 => 134 | 233 => 133 | 236 => 136 | 235 => 135 | 228 => 170 | 271 => 173 | 151 => 172 | 197 => 171 | 120 => 208 | 152 => 207 | 260 => 206 | 137 => 222 | 119 => 223 | 224 => 203 | 225 => 202 | 217 => 201 | 266 => 220 | n => n, fun | 9 => 9 | 4 => 4 | 3 => 3 | 5 => 5 | 117 => 235 | 116 => 234 | 0 => 0 | 124 => 238 | 21 => 21 | 105 => 275 | 46 => 40 | 119 => 313 | 139 => 316 | 138 => 315 | n => n, fun | 3 => 8 | 4 => 9 | n => n⟩
theorem trimL : Go.Proofs.Lays.n160 Tryd.prog trimL_ren where
  mixed := by kernel_rfl
  f119 := Tryd.func223.trans (congrArg some (by kernel_rfl))
  f120 := Tryd.func208.trans (congrArg some (by kernel_rfl))
  f137 := Tryd.func222.trans (congrArg some (by kernel_rfl))
  f151 := Tryd.func172.trans (congrArg some (by kernel_rfl))
  f152 := Tryd.func207.trans (congrArg some (by kernel_rfl))
  f160 := Tryd.func96.trans (congrArg some (by kernel_rfl))
  f197 := Tryd.func171.trans (congrArg some (by kernel_rfl))
  f217 := Tryd.func201.trans (congrArg some (by kernel_rfl))
  f224 := Tryd.func203.trans (congrArg some (by kernel_rfl))
  f225 := Tryd.func202.trans (congrArg some (by kernel_rfl))
  f227 := Tryd.func132.trans (congrArg some (by kernel_rfl))
  f228 := Tryd.func170.trans (congrArg some (by kernel_rfl))
  f231 := Tryd.func130.trans (congrArg some (by kernel_rfl))
  f232 := Tryd.func131.trans (congrArg some (by kernel_rfl))
  f233 := Tryd.func133.trans (congrArg some (by kernel_rfl))
  f234 := Tryd.func134.trans (congrArg some (by kernel_rfl))
  f235 := Tryd.func135.trans (congrArg some (by kernel_rfl))
  f236 := Tryd.func136.trans (congrArg some (by kernel_rfl))
  f260 := Tryd.func206.trans (congrArg some (by kernel_rfl))
  f266 := Tryd.func220.trans (congrArg some (by kernel_rfl))
  f271 := Tryd.func173.trans (congrArg some (by kernel_rfl))
  t0 := Tryd.underlying0
  a0 := Tryd.isAgg0
  z0 := Tryd.sizeOf0
  v0 := Tryd.zeroValue0
  t3 := Tryd.underlying3
  a3 := Tryd.isAgg3
  z3 := Tryd.sizeOf3
  v3 := Tryd.zeroValue3
  t4 := Tryd.underlying4
  a4 := Tryd.isAgg4
  z4 := Tryd.sizeOf4
  v4 := Tryd.zeroValue4
  t5 := Tryd.underlying5
  a5 := Tryd.isAgg5
  z5 := Tryd.sizeOf5
  v5 := Tryd.zeroValue5
  t9 := Tryd.underlying9
  a9 := Tryd.isAgg9
  z9 := Tryd.sizeOf9
  v9 := Tryd.zeroValue9
  t21 := Tryd.underlying21
  a21 := Tryd.isAgg21
  z21 := Tryd.sizeOf21
  v21 := Tryd.zeroValue21
  t46 := Tryd.underlying40
  a46 := Tryd.isAgg40
  z46 := Tryd.sizeOf40
  v46 := Tryd.zeroValue40
  t105 := Tryd.underlying275
  a105 := Tryd.isAgg275
  z105 := Tryd.sizeOf275
  v105 := Tryd.zeroValue275
  t116 := Tryd.underlying234
  a116 := Tryd.isAgg234
  z116 := Tryd.sizeOf234
  t117 := Tryd.underlying235
  a117 := Tryd.isAgg235
  z117 := Tryd.sizeOf235
  v117 := Tryd.zeroValue235
  t119 := Tryd.underlying313
  a119 := Tryd.isAgg313
  z119 := Tryd.sizeOf313
  t124 := Tryd.underlying238
  a124 := Tryd.isAgg238
  z124 := Tryd.sizeOf238
  v124 := Tryd.zeroValue238
  t138 := Tryd.underlying315
  a138 := Tryd.isAgg315
  z138 := Tryd.sizeOf315
  v138 := Tryd.zeroValue315
  t139 := Tryd.underlying316
  a139 := Tryd.isAgg316
  z139 := Tryd.sizeOf316
  v139 := Tryd.zeroValue316
  g3 := by kernel_rfl
  g4 := by kernel_rfl
end Go.Proofs.YtbnhfcdagoigkaaDoor.Lib2

end
section
/-! HwZ -/
/- The frame of the proofs: the library's Trim at one byte. -/
set_option maxRecDepth 100000
set_option linter.unusedSimpArgs false
set_option linter.unusedVariables false
set_option linter.unnecessarySimpa false
set_option linter.unusedSectionVars false
namespace Go.Hw
open Go Go.Proofs Go.Proofs.YtbnhfcdagoigkaaDoor.Lib2 Go.RowKit Go.Shelf

/-- strings.Trim. -/
theorem Trim_hc (s : ByteArray) (c : UInt8) (hc : c.toNat < 128) (hs : s.size ≤ 9223372036854775807) (H : Hp) :
    HCalls Tryd.prog 96 #[.string s, .string ⟨#[c]⟩] H (RetE (.string ⟨(Lib.trimB s.data.toList c).toArray⟩) H) := fun w hw => by
  refine (Any.strings_Trim_one trimL s c hc w hs).mono ?_
  rintro e w' ⟨rfl, h⟩
  refine ⟨_, H, rfl, ⟨rfl, rfl⟩, ?_⟩
  rcases h with rfl | rfl
  · exact At.refl hw
  · exact ⟨hw, Nat.le_refl _, rfl, rfl, rfl, fun _ _ h => ⟨h, rfl⟩⟩

theorem dw_nil (p : UInt8 → Bool) : ∀ l : List UInt8, l.dropWhile p = [] ↔ ∀ x ∈ l, p x = true
  | [] => by simp
  | z :: l => by
    rw [List.dropWhile_cons]
    by_cases hz : p z = true
    · rw [if_pos hz, dw_nil p l]
      constructor
      · intro h x hx
        rcases List.mem_cons.1 hx with rfl | hx
        · exact hz
        · exact h x hx
      · intro h x hx
        exact h x (List.mem_cons_of_mem _ hx)
    · rw [if_neg hz]
      constructor
      · intro h; cases h
      · intro h; exact absurd (h z (by simp)) hz
theorem dw_all (p : UInt8 → Bool) : ∀ l : List UInt8, (∀ x ∈ l.dropWhile p, p x = true) → ∀ x ∈ l, p x = true
  | [], _ => by simp
  | z :: l, h => by
    rw [List.dropWhile_cons] at h
    by_cases hz : p z = true
    · rw [if_pos hz] at h
      intro x hx
      rcases List.mem_cons.1 hx with rfl | hx
      · exact hz
      · exact dw_all p l h x hx
    · rw [if_neg hz] at h
      exact absurd (h z (by simp)) hz
theorem trimB_nil (l : List UInt8) (c : UInt8) : Lib.trimB l c = [] ↔ ∀ x ∈ l, x = c := by
  unfold Lib.trimB Lib.trimLeftB Lib.trimRightB
  rw [dw_nil]
  constructor
  · intro h x hx
    have := dw_all (· == c) l.reverse (fun y hy => h y (by simpa using hy)) x (by simpa using hx)
    simpa using this
  · intro h x hx
    have := (List.dropWhile_sublist (· == c)).subset (List.mem_reverse.1 hx)
    simpa using h x (List.mem_reverse.1 this)

end Go.Hw

end
