import Derived.Test.YtgkdkemhiglpdaaDoorProg
import Derived.Test.YtgkdkemhiglpdaaDoorPkRecordFollows3
section
/-! HwY -/
/- The frame of the proofs: the library's Join. -/
set_option maxRecDepth 100000
set_option linter.unusedSimpArgs false
set_option linter.unusedVariables false
set_option linter.unnecessarySimpa false
set_option linter.unusedSectionVars false
namespace Go.Hw
open Go Go.Proofs Go.Proofs.YtgkdkemhiglpdaaDoor.Lib2 Go.RowKit Go.Shelf

theorem joinX : Builder.Extra Tryd.prog joinL_ren where
  sizeBuilder := by kernel_rfl
  liesBuilder := by kernel_rfl
  t5 := Tryd.underlying5
  a5 := Tryd.isAgg5
  z5 := Tryd.sizeOf5
  v5 := Tryd.zeroValue5
  infoByte := by kernel_rfl
  cellsByte := by kernel_rfl
  sizeByte := by kernel_rfl
  neB5 := by decide

/-- strings.Join. -/
theorem Join_hc {b m mm : Nat} {e : TypeId} {H : Hp} (ss : List ByteArray) (sep : ByteArray) (hb : H b = some (.row (ss.map Value.string) e mm)) (hm : ss.length ≤ m) (hl : ss.length ≤ 140737488355328) (hlen : (Lib.join (ss.map (·.data.toList)) sep.data.toList).length ≤ 140737488355328) :
    HCalls Tryd.prog 110 #[.slice (some ⟨b, 0, none⟩) ss.length m, .string sep] H (RetE (.string ⟨(Lib.join (ss.map (·.data.toList)) sep.data.toList).toArray⟩) H) := fun w hw => by
  have hcell : ∀ (j : Nat) x, ss[j]? = some x → w.cell? ⟨b, 0 + j, none⟩ = some (.string x) := fun j x hj => by
    have h1 : H.cell? ⟨b, j, none⟩ = some (.string x) := by rw [cell_row hb, List.getElem?_map, hj]; rfl
    rw [Nat.zero_add]
    exact Fits.cell? hw h1
  have hbk : b < w.heap.size := by
    obtain ⟨o', h1, _⟩ := hw _ _ hb
    exact (Array.getElem?_eq_some_iff.1 h1).1
  refine (Any.strings_Join joinL joinX b 0 m ss sep w hcell hbk hl hm hlen).mono ?_
  rintro e' w' ⟨rfl, hbel⟩
  refine ⟨_, H, rfl, ⟨rfl, rfl⟩, ?_⟩
  exact ⟨fun i o hi => by
    obtain ⟨o', h1, h2⟩ := hw i o hi
    exact ⟨o', (hbel.block i (Array.getElem?_eq_some_iff.1 h1).1).trans h1, h2⟩, hbel.size, hbel.os, hbel.tape, hbel.output, fun i hi h0 => ⟨h0, hbel.block i hi⟩⟩

/-- What is appended to has room for it. -/
theorem AppK_cap {P : Program} {e : TypeId} {s x : Value} {H : Hp} {K : Value → Hp → Prop} (h : AppK P e s x H fun v H' => (∀ A n m, v = .slice A n m → n ≤ m) → K v H') : AppK P e s x H K := by
  unfold AppK at h ⊢
  split at h
  · split at h
    · obtain ⟨n, ys, h1, h2, h3, h4, h5, h6, h7, h8, h9⟩ := h
      refine ⟨n, ys, h1, h2, h3, h4, h5, h6, h7, h8, h9.imp ?_ ?_⟩
      · rintro ⟨e1, e2, e3, k0, k⟩
        refine ⟨e1, e2, e3, fun h0 => k0 h0 (fun A n m e => by cases e; exact Nat.le_refl _), fun hp c hc b hb => k hp c hc b hb (fun A n m e => by cases e; exact hc)⟩
      · rintro ⟨b0, xs, m, e1, e2, e3, e4, k⟩
        exact ⟨b0, xs, m, e1, e2, e3, e4, fun c m' hc hl b hb => k c m' hc hl b hb (fun A n m e => by cases e; exact hl)⟩
    · exact h
  · exact h
theorem Nw_cap {P : Program} {e : TypeId} {s : Value} {x : Nat → Value} {H : Hp} {o : AO} {K : Value → Hp → Prop} (h : Nw H o fun b H' => AppK P e s (x b) H' fun v H' => (∀ A n m, v = .slice A n m → n ≤ m) → K v H') : Nw H o fun b H' => AppK P e s (x b) H' K := fun b hb => AppK_cap (h b hb)

end Go.Hw

end
section
/-! GenD -/
/- The reference's rows of words; equal words. -/
set_option maxRecDepth 100000
set_option linter.unusedSimpArgs false
set_option linter.unusedVariables false
set_option linter.unnecessarySimpa false
set_option linter.unusedSectionVars false
namespace Go.Proofs.YtgkdkemhiglpdaaDoor.Gen
open Go Go.Hw Go.Proofs.YtgkdkemhiglpdaaDoor.W Go.Proofs.YtgkdkemhiglpdaaDoor.Gol

/-- The word ahead of the i-th. -/
def ahead (k : Int) (a b c : Nat) : Nat → Nat
  | 0 => a
  | i + 1 => val k a b c i
theorem vals_succ (k : Int) (a b c n : Nat) : vals k a b c 0 (n + 1) = vals k a b c 0 n ++ [val k a b c n] := by
  unfold vals
  rw [List.range_succ, List.map_append]
  simp

theorem rRow_loop (K : Value → Hp → Prop) {k : Int} {a b c n : Nat} (hg : goodR k a b c = true) (hn : n ≤ 1000000) {b1 : Nat}
    (hK : ∀ A m H, n ≤ m → Sep [pts b1 (ruleO k a b c), Own 22 1 A n m (natV (vals k a b c 0 n))] H → K (.slice A n m) H) :
    ∀ (t i : Nat) (A : Option Addr) (m : Nat) (H : Hp), i + t = n → i ≤ m → Sep [pts b1 (ruleO k a b c), Own 22 1 A i m (natV (vals k a b c 0 i))] H →
      W_abacistref38_Row.l4 K (t + 1) (n : Int) ⟨b1, 0, none⟩ A i m ((ahead k a b c i : Nat) : Int) (i : Int) H
  | 0, i, A, m, H, hi, him, hs => by
    obtain rfl : i = n := by omega
    unfold W_abacistref38_Row.l4
    exact BIf_dneg (by omega) (hK A m H him hs)
  | t + 1, i, A, m, H, hi, him, hs => by
    obtain ⟨h1, h5, ha, hb, hc, _⟩ := goodR_of hg
    have hpos : ∀ x, x % 18446744069414584321 < 18446744069414584321 := fun x => Nat.mod_lt x (Nat.zero_lt_succ _)
    have stp : ∀ (v : Nat), v = val k a b c i → Nw H (.row [.int .u64 (v : Int)] 22 1) fun b2 H2 => AppK Tryd.prog 22 (.slice A i m) (.slice (some ⟨b2, 0, none⟩) 1 1) H2 fun v28 H14 => DSl v28 fun A2 n2 m2 => W_abacistref38_Row.l4 K (t + 1) (n : Int) ⟨b1, 0, none⟩ A2 n2 m2 (v : Int) (IntKind.i64.wrap ((i : Int) + (1 : Int))) H14 := fun v hv => by
      refine Nw_cap ?_
      refine hs.app1 1 rfl cell_u64 (by omega) rfl (by omega) (by omega) fun A' m' H hs hcap => ?_
      simp only [DI_int', DB_bool, DS_string, DP_pointer, DSl_slice, DM_map, DA_agg, DTup_tuple, DCons_cons, DNil_nil, NN_some, BIf_true, BIf_false, BIf_same, List.toList_toArray, Bool.not_true, Bool.not_false]
      rw [i64w (x := (i : Int) + 1) (by omega) (by omega), show (i : Int) + 1 = ((i + 1 : Nat) : Int) by omega]
      have := rRow_loop K hg hn hK t (i + 1) A' m' H (by omega) (hcap _ _ _ rfl) (by
        rw [vals_succ, ← hv, show natV (vals k a b c 0 i ++ [v]) = natV (vals k a b c 0 i) ++ [.int .u64 (v : Int)] by unfold natV; rw [List.map_append]; rfl]
        exact hs)
      have e : ahead k a b c (i + 1) = v := hv.symm
      rw [e] at this
      exact this
    have hi2 : IntKind.u64.wrap (i : Int) = (i : Int) := u64n (by omega)
    unfold W_abacistref38_Row.l4
    refine BIf_dpos (by omega) ?_
    rw [hi2]
    first | refine hs.ldf 0 rfl rfl ?_ | refine hs.ldg 0 rfl rfl ?_
    try simp only [DI_int', DB_bool, DS_string, DP_pointer, DSl_slice, DM_map, DA_agg, DTup_tuple, DCons_cons, DNil_nil, NN_some, BIf_true, BIf_false, BIf_same, List.toList_toArray, Bool.not_true, Bool.not_false]
    by_cases k2 : k = 2
    · refine BIf_beqp k2 ?_
      first | refine hs.ldf 0 rfl rfl ?_ | refine hs.ldg 0 rfl rfl ?_
      try simp only [DI_int', DB_bool, DS_string, DP_pointer, DSl_slice, DM_map, DA_agg, DTup_tuple, DCons_cons, DNil_nil, NN_some, BIf_true, BIf_false, BIf_same, List.toList_toArray, Bool.not_true, Bool.not_false]
      first | refine hs.ldf 0 rfl rfl ?_ | refine hs.ldg 0 rfl rfl ?_
      try simp only [DI_int', DB_bool, DS_string, DP_pointer, DSl_slice, DM_map, DA_agg, DTup_tuple, DCons_cons, DNil_nil, NN_some, BIf_true, BIf_false, BIf_same, List.toList_toArray, Bool.not_true, Bool.not_false]
      refine QCall.use (rMul_ok (a := b) (b := i) (by omega) H) ?_
      simp only [DI_int', DB_bool, DS_string, DP_pointer, DSl_slice, DM_map, DA_agg, DTup_tuple, DCons_cons, DNil_nil, NN_some, BIf_true, BIf_false, BIf_same, List.toList_toArray, Bool.not_true, Bool.not_false]
      refine QCall.use (rAdd_ok (a := a) (b := b * i % 18446744069414584321) H) ?_
      simp only [DI_int', DB_bool, DS_string, DP_pointer, DSl_slice, DM_map, DA_agg, DTup_tuple, DCons_cons, DNil_nil, NN_some, BIf_true, BIf_false, BIf_same, List.toList_toArray, Bool.not_true, Bool.not_false]
      exact stp _ (by unfold val; rw [if_neg (by omega), if_pos k2, mod_add_r])
    refine BIf_beqn k2 ?_
    by_cases k3 : k = 3
    · refine BIf_beqp k3 ?_
      first | refine hs.ldf 0 rfl rfl ?_ | refine hs.ldg 0 rfl rfl ?_
      try simp only [DI_int', DB_bool, DS_string, DP_pointer, DSl_slice, DM_map, DA_agg, DTup_tuple, DCons_cons, DNil_nil, NN_some, BIf_true, BIf_false, BIf_same, List.toList_toArray, Bool.not_true, Bool.not_false]
      first | refine hs.ldf 0 rfl rfl ?_ | refine hs.ldg 0 rfl rfl ?_
      try simp only [DI_int', DB_bool, DS_string, DP_pointer, DSl_slice, DM_map, DA_agg, DTup_tuple, DCons_cons, DNil_nil, NN_some, BIf_true, BIf_false, BIf_same, List.toList_toArray, Bool.not_true, Bool.not_false]
      have q := hpos (b ^ i)
      refine QCall.use (rPow_ok (a := b) (n := i) (by omega) H) ?_
      simp only [DI_int', DB_bool, DS_string, DP_pointer, DSl_slice, DM_map, DA_agg, DTup_tuple, DCons_cons, DNil_nil, NN_some, BIf_true, BIf_false, BIf_same, List.toList_toArray, Bool.not_true, Bool.not_false]
      refine QCall.use (rMul_ok (a := a) (b := b ^ i % 18446744069414584321) (by omega) H) ?_
      simp only [DI_int', DB_bool, DS_string, DP_pointer, DSl_slice, DM_map, DA_agg, DTup_tuple, DCons_cons, DNil_nil, NN_some, BIf_true, BIf_false, BIf_same, List.toList_toArray, Bool.not_true, Bool.not_false]
      exact stp _ (by unfold val; rw [if_neg (by omega), if_neg k2, if_pos k3, mod_mul_r])
    refine BIf_beqn k3 ?_
    by_cases k4 : k = 4
    · refine BIf_beqp k4 ?_
      by_cases hi0 : i = 0
      · subst hi0
        refine BIf_dneg (by omega) ?_
        refine stp _ ?_
        show a = val k a b c 0
        unfold val
        rw [if_neg (by omega), if_neg k2, if_neg k3, if_pos k4, Nat.pow_zero, Nat.mul_one]
        show a = (a + c * 0) % 18446744069414584321
        rw [Nat.mul_zero, Nat.add_zero, Nat.mod_eq_of_lt ha]
      · refine BIf_dpos (by omega) ?_
        obtain ⟨i', rfl⟩ : ∃ i', i = i' + 1 := ⟨i - 1, by omega⟩
        have q := val_lt (k := k) (b := b) (c := c) (i := i') ha
        first | refine hs.ldf 0 rfl rfl ?_ | refine hs.ldg 0 rfl rfl ?_
        try simp only [DI_int', DB_bool, DS_string, DP_pointer, DSl_slice, DM_map, DA_agg, DTup_tuple, DCons_cons, DNil_nil, NN_some, BIf_true, BIf_false, BIf_same, List.toList_toArray, Bool.not_true, Bool.not_false]
        refine QCall.use (rMul_ok (a := b) (b := val k a b c i') (by omega) H) ?_
        simp only [DI_int', DB_bool, DS_string, DP_pointer, DSl_slice, DM_map, DA_agg, DTup_tuple, DCons_cons, DNil_nil, NN_some, BIf_true, BIf_false, BIf_same, List.toList_toArray, Bool.not_true, Bool.not_false]
        first | refine hs.ldf 0 rfl rfl ?_ | refine hs.ldg 0 rfl rfl ?_
        try simp only [DI_int', DB_bool, DS_string, DP_pointer, DSl_slice, DM_map, DA_agg, DTup_tuple, DCons_cons, DNil_nil, NN_some, BIf_true, BIf_false, BIf_same, List.toList_toArray, Bool.not_true, Bool.not_false]
        refine QCall.use (rAdd_ok (a := b * val k a b c i' % 18446744069414584321) (b := c) H) ?_
        simp only [DI_int', DB_bool, DS_string, DP_pointer, DSl_slice, DM_map, DA_agg, DTup_tuple, DCons_cons, DNil_nil, NN_some, BIf_true, BIf_false, BIf_same, List.toList_toArray, Bool.not_true, Bool.not_false]
        refine stp _ ?_
        unfold val
        rw [if_neg (by omega), if_neg k2, if_neg k3, if_pos k4, if_neg (by omega), if_neg k2, if_neg k3, if_pos k4, mod_mul_r, mod_add_l, Nat.mul_add, Nat.mul_left_comm b a, Nat.mul_comm b (b ^ i'), ← Nat.pow_succ, Nat.mul_left_comm b c]
        show _ = (a * b ^ (i' + 1) + c * (b * geo b i' + 1)) % 18446744069414584321
        rw [Nat.mul_add, Nat.mul_one, Nat.add_assoc]
    refine BIf_beqn k4 ?_
    by_cases k5 : k = 5
    · have hval : val k a b c i = if pulse b c i = true then a else 0 := by
        unfold val; rw [if_neg (by omega), if_neg k2, if_neg k3, if_neg k4]
      refine BIf_beqp k5 ?_
      first | refine hs.ldf 0 rfl rfl ?_ | refine hs.ldg 0 rfl rfl ?_
      try simp only [DI_int', DB_bool, DS_string, DP_pointer, DSl_slice, DM_map, DA_agg, DTup_tuple, DCons_cons, DNil_nil, NN_some, BIf_true, BIf_false, BIf_same, List.toList_toArray, Bool.not_true, Bool.not_false]
      by_cases hc0 : c = 0
      · refine BIf_beqp (by omega) ?_
        first | refine hs.ldf 0 rfl rfl ?_ | refine hs.ldg 0 rfl rfl ?_
        try simp only [DI_int', DB_bool, DS_string, DP_pointer, DSl_slice, DM_map, DA_agg, DTup_tuple, DCons_cons, DNil_nil, NN_some, BIf_true, BIf_false, BIf_same, List.toList_toArray, Bool.not_true, Bool.not_false]
        by_cases hib : i = b
        · refine BIf_beqp (by omega) ?_
          first | refine hs.ldf 0 rfl rfl ?_ | refine hs.ldg 0 rfl rfl ?_
          try simp only [DI_int', DB_bool, DS_string, DP_pointer, DSl_slice, DM_map, DA_agg, DTup_tuple, DCons_cons, DNil_nil, NN_some, BIf_true, BIf_false, BIf_same, List.toList_toArray, Bool.not_true, Bool.not_false]
          refine stp _ ?_
          rw [hval, if_pos (by unfold pulse; rw [if_pos hc0, hib]; simp)]
        · refine BIf_beqn (by omega) ?_
          first | refine hs.ldf 0 rfl rfl ?_ | refine hs.ldg 0 rfl rfl ?_
          try simp only [DI_int', DB_bool, DS_string, DP_pointer, DSl_slice, DM_map, DA_agg, DTup_tuple, DCons_cons, DNil_nil, NN_some, BIf_true, BIf_false, BIf_same, List.toList_toArray, Bool.not_true, Bool.not_false]
          refine BIf_dneg (by omega) ?_
          refine stp 0 ?_
          rw [hval, if_neg (by unfold pulse; rw [if_pos hc0]; simpa using hib)]
      · refine BIf_beqn (by omega) ?_
        first | refine hs.ldf 0 rfl rfl ?_ | refine hs.ldg 0 rfl rfl ?_
        try simp only [DI_int', DB_bool, DS_string, DP_pointer, DSl_slice, DM_map, DA_agg, DTup_tuple, DCons_cons, DNil_nil, NN_some, BIf_true, BIf_false, BIf_same, List.toList_toArray, Bool.not_true, Bool.not_false]
        refine BIf_dpos (by omega) ?_
        first | refine hs.ldf 0 rfl rfl ?_ | refine hs.ldg 0 rfl rfl ?_
        try simp only [DI_int', DB_bool, DS_string, DP_pointer, DSl_slice, DM_map, DA_agg, DTup_tuple, DCons_cons, DNil_nil, NN_some, BIf_true, BIf_false, BIf_same, List.toList_toArray, Bool.not_true, Bool.not_false]
        refine ⟨by omega, by simp, ?_⟩
        first | refine hs.ldf 0 rfl rfl ?_ | refine hs.ldg 0 rfl rfl ?_
        try simp only [DI_int', DB_bool, DS_string, DP_pointer, DSl_slice, DM_map, DA_agg, DTup_tuple, DCons_cons, DNil_nil, NN_some, BIf_true, BIf_false, BIf_same, List.toList_toArray, Bool.not_true, Bool.not_false]
        first | refine hs.ldf 0 rfl rfl ?_ | refine hs.ldg 0 rfl rfl ?_
        try simp only [DI_int', DB_bool, DS_string, DP_pointer, DSl_slice, DM_map, DA_agg, DTup_tuple, DCons_cons, DNil_nil, NN_some, BIf_true, BIf_false, BIf_same, List.toList_toArray, Bool.not_true, Bool.not_false]
        refine ⟨by omega, by simp, ?_⟩
        rw [show Int.tmod (i : Int) (c : Int) = ((i % c : Nat) : Int) from rfl, show Int.tmod (b : Int) (c : Int) = ((b % c : Nat) : Int) from rfl]
        by_cases hm : i % c = b % c
        · refine BIf_beqp (by rw [hm]) ?_
          first | refine hs.ldf 0 rfl rfl ?_ | refine hs.ldg 0 rfl rfl ?_
          try simp only [DI_int', DB_bool, DS_string, DP_pointer, DSl_slice, DM_map, DA_agg, DTup_tuple, DCons_cons, DNil_nil, NN_some, BIf_true, BIf_false, BIf_same, List.toList_toArray, Bool.not_true, Bool.not_false]
          refine stp _ ?_
          rw [hval, if_pos (by unfold pulse; rw [if_neg hc0, hm]; simp)]
        · refine BIf_beqn (fun e => hm (Int.ofNat.inj e)) ?_
          refine stp 0 ?_
          rw [hval, if_neg (by unfold pulse; rw [if_neg hc0]; simpa using hm)]
    refine BIf_beqn k5 ?_
    obtain rfl : k = 1 := by omega
    refine stp _ ?_
    cases i with
    | zero => rfl
    | succ i => rfl

theorem rRow_tr {k : Int} {a b c n : Nat} (hg : goodR k a b c = true) (hn : n ≤ 1000000) :
    Tr Tryd.prog 31 #[.agg #[.int .i64 k, .int .u64 (a : Int), .int .u64 (b : Int), .int .u64 (c : Int)], .int .i64 (n : Int)] [] fun v M =>
      ∃ A m, n ≤ m ∧ v = .slice A n m ∧ M = [Own 22 1 A n m (natV (vals k a b c 0 n))] := fun H hs => by
  apply W_abacistref38_Row.ok
  unfold W_abacistref38_Row
  refine hs.nw fun b1 H hs => ?_
  first | refine hs.ldf 0 rfl rfl ?_ | refine hs.ldg 0 rfl rfl ?_
  try simp only [DI_int', DB_bool, DS_string, DP_pointer, DSl_slice, DM_map, DA_agg, DTup_tuple, DCons_cons, DNil_nil, NN_some, BIf_true, BIf_false, BIf_same, List.toList_toArray, Bool.not_true, Bool.not_false]
  refine ⟨n + 1, ?_⟩
  have e0 : Sep [pts b1 (ruleO k a b c), Own 22 1 none 0 0 (natV (vals k a b c 0 0))] H := by
    have : Sep (Own 22 1 none 0 0 [] :: [pts b1 (ruleO k a b c)]) H := ⟨fun _ => none, H, fun _ _ h => (nomatch h), Hp.le_refl _, fun _ => .inl rfl, Own.none _ _ _, hs⟩
    exact this.re [1, 0] rfl
  refine rRow_loop _ hg hn (fun A m H hm hs => ?_) n 0 none 0 H (by omega) (Nat.le_refl _) e0
  exact ⟨_, ⟨A, m, hm, rfl, rfl⟩, hs.re [1] rfl⟩

theorem Same_loop (H : Hp) (A B : Option Addr) (n m m' : Nat) (ws : List Nat) (hn : n = ws.length) (hl : n ≤ 1000000000) (ha : Cells H A (natV ws)) (hb : Cells H B (natV ws)) :
    ∀ (t i : Nat), i + t = n → W_abacistref04_Same.l4 (RetE (.bool true) H) (t + 1) A n m B n m' (i : Int) H
  | 0, i, h => by
    unfold W_abacistref04_Same.l4
    exact BIf_dneg (by omega) (RetE.mk _ _)
  | t + 1, i, h => by
    unfold W_abacistref04_Same.l4
    refine BIf_dpos (by omega) ?_
    have hg : (natV ws)[i]? = some (.int .u64 ((ws[i]'(by omega) : Nat) : Int)) := by
      rw [natV_get, List.getElem?_eq_getElem (by omega)]; rfl
    refine ha.read hg rfl (by rw [natV_length]; omega) ?_
    simp only [DI_int', DB_bool, DS_string, DP_pointer, DSl_slice, DM_map, DA_agg, DTup_tuple, DCons_cons, DNil_nil, NN_some, BIf_true, BIf_false, BIf_same, List.toList_toArray, Bool.not_true, Bool.not_false]
    refine hb.read hg rfl (by rw [natV_length]; omega) ?_
    simp only [DI_int', DB_bool, DS_string, DP_pointer, DSl_slice, DM_map, DA_agg, DTup_tuple, DCons_cons, DNil_nil, NN_some, BIf_true, BIf_false, BIf_same, List.toList_toArray, Bool.not_true, Bool.not_false]
    refine BIf_bnen rfl ?_
    rw [i64w (x := (i : Int) + 1) (by omega) (by omega)]
    exact Same_loop H A B n m m' ws hn hl ha hb t (i + 1) (by omega)
theorem Same_ok (A B : Option Addr) (n m m' : Nat) (ws : List Nat) (hn : n = ws.length) (hl : n ≤ 1000000000) (H : Hp) (ha : Cells H A (natV ws)) (hb : Cells H B (natV ws)) :
    HCalls Tryd.prog 21 #[.slice A n m, .slice B n m'] H (RetE (.bool true) H) := by
  apply W_abacistref04_Same.ok
  unfold W_abacistref04_Same
  refine BIf_bnen rfl ⟨n + 1, ?_⟩
  exact Same_loop H A B n m m' ws hn hl ha hb n 0 (by omega)

end Go.Proofs.YtgkdkemhiglpdaaDoor.Gen

end
section
/-! Wlstrconv -/
/- Formulas of functions, printed by wip/tools/hwp.py. -/
set_option maxRecDepth 100000
set_option linter.unusedVariables false
namespace Go.Proofs.YtgkdkemhiglpdaaDoor.W
open Go Go.Hw

theorem mixWlstrconv : Tryd.prog.follows .mixedOrders = true := by kernel_rfl
-- strconv.FormatUint
def W_strconv_FormatUint (x1 : Int) (x2 : Int) (H : Hp) (K : Value → Hp → Prop) : Prop :=
  HCalls Tryd.prog 102 #[.int .u64 x1, .int .i64 x2] H fun v1 H1 => DS v1 fun s1 => K (.string s1) H1
def W_strconv_FormatUint.Λ (_ : Value → Hp → Prop) : Cuts := Cuts.none (fun _ => none)
theorem W_strconv_FormatUint.ok (x1 : Int) (x2 : Int) (H : Hp) (K : Value → Hp → Prop) (h : W_strconv_FormatUint x1 x2 H K) : HCalls Tryd.prog 74 #[.int .u64 x1, .int .i64 x2] H K :=
  hcalls Tryd.func74 rfl (Nat.le_of_ble_eq_true rfl) (hw_safe (Λ := Cuts.none (fun _ => none)) mixWlstrconv _ _ _ _ _ (Eq.mp (by kernel_rfl) h) (obs_none _ _ _ _ _))

-- internal/strconv.FormatUint
def W_internal_strconv_FormatUint (x1 : Int) (x2 : Int) (H : Hp) (K : Value → Hp → Prop) : Prop :=
  BIf (x2 == (10 : Int)) (BIf (decide (x1 < (100 : Int))) (HCalls Tryd.prog 119 #[.int .i64 (IntKind.i64.wrap x1)] H fun v1 H1 => DS v1 fun s1 => K (.string s1) H1) (Nw H (.obj (.cells #[.int .u8 (0 : Int), .int .u8 (0 : Int), .int .u8 (0 : Int), .int .u8 (0 : Int), .int .u8 (0 : Int), .int .u8 (0 : Int), .int .u8 (0 : Int), .int .u8 (0 : Int), .int .u8 (0 : Int), .int .u8 (0 : Int), .int .u8 (0 : Int), .int .u8 (0 : Int), .int .u8 (0 : Int), .int .u8 (0 : Int), .int .u8 (0 : Int), .int .u8 (0 : Int), .int .u8 (0 : Int), .int .u8 (0 : Int), .int .u8 (0 : Int), .int .u8 (0 : Int), .int .u8 (0 : Int), .int .u8 (0 : Int), .int .u8 (0 : Int), .int .u8 (0 : Int)] 191)) fun b1 H2 => HCalls Tryd.prog 120 #[.int .u64 x1] H2 fun v2 H3 => DI .i64 v2 fun x3 => slB 24 24 none (some x3) fun n1 n2 => HCalls Tryd.prog 121 #[.slice (slA (some (⟨b1, 0, none⟩ : Addr)) 24 n1 1) (n2 - n1) (24 - n1), .int .u64 x1] H3 fun v3 H4 => slB 24 24 none (some x3) fun n3 n4 => BsK H4 (slA (some (⟨b1, 0, none⟩ : Addr)) 24 n3 1) (n4 - n3) fun s2 => K (.string s2) H4)) (HCalls Tryd.prog 122 #[.slice none 0 0, .int .u64 x1, .int .i64 x2, .bool false, .bool false] H fun v4 H5 => DTup v4 fun l1 => DCons l1 fun v5 l2 => DSl v5 fun A1 n5 m1 => DCons l2 fun v6 l3 => DS v6 fun s3 => DNil l3 (K (.string s3) H5))
def W_internal_strconv_FormatUint.Λ (_ : Value → Hp → Prop) : Cuts := Cuts.none (fun _ => none)
theorem W_internal_strconv_FormatUint.ok (x1 : Int) (x2 : Int) (H : Hp) (K : Value → Hp → Prop) (h : W_internal_strconv_FormatUint x1 x2 H K) : HCalls Tryd.prog 102 #[.int .u64 x1, .int .i64 x2] H K :=
  hcalls Tryd.func102 rfl (Nat.le_of_ble_eq_true rfl) (hw_safe (Λ := Cuts.none (fun _ => none)) mixWlstrconv _ _ _ _ _ (Eq.mp (by kernel_rfl) h) (obs_none _ _ _ _ _))

-- internal/strconv.small
def W_internal_strconv_small (x1 : Int) (H : Hp) (K : Value → Hp → Prop) : Prop :=
  BIf (decide (x1 < (10 : Int))) (slB (((⟨#[48, 49, 50, 51, 52, 53, 54, 55, 56, 57, 97, 98, 99, 100, 101, 102, 103, 104, 105, 106, 107, 108, 109, 110, 111, 112, 113, 114, 115, 116, 117, 118, 119, 120, 121, 122]⟩) : ByteArray).size) (((⟨#[48, 49, 50, 51, 52, 53, 54, 55, 56, 57, 97, 98, 99, 100, 101, 102, 103, 104, 105, 106, 107, 108, 109, 110, 111, 112, 113, 114, 115, 116, 117, 118, 119, 120, 121, 122]⟩) : ByteArray).size) (some x1) (some (IntKind.i64.wrap (x1 + (1 : Int)))) fun n1 n2 => K (.string (((⟨#[48, 49, 50, 51, 52, 53, 54, 55, 56, 57, 97, 98, 99, 100, 101, 102, 103, 104, 105, 106, 107, 108, 109, 110, 111, 112, 113, 114, 115, 116, 117, 118, 119, 120, 121, 122]⟩) : ByteArray).extract n1 n2)) H) (slB (((⟨#[48, 48, 48, 49, 48, 50, 48, 51, 48, 52, 48, 53, 48, 54, 48, 55, 48, 56, 48, 57, 49, 48, 49, 49, 49, 50, 49, 51, 49, 52, 49, 53, 49, 54, 49, 55, 49, 56, 49, 57, 50, 48, 50, 49, 50, 50, 50, 51, 50, 52, 50, 53, 50, 54, 50, 55, 50, 56, 50, 57, 51, 48, 51, 49, 51, 50, 51, 51, 51, 52, 51, 53, 51, 54, 51, 55, 51, 56, 51, 57, 52, 48, 52, 49, 52, 50, 52, 51, 52, 52, 52, 53, 52, 54, 52, 55, 52, 56, 52, 57, 53, 48, 53, 49, 53, 50, 53, 51, 53, 52, 53, 53, 53, 54, 53, 55, 53, 56, 53, 57, 54, 48, 54, 49, 54, 50, 54, 51, 54, 52, 54, 53, 54, 54, 54, 55, 54, 56, 54, 57, 55, 48, 55, 49, 55, 50, 55, 51, 55, 52, 55, 53, 55, 54, 55, 55, 55, 56, 55, 57, 56, 48, 56, 49, 56, 50, 56, 51, 56, 52, 56, 53, 56, 54, 56, 55, 56, 56, 56, 57, 57, 48, 57, 49, 57, 50, 57, 51, 57, 52, 57, 53, 57, 54, 57, 55, 57, 56, 57, 57]⟩) : ByteArray).size) (((⟨#[48, 48, 48, 49, 48, 50, 48, 51, 48, 52, 48, 53, 48, 54, 48, 55, 48, 56, 48, 57, 49, 48, 49, 49, 49, 50, 49, 51, 49, 52, 49, 53, 49, 54, 49, 55, 49, 56, 49, 57, 50, 48, 50, 49, 50, 50, 50, 51, 50, 52, 50, 53, 50, 54, 50, 55, 50, 56, 50, 57, 51, 48, 51, 49, 51, 50, 51, 51, 51, 52, 51, 53, 51, 54, 51, 55, 51, 56, 51, 57, 52, 48, 52, 49, 52, 50, 52, 51, 52, 52, 52, 53, 52, 54, 52, 55, 52, 56, 52, 57, 53, 48, 53, 49, 53, 50, 53, 51, 53, 52, 53, 53, 53, 54, 53, 55, 53, 56, 53, 57, 54, 48, 54, 49, 54, 50, 54, 51, 54, 52, 54, 53, 54, 54, 54, 55, 54, 56, 54, 57, 55, 48, 55, 49, 55, 50, 55, 51, 55, 52, 55, 53, 55, 54, 55, 55, 55, 56, 55, 57, 56, 48, 56, 49, 56, 50, 56, 51, 56, 52, 56, 53, 56, 54, 56, 55, 56, 56, 56, 57, 57, 48, 57, 49, 57, 50, 57, 51, 57, 52, 57, 53, 57, 54, 57, 55, 57, 56, 57, 57]⟩) : ByteArray).size) (some (IntKind.i64.wrap (x1 * (2 : Int)))) (some (IntKind.i64.wrap ((IntKind.i64.wrap (x1 * (2 : Int))) + (2 : Int)))) fun n3 n4 => K (.string (((⟨#[48, 48, 48, 49, 48, 50, 48, 51, 48, 52, 48, 53, 48, 54, 48, 55, 48, 56, 48, 57, 49, 48, 49, 49, 49, 50, 49, 51, 49, 52, 49, 53, 49, 54, 49, 55, 49, 56, 49, 57, 50, 48, 50, 49, 50, 50, 50, 51, 50, 52, 50, 53, 50, 54, 50, 55, 50, 56, 50, 57, 51, 48, 51, 49, 51, 50, 51, 51, 51, 52, 51, 53, 51, 54, 51, 55, 51, 56, 51, 57, 52, 48, 52, 49, 52, 50, 52, 51, 52, 52, 52, 53, 52, 54, 52, 55, 52, 56, 52, 57, 53, 48, 53, 49, 53, 50, 53, 51, 53, 52, 53, 53, 53, 54, 53, 55, 53, 56, 53, 57, 54, 48, 54, 49, 54, 50, 54, 51, 54, 52, 54, 53, 54, 54, 54, 55, 54, 56, 54, 57, 55, 48, 55, 49, 55, 50, 55, 51, 55, 52, 55, 53, 55, 54, 55, 55, 55, 56, 55, 57, 56, 48, 56, 49, 56, 50, 56, 51, 56, 52, 56, 53, 56, 54, 56, 55, 56, 56, 56, 57, 57, 48, 57, 49, 57, 50, 57, 51, 57, 52, 57, 53, 57, 54, 57, 55, 57, 56, 57, 57]⟩) : ByteArray).extract n3 n4)) H)
def W_internal_strconv_small.Λ (_ : Value → Hp → Prop) : Cuts := Cuts.none (fun _ => none)
theorem W_internal_strconv_small.ok (x1 : Int) (H : Hp) (K : Value → Hp → Prop) (h : W_internal_strconv_small x1 H K) : HCalls Tryd.prog 119 #[.int .i64 x1] H K :=
  hcalls Tryd.func119 rfl (Nat.le_of_ble_eq_true rfl) (hw_safe (Λ := Cuts.none (fun _ => none)) mixWlstrconv _ _ _ _ _ (Eq.mp (by kernel_rfl) h) (obs_none _ _ _ _ _))

-- internal/strconv.numDigits
def W_internal_strconv_numDigits (x1 : Int) (H : Hp) (K : Value → Hp → Prop) : Prop :=
  HCalls Tryd.prog 134 #[.int .u64 x1] H fun v1 H1 => DI .i64 v1 fun x2 => HCalls Tryd.prog 133 #[.int .i64 x2] H1 fun v2 H2 => DI .i64 v2 fun x3 => ixI x3 20 (Ld H2 ((⟨3, 0, none⟩ : Addr).add (x3.toNat * 1)) fun v3 => DI .u64 v3 fun x4 => HCalls Tryd.prog 135 #[.bool (decide (x1 ≥ x4))] H2 fun v4 H3 => DI .i64 v4 fun x5 => K (.int .i64 (IntKind.i64.wrap (x3 + x5))) H3)
def W_internal_strconv_numDigits.Λ (_ : Value → Hp → Prop) : Cuts := Cuts.none (fun _ => none)
theorem W_internal_strconv_numDigits.ok (x1 : Int) (H : Hp) (K : Value → Hp → Prop) (h : W_internal_strconv_numDigits x1 H K) : HCalls Tryd.prog 120 #[.int .u64 x1] H K :=
  hcalls Tryd.func120 rfl (Nat.le_of_ble_eq_true rfl) (hw_safe (Λ := Cuts.none (fun _ => none)) mixWlstrconv _ _ _ _ _ (Eq.mp (by kernel_rfl) h) (obs_none _ _ _ _ _))

-- internal/strconv.formatBase10
def W_internal_strconv_formatBase10.j25 (K : Value → Hp → Prop) (A4 : Option Addr) (n4 : Nat) (m4 : Nat) (x20 : Int) (x21 : Int) (H : Hp) : Prop :=
  BIf (decide (x20 > (0 : Int))) (ixI (0 : Int) n4 (NN A4 fun a15 => St H ((a15.add ((0 : Int).toNat * 1)).add 0) (.int .u8 (IntKind.u8.wrap (IntKind.u32.wrap ((48 : Int) + x21)))) fun H15 => K (.tuple #[]) H15)) (K (.tuple #[]) H)
def W_internal_strconv_formatBase10.j20 (K : Value → Hp → Prop) (A3 : Option Addr) (n3 : Nat) (m3 : Nat) (x16 : Int) (x17 : Int) (H : Hp) : Prop :=
  BIf (decide (x16 ≥ (2 : Int))) (((100 : Int) ≠ 0 ∧ IntKind.u32 = IntKind.u32 ∧ ((100 : Int) ≠ 0 ∧ IntKind.u32 = IntKind.u32 ∧ (0 ≤ (IntKind.u32.wrap ((IntKind.u32.wrap ((Int.tmod x17 (100 : Int)) * (2 : Int))) + (1 : Int))) ∧ ixB ((⟨#[48, 48, 48, 49, 48, 50, 48, 51, 48, 52, 48, 53, 48, 54, 48, 55, 48, 56, 48, 57, 49, 48, 49, 49, 49, 50, 49, 51, 49, 52, 49, 53, 49, 54, 49, 55, 49, 56, 49, 57, 50, 48, 50, 49, 50, 50, 50, 51, 50, 52, 50, 53, 50, 54, 50, 55, 50, 56, 50, 57, 51, 48, 51, 49, 51, 50, 51, 51, 51, 52, 51, 53, 51, 54, 51, 55, 51, 56, 51, 57, 52, 48, 52, 49, 52, 50, 52, 51, 52, 52, 52, 53, 52, 54, 52, 55, 52, 56, 52, 57, 53, 48, 53, 49, 53, 50, 53, 51, 53, 52, 53, 53, 53, 54, 53, 55, 53, 56, 53, 57, 54, 48, 54, 49, 54, 50, 54, 51, 54, 52, 54, 53, 54, 54, 54, 55, 54, 56, 54, 57, 55, 48, 55, 49, 55, 50, 55, 51, 55, 52, 55, 53, 55, 54, 55, 55, 55, 56, 55, 57, 56, 48, 56, 49, 56, 50, 56, 51, 56, 52, 56, 53, 56, 54, 56, 55, 56, 56, 56, 57, 57, 48, 57, 49, 57, 50, 57, 51, 57, 52, 57, 53, 57, 54, 57, 55, 57, 56, 57, 57]⟩) : ByteArray) (IntKind.u32.wrap ((IntKind.u32.wrap ((Int.tmod x17 (100 : Int)) * (2 : Int))) + (1 : Int))).toNat fun x18 => (0 ≤ (IntKind.u32.wrap ((Int.tmod x17 (100 : Int)) * (2 : Int))) ∧ ixB ((⟨#[48, 48, 48, 49, 48, 50, 48, 51, 48, 52, 48, 53, 48, 54, 48, 55, 48, 56, 48, 57, 49, 48, 49, 49, 49, 50, 49, 51, 49, 52, 49, 53, 49, 54, 49, 55, 49, 56, 49, 57, 50, 48, 50, 49, 50, 50, 50, 51, 50, 52, 50, 53, 50, 54, 50, 55, 50, 56, 50, 57, 51, 48, 51, 49, 51, 50, 51, 51, 51, 52, 51, 53, 51, 54, 51, 55, 51, 56, 51, 57, 52, 48, 52, 49, 52, 50, 52, 51, 52, 52, 52, 53, 52, 54, 52, 55, 52, 56, 52, 57, 53, 48, 53, 49, 53, 50, 53, 51, 53, 52, 53, 53, 53, 54, 53, 55, 53, 56, 53, 57, 54, 48, 54, 49, 54, 50, 54, 51, 54, 52, 54, 53, 54, 54, 54, 55, 54, 56, 54, 57, 55, 48, 55, 49, 55, 50, 55, 51, 55, 52, 55, 53, 55, 54, 55, 55, 55, 56, 55, 57, 56, 48, 56, 49, 56, 50, 56, 51, 56, 52, 56, 53, 56, 54, 56, 55, 56, 56, 56, 57, 57, 48, 57, 49, 57, 50, 57, 51, 57, 52, 57, 53, 57, 54, 57, 55, 57, 56, 57, 57]⟩) : ByteArray) (IntKind.u32.wrap ((Int.tmod x17 (100 : Int)) * (2 : Int))).toNat fun x19 => ixI (IntKind.i64.wrap (x16 - (1 : Int))) n3 (NN A3 fun a13 => St H ((a13.add ((IntKind.i64.wrap (x16 - (1 : Int))).toNat * 1)).add 0) (.int .u8 x18) fun H13 => ixI (IntKind.i64.wrap (x16 - (2 : Int))) n3 (NN A3 fun a14 => St H13 ((a14.add ((IntKind.i64.wrap (x16 - (2 : Int))).toNat * 1)).add 0) (.int .u8 x19) fun H14 => W_internal_strconv_formatBase10.j25 K A3 n3 m3 (IntKind.i64.wrap (x16 - (2 : Int))) (IntKind.u32.wrap (Int.tdiv x17 (100 : Int))) H14))))))) (W_internal_strconv_formatBase10.j25 K A3 n3 m3 x16 x17 H)
def W_internal_strconv_formatBase10.l1 (K : Value → Hp → Prop) : Nat → Option Addr → Nat → Nat → Int → Int → Hp → Prop
  | 0, _, _, _, _, _, _ => False
  | k + 1, A2, n2, m2, x2, x3, H =>
    let R1 := W_internal_strconv_formatBase10.l1 K k
    BIf (decide (x3 ≥ (8 : Int))) (((100000000 : Int) ≠ 0 ∧ IntKind.u64 = IntKind.u64 ∧ ((100000000 : Int) ≠ 0 ∧ IntKind.u64 = IntKind.u64 ∧ ((10000 : Int) ≠ 0 ∧ IntKind.u32 = IntKind.u32 ∧ ((10000 : Int) ≠ 0 ∧ IntKind.u32 = IntKind.u32 ∧ ((100 : Int) ≠ 0 ∧ IntKind.u32 = IntKind.u32 ∧ ((100 : Int) ≠ 0 ∧ IntKind.u32 = IntKind.u32 ∧ ((100 : Int) ≠ 0 ∧ IntKind.u32 = IntKind.u32 ∧ ((100 : Int) ≠ 0 ∧ IntKind.u32 = IntKind.u32 ∧ (0 ≤ (IntKind.u32.wrap ((IntKind.u32.wrap ((Int.tmod (Int.tmod (IntKind.u32.wrap (Int.tmod x2 (100000000 : Int))) (10000 : Int)) (100 : Int)) * (2 : Int))) + (1 : Int))) ∧ ixB ((⟨#[48, 48, 48, 49, 48, 50, 48, 51, 48, 52, 48, 53, 48, 54, 48, 55, 48, 56, 48, 57, 49, 48, 49, 49, 49, 50, 49, 51, 49, 52, 49, 53, 49, 54, 49, 55, 49, 56, 49, 57, 50, 48, 50, 49, 50, 50, 50, 51, 50, 52, 50, 53, 50, 54, 50, 55, 50, 56, 50, 57, 51, 48, 51, 49, 51, 50, 51, 51, 51, 52, 51, 53, 51, 54, 51, 55, 51, 56, 51, 57, 52, 48, 52, 49, 52, 50, 52, 51, 52, 52, 52, 53, 52, 54, 52, 55, 52, 56, 52, 57, 53, 48, 53, 49, 53, 50, 53, 51, 53, 52, 53, 53, 53, 54, 53, 55, 53, 56, 53, 57, 54, 48, 54, 49, 54, 50, 54, 51, 54, 52, 54, 53, 54, 54, 54, 55, 54, 56, 54, 57, 55, 48, 55, 49, 55, 50, 55, 51, 55, 52, 55, 53, 55, 54, 55, 55, 55, 56, 55, 57, 56, 48, 56, 49, 56, 50, 56, 51, 56, 52, 56, 53, 56, 54, 56, 55, 56, 56, 56, 57, 57, 48, 57, 49, 57, 50, 57, 51, 57, 52, 57, 53, 57, 54, 57, 55, 57, 56, 57, 57]⟩) : ByteArray) (IntKind.u32.wrap ((IntKind.u32.wrap ((Int.tmod (Int.tmod (IntKind.u32.wrap (Int.tmod x2 (100000000 : Int))) (10000 : Int)) (100 : Int)) * (2 : Int))) + (1 : Int))).toNat fun x4 => (0 ≤ (IntKind.u32.wrap ((Int.tmod (Int.tmod (IntKind.u32.wrap (Int.tmod x2 (100000000 : Int))) (10000 : Int)) (100 : Int)) * (2 : Int))) ∧ ixB ((⟨#[48, 48, 48, 49, 48, 50, 48, 51, 48, 52, 48, 53, 48, 54, 48, 55, 48, 56, 48, 57, 49, 48, 49, 49, 49, 50, 49, 51, 49, 52, 49, 53, 49, 54, 49, 55, 49, 56, 49, 57, 50, 48, 50, 49, 50, 50, 50, 51, 50, 52, 50, 53, 50, 54, 50, 55, 50, 56, 50, 57, 51, 48, 51, 49, 51, 50, 51, 51, 51, 52, 51, 53, 51, 54, 51, 55, 51, 56, 51, 57, 52, 48, 52, 49, 52, 50, 52, 51, 52, 52, 52, 53, 52, 54, 52, 55, 52, 56, 52, 57, 53, 48, 53, 49, 53, 50, 53, 51, 53, 52, 53, 53, 53, 54, 53, 55, 53, 56, 53, 57, 54, 48, 54, 49, 54, 50, 54, 51, 54, 52, 54, 53, 54, 54, 54, 55, 54, 56, 54, 57, 55, 48, 55, 49, 55, 50, 55, 51, 55, 52, 55, 53, 55, 54, 55, 55, 55, 56, 55, 57, 56, 48, 56, 49, 56, 50, 56, 51, 56, 52, 56, 53, 56, 54, 56, 55, 56, 56, 56, 57, 57, 48, 57, 49, 57, 50, 57, 51, 57, 52, 57, 53, 57, 54, 57, 55, 57, 56, 57, 57]⟩) : ByteArray) (IntKind.u32.wrap ((Int.tmod (Int.tmod (IntKind.u32.wrap (Int.tmod x2 (100000000 : Int))) (10000 : Int)) (100 : Int)) * (2 : Int))).toNat fun x5 => ixI (IntKind.i64.wrap (x3 - (1 : Int))) n2 (NN A2 fun a1 => St H ((a1.add ((IntKind.i64.wrap (x3 - (1 : Int))).toNat * 1)).add 0) (.int .u8 x4) fun H1 => ixI (IntKind.i64.wrap (x3 - (2 : Int))) n2 (NN A2 fun a2 => St H1 ((a2.add ((IntKind.i64.wrap (x3 - (2 : Int))).toNat * 1)).add 0) (.int .u8 x5) fun H2 => (0 ≤ (IntKind.u32.wrap ((IntKind.u32.wrap ((IntKind.u32.wrap (Int.tdiv (Int.tmod (IntKind.u32.wrap (Int.tmod x2 (100000000 : Int))) (10000 : Int)) (100 : Int))) * (2 : Int))) + (1 : Int))) ∧ ixB ((⟨#[48, 48, 48, 49, 48, 50, 48, 51, 48, 52, 48, 53, 48, 54, 48, 55, 48, 56, 48, 57, 49, 48, 49, 49, 49, 50, 49, 51, 49, 52, 49, 53, 49, 54, 49, 55, 49, 56, 49, 57, 50, 48, 50, 49, 50, 50, 50, 51, 50, 52, 50, 53, 50, 54, 50, 55, 50, 56, 50, 57, 51, 48, 51, 49, 51, 50, 51, 51, 51, 52, 51, 53, 51, 54, 51, 55, 51, 56, 51, 57, 52, 48, 52, 49, 52, 50, 52, 51, 52, 52, 52, 53, 52, 54, 52, 55, 52, 56, 52, 57, 53, 48, 53, 49, 53, 50, 53, 51, 53, 52, 53, 53, 53, 54, 53, 55, 53, 56, 53, 57, 54, 48, 54, 49, 54, 50, 54, 51, 54, 52, 54, 53, 54, 54, 54, 55, 54, 56, 54, 57, 55, 48, 55, 49, 55, 50, 55, 51, 55, 52, 55, 53, 55, 54, 55, 55, 55, 56, 55, 57, 56, 48, 56, 49, 56, 50, 56, 51, 56, 52, 56, 53, 56, 54, 56, 55, 56, 56, 56, 57, 57, 48, 57, 49, 57, 50, 57, 51, 57, 52, 57, 53, 57, 54, 57, 55, 57, 56, 57, 57]⟩) : ByteArray) (IntKind.u32.wrap ((IntKind.u32.wrap ((IntKind.u32.wrap (Int.tdiv (Int.tmod (IntKind.u32.wrap (Int.tmod x2 (100000000 : Int))) (10000 : Int)) (100 : Int))) * (2 : Int))) + (1 : Int))).toNat fun x6 => (0 ≤ (IntKind.u32.wrap ((IntKind.u32.wrap (Int.tdiv (Int.tmod (IntKind.u32.wrap (Int.tmod x2 (100000000 : Int))) (10000 : Int)) (100 : Int))) * (2 : Int))) ∧ ixB ((⟨#[48, 48, 48, 49, 48, 50, 48, 51, 48, 52, 48, 53, 48, 54, 48, 55, 48, 56, 48, 57, 49, 48, 49, 49, 49, 50, 49, 51, 49, 52, 49, 53, 49, 54, 49, 55, 49, 56, 49, 57, 50, 48, 50, 49, 50, 50, 50, 51, 50, 52, 50, 53, 50, 54, 50, 55, 50, 56, 50, 57, 51, 48, 51, 49, 51, 50, 51, 51, 51, 52, 51, 53, 51, 54, 51, 55, 51, 56, 51, 57, 52, 48, 52, 49, 52, 50, 52, 51, 52, 52, 52, 53, 52, 54, 52, 55, 52, 56, 52, 57, 53, 48, 53, 49, 53, 50, 53, 51, 53, 52, 53, 53, 53, 54, 53, 55, 53, 56, 53, 57, 54, 48, 54, 49, 54, 50, 54, 51, 54, 52, 54, 53, 54, 54, 54, 55, 54, 56, 54, 57, 55, 48, 55, 49, 55, 50, 55, 51, 55, 52, 55, 53, 55, 54, 55, 55, 55, 56, 55, 57, 56, 48, 56, 49, 56, 50, 56, 51, 56, 52, 56, 53, 56, 54, 56, 55, 56, 56, 56, 57, 57, 48, 57, 49, 57, 50, 57, 51, 57, 52, 57, 53, 57, 54, 57, 55, 57, 56, 57, 57]⟩) : ByteArray) (IntKind.u32.wrap ((IntKind.u32.wrap (Int.tdiv (Int.tmod (IntKind.u32.wrap (Int.tmod x2 (100000000 : Int))) (10000 : Int)) (100 : Int))) * (2 : Int))).toNat fun x7 => ixI (IntKind.i64.wrap (x3 - (3 : Int))) n2 (NN A2 fun a3 => St H2 ((a3.add ((IntKind.i64.wrap (x3 - (3 : Int))).toNat * 1)).add 0) (.int .u8 x6) fun H3 => ixI (IntKind.i64.wrap (x3 - (4 : Int))) n2 (NN A2 fun a4 => St H3 ((a4.add ((IntKind.i64.wrap (x3 - (4 : Int))).toNat * 1)).add 0) (.int .u8 x7) fun H4 => (0 ≤ (IntKind.u32.wrap ((IntKind.u32.wrap ((Int.tmod (IntKind.u32.wrap (Int.tdiv (IntKind.u32.wrap (Int.tmod x2 (100000000 : Int))) (10000 : Int))) (100 : Int)) * (2 : Int))) + (1 : Int))) ∧ ixB ((⟨#[48, 48, 48, 49, 48, 50, 48, 51, 48, 52, 48, 53, 48, 54, 48, 55, 48, 56, 48, 57, 49, 48, 49, 49, 49, 50, 49, 51, 49, 52, 49, 53, 49, 54, 49, 55, 49, 56, 49, 57, 50, 48, 50, 49, 50, 50, 50, 51, 50, 52, 50, 53, 50, 54, 50, 55, 50, 56, 50, 57, 51, 48, 51, 49, 51, 50, 51, 51, 51, 52, 51, 53, 51, 54, 51, 55, 51, 56, 51, 57, 52, 48, 52, 49, 52, 50, 52, 51, 52, 52, 52, 53, 52, 54, 52, 55, 52, 56, 52, 57, 53, 48, 53, 49, 53, 50, 53, 51, 53, 52, 53, 53, 53, 54, 53, 55, 53, 56, 53, 57, 54, 48, 54, 49, 54, 50, 54, 51, 54, 52, 54, 53, 54, 54, 54, 55, 54, 56, 54, 57, 55, 48, 55, 49, 55, 50, 55, 51, 55, 52, 55, 53, 55, 54, 55, 55, 55, 56, 55, 57, 56, 48, 56, 49, 56, 50, 56, 51, 56, 52, 56, 53, 56, 54, 56, 55, 56, 56, 56, 57, 57, 48, 57, 49, 57, 50, 57, 51, 57, 52, 57, 53, 57, 54, 57, 55, 57, 56, 57, 57]⟩) : ByteArray) (IntKind.u32.wrap ((IntKind.u32.wrap ((Int.tmod (IntKind.u32.wrap (Int.tdiv (IntKind.u32.wrap (Int.tmod x2 (100000000 : Int))) (10000 : Int))) (100 : Int)) * (2 : Int))) + (1 : Int))).toNat fun x8 => (0 ≤ (IntKind.u32.wrap ((Int.tmod (IntKind.u32.wrap (Int.tdiv (IntKind.u32.wrap (Int.tmod x2 (100000000 : Int))) (10000 : Int))) (100 : Int)) * (2 : Int))) ∧ ixB ((⟨#[48, 48, 48, 49, 48, 50, 48, 51, 48, 52, 48, 53, 48, 54, 48, 55, 48, 56, 48, 57, 49, 48, 49, 49, 49, 50, 49, 51, 49, 52, 49, 53, 49, 54, 49, 55, 49, 56, 49, 57, 50, 48, 50, 49, 50, 50, 50, 51, 50, 52, 50, 53, 50, 54, 50, 55, 50, 56, 50, 57, 51, 48, 51, 49, 51, 50, 51, 51, 51, 52, 51, 53, 51, 54, 51, 55, 51, 56, 51, 57, 52, 48, 52, 49, 52, 50, 52, 51, 52, 52, 52, 53, 52, 54, 52, 55, 52, 56, 52, 57, 53, 48, 53, 49, 53, 50, 53, 51, 53, 52, 53, 53, 53, 54, 53, 55, 53, 56, 53, 57, 54, 48, 54, 49, 54, 50, 54, 51, 54, 52, 54, 53, 54, 54, 54, 55, 54, 56, 54, 57, 55, 48, 55, 49, 55, 50, 55, 51, 55, 52, 55, 53, 55, 54, 55, 55, 55, 56, 55, 57, 56, 48, 56, 49, 56, 50, 56, 51, 56, 52, 56, 53, 56, 54, 56, 55, 56, 56, 56, 57, 57, 48, 57, 49, 57, 50, 57, 51, 57, 52, 57, 53, 57, 54, 57, 55, 57, 56, 57, 57]⟩) : ByteArray) (IntKind.u32.wrap ((Int.tmod (IntKind.u32.wrap (Int.tdiv (IntKind.u32.wrap (Int.tmod x2 (100000000 : Int))) (10000 : Int))) (100 : Int)) * (2 : Int))).toNat fun x9 => ixI (IntKind.i64.wrap (x3 - (5 : Int))) n2 (NN A2 fun a5 => St H4 ((a5.add ((IntKind.i64.wrap (x3 - (5 : Int))).toNat * 1)).add 0) (.int .u8 x8) fun H5 => ixI (IntKind.i64.wrap (x3 - (6 : Int))) n2 (NN A2 fun a6 => St H5 ((a6.add ((IntKind.i64.wrap (x3 - (6 : Int))).toNat * 1)).add 0) (.int .u8 x9) fun H6 => (0 ≤ (IntKind.u32.wrap ((IntKind.u32.wrap ((IntKind.u32.wrap (Int.tdiv (IntKind.u32.wrap (Int.tdiv (IntKind.u32.wrap (Int.tmod x2 (100000000 : Int))) (10000 : Int))) (100 : Int))) * (2 : Int))) + (1 : Int))) ∧ ixB ((⟨#[48, 48, 48, 49, 48, 50, 48, 51, 48, 52, 48, 53, 48, 54, 48, 55, 48, 56, 48, 57, 49, 48, 49, 49, 49, 50, 49, 51, 49, 52, 49, 53, 49, 54, 49, 55, 49, 56, 49, 57, 50, 48, 50, 49, 50, 50, 50, 51, 50, 52, 50, 53, 50, 54, 50, 55, 50, 56, 50, 57, 51, 48, 51, 49, 51, 50, 51, 51, 51, 52, 51, 53, 51, 54, 51, 55, 51, 56, 51, 57, 52, 48, 52, 49, 52, 50, 52, 51, 52, 52, 52, 53, 52, 54, 52, 55, 52, 56, 52, 57, 53, 48, 53, 49, 53, 50, 53, 51, 53, 52, 53, 53, 53, 54, 53, 55, 53, 56, 53, 57, 54, 48, 54, 49, 54, 50, 54, 51, 54, 52, 54, 53, 54, 54, 54, 55, 54, 56, 54, 57, 55, 48, 55, 49, 55, 50, 55, 51, 55, 52, 55, 53, 55, 54, 55, 55, 55, 56, 55, 57, 56, 48, 56, 49, 56, 50, 56, 51, 56, 52, 56, 53, 56, 54, 56, 55, 56, 56, 56, 57, 57, 48, 57, 49, 57, 50, 57, 51, 57, 52, 57, 53, 57, 54, 57, 55, 57, 56, 57, 57]⟩) : ByteArray) (IntKind.u32.wrap ((IntKind.u32.wrap ((IntKind.u32.wrap (Int.tdiv (IntKind.u32.wrap (Int.tdiv (IntKind.u32.wrap (Int.tmod x2 (100000000 : Int))) (10000 : Int))) (100 : Int))) * (2 : Int))) + (1 : Int))).toNat fun x10 => (0 ≤ (IntKind.u32.wrap ((IntKind.u32.wrap (Int.tdiv (IntKind.u32.wrap (Int.tdiv (IntKind.u32.wrap (Int.tmod x2 (100000000 : Int))) (10000 : Int))) (100 : Int))) * (2 : Int))) ∧ ixB ((⟨#[48, 48, 48, 49, 48, 50, 48, 51, 48, 52, 48, 53, 48, 54, 48, 55, 48, 56, 48, 57, 49, 48, 49, 49, 49, 50, 49, 51, 49, 52, 49, 53, 49, 54, 49, 55, 49, 56, 49, 57, 50, 48, 50, 49, 50, 50, 50, 51, 50, 52, 50, 53, 50, 54, 50, 55, 50, 56, 50, 57, 51, 48, 51, 49, 51, 50, 51, 51, 51, 52, 51, 53, 51, 54, 51, 55, 51, 56, 51, 57, 52, 48, 52, 49, 52, 50, 52, 51, 52, 52, 52, 53, 52, 54, 52, 55, 52, 56, 52, 57, 53, 48, 53, 49, 53, 50, 53, 51, 53, 52, 53, 53, 53, 54, 53, 55, 53, 56, 53, 57, 54, 48, 54, 49, 54, 50, 54, 51, 54, 52, 54, 53, 54, 54, 54, 55, 54, 56, 54, 57, 55, 48, 55, 49, 55, 50, 55, 51, 55, 52, 55, 53, 55, 54, 55, 55, 55, 56, 55, 57, 56, 48, 56, 49, 56, 50, 56, 51, 56, 52, 56, 53, 56, 54, 56, 55, 56, 56, 56, 57, 57, 48, 57, 49, 57, 50, 57, 51, 57, 52, 57, 53, 57, 54, 57, 55, 57, 56, 57, 57]⟩) : ByteArray) (IntKind.u32.wrap ((IntKind.u32.wrap (Int.tdiv (IntKind.u32.wrap (Int.tdiv (IntKind.u32.wrap (Int.tmod x2 (100000000 : Int))) (10000 : Int))) (100 : Int))) * (2 : Int))).toNat fun x11 => ixI (IntKind.i64.wrap (x3 - (7 : Int))) n2 (NN A2 fun a7 => St H6 ((a7.add ((IntKind.i64.wrap (x3 - (7 : Int))).toNat * 1)).add 0) (.int .u8 x10) fun H7 => ixI (IntKind.i64.wrap (x3 - (8 : Int))) n2 (NN A2 fun a8 => St H7 ((a8.add ((IntKind.i64.wrap (x3 - (8 : Int))).toNat * 1)).add 0) (.int .u8 x11) fun H8 => R1 A2 n2 m2 (IntKind.u64.wrap (Int.tdiv x2 (100000000 : Int))) (IntKind.i64.wrap (x3 - (8 : Int))) H8))))))))))))))))))))))))) (BIf (decide (x3 ≥ (4 : Int))) (((10000 : Int) ≠ 0 ∧ IntKind.u32 = IntKind.u32 ∧ ((10000 : Int) ≠ 0 ∧ IntKind.u32 = IntKind.u32 ∧ ((100 : Int) ≠ 0 ∧ IntKind.u32 = IntKind.u32 ∧ ((100 : Int) ≠ 0 ∧ IntKind.u32 = IntKind.u32 ∧ (0 ≤ (IntKind.u32.wrap ((IntKind.u32.wrap ((Int.tmod (Int.tmod (IntKind.u32.wrap x2) (10000 : Int)) (100 : Int)) * (2 : Int))) + (1 : Int))) ∧ ixB ((⟨#[48, 48, 48, 49, 48, 50, 48, 51, 48, 52, 48, 53, 48, 54, 48, 55, 48, 56, 48, 57, 49, 48, 49, 49, 49, 50, 49, 51, 49, 52, 49, 53, 49, 54, 49, 55, 49, 56, 49, 57, 50, 48, 50, 49, 50, 50, 50, 51, 50, 52, 50, 53, 50, 54, 50, 55, 50, 56, 50, 57, 51, 48, 51, 49, 51, 50, 51, 51, 51, 52, 51, 53, 51, 54, 51, 55, 51, 56, 51, 57, 52, 48, 52, 49, 52, 50, 52, 51, 52, 52, 52, 53, 52, 54, 52, 55, 52, 56, 52, 57, 53, 48, 53, 49, 53, 50, 53, 51, 53, 52, 53, 53, 53, 54, 53, 55, 53, 56, 53, 57, 54, 48, 54, 49, 54, 50, 54, 51, 54, 52, 54, 53, 54, 54, 54, 55, 54, 56, 54, 57, 55, 48, 55, 49, 55, 50, 55, 51, 55, 52, 55, 53, 55, 54, 55, 55, 55, 56, 55, 57, 56, 48, 56, 49, 56, 50, 56, 51, 56, 52, 56, 53, 56, 54, 56, 55, 56, 56, 56, 57, 57, 48, 57, 49, 57, 50, 57, 51, 57, 52, 57, 53, 57, 54, 57, 55, 57, 56, 57, 57]⟩) : ByteArray) (IntKind.u32.wrap ((IntKind.u32.wrap ((Int.tmod (Int.tmod (IntKind.u32.wrap x2) (10000 : Int)) (100 : Int)) * (2 : Int))) + (1 : Int))).toNat fun x12 => (0 ≤ (IntKind.u32.wrap ((Int.tmod (Int.tmod (IntKind.u32.wrap x2) (10000 : Int)) (100 : Int)) * (2 : Int))) ∧ ixB ((⟨#[48, 48, 48, 49, 48, 50, 48, 51, 48, 52, 48, 53, 48, 54, 48, 55, 48, 56, 48, 57, 49, 48, 49, 49, 49, 50, 49, 51, 49, 52, 49, 53, 49, 54, 49, 55, 49, 56, 49, 57, 50, 48, 50, 49, 50, 50, 50, 51, 50, 52, 50, 53, 50, 54, 50, 55, 50, 56, 50, 57, 51, 48, 51, 49, 51, 50, 51, 51, 51, 52, 51, 53, 51, 54, 51, 55, 51, 56, 51, 57, 52, 48, 52, 49, 52, 50, 52, 51, 52, 52, 52, 53, 52, 54, 52, 55, 52, 56, 52, 57, 53, 48, 53, 49, 53, 50, 53, 51, 53, 52, 53, 53, 53, 54, 53, 55, 53, 56, 53, 57, 54, 48, 54, 49, 54, 50, 54, 51, 54, 52, 54, 53, 54, 54, 54, 55, 54, 56, 54, 57, 55, 48, 55, 49, 55, 50, 55, 51, 55, 52, 55, 53, 55, 54, 55, 55, 55, 56, 55, 57, 56, 48, 56, 49, 56, 50, 56, 51, 56, 52, 56, 53, 56, 54, 56, 55, 56, 56, 56, 57, 57, 48, 57, 49, 57, 50, 57, 51, 57, 52, 57, 53, 57, 54, 57, 55, 57, 56, 57, 57]⟩) : ByteArray) (IntKind.u32.wrap ((Int.tmod (Int.tmod (IntKind.u32.wrap x2) (10000 : Int)) (100 : Int)) * (2 : Int))).toNat fun x13 => ixI (IntKind.i64.wrap (x3 - (1 : Int))) n2 (NN A2 fun a9 => St H ((a9.add ((IntKind.i64.wrap (x3 - (1 : Int))).toNat * 1)).add 0) (.int .u8 x12) fun H9 => ixI (IntKind.i64.wrap (x3 - (2 : Int))) n2 (NN A2 fun a10 => St H9 ((a10.add ((IntKind.i64.wrap (x3 - (2 : Int))).toNat * 1)).add 0) (.int .u8 x13) fun H10 => (0 ≤ (IntKind.u32.wrap ((IntKind.u32.wrap ((IntKind.u32.wrap (Int.tdiv (Int.tmod (IntKind.u32.wrap x2) (10000 : Int)) (100 : Int))) * (2 : Int))) + (1 : Int))) ∧ ixB ((⟨#[48, 48, 48, 49, 48, 50, 48, 51, 48, 52, 48, 53, 48, 54, 48, 55, 48, 56, 48, 57, 49, 48, 49, 49, 49, 50, 49, 51, 49, 52, 49, 53, 49, 54, 49, 55, 49, 56, 49, 57, 50, 48, 50, 49, 50, 50, 50, 51, 50, 52, 50, 53, 50, 54, 50, 55, 50, 56, 50, 57, 51, 48, 51, 49, 51, 50, 51, 51, 51, 52, 51, 53, 51, 54, 51, 55, 51, 56, 51, 57, 52, 48, 52, 49, 52, 50, 52, 51, 52, 52, 52, 53, 52, 54, 52, 55, 52, 56, 52, 57, 53, 48, 53, 49, 53, 50, 53, 51, 53, 52, 53, 53, 53, 54, 53, 55, 53, 56, 53, 57, 54, 48, 54, 49, 54, 50, 54, 51, 54, 52, 54, 53, 54, 54, 54, 55, 54, 56, 54, 57, 55, 48, 55, 49, 55, 50, 55, 51, 55, 52, 55, 53, 55, 54, 55, 55, 55, 56, 55, 57, 56, 48, 56, 49, 56, 50, 56, 51, 56, 52, 56, 53, 56, 54, 56, 55, 56, 56, 56, 57, 57, 48, 57, 49, 57, 50, 57, 51, 57, 52, 57, 53, 57, 54, 57, 55, 57, 56, 57, 57]⟩) : ByteArray) (IntKind.u32.wrap ((IntKind.u32.wrap ((IntKind.u32.wrap (Int.tdiv (Int.tmod (IntKind.u32.wrap x2) (10000 : Int)) (100 : Int))) * (2 : Int))) + (1 : Int))).toNat fun x14 => (0 ≤ (IntKind.u32.wrap ((IntKind.u32.wrap (Int.tdiv (Int.tmod (IntKind.u32.wrap x2) (10000 : Int)) (100 : Int))) * (2 : Int))) ∧ ixB ((⟨#[48, 48, 48, 49, 48, 50, 48, 51, 48, 52, 48, 53, 48, 54, 48, 55, 48, 56, 48, 57, 49, 48, 49, 49, 49, 50, 49, 51, 49, 52, 49, 53, 49, 54, 49, 55, 49, 56, 49, 57, 50, 48, 50, 49, 50, 50, 50, 51, 50, 52, 50, 53, 50, 54, 50, 55, 50, 56, 50, 57, 51, 48, 51, 49, 51, 50, 51, 51, 51, 52, 51, 53, 51, 54, 51, 55, 51, 56, 51, 57, 52, 48, 52, 49, 52, 50, 52, 51, 52, 52, 52, 53, 52, 54, 52, 55, 52, 56, 52, 57, 53, 48, 53, 49, 53, 50, 53, 51, 53, 52, 53, 53, 53, 54, 53, 55, 53, 56, 53, 57, 54, 48, 54, 49, 54, 50, 54, 51, 54, 52, 54, 53, 54, 54, 54, 55, 54, 56, 54, 57, 55, 48, 55, 49, 55, 50, 55, 51, 55, 52, 55, 53, 55, 54, 55, 55, 55, 56, 55, 57, 56, 48, 56, 49, 56, 50, 56, 51, 56, 52, 56, 53, 56, 54, 56, 55, 56, 56, 56, 57, 57, 48, 57, 49, 57, 50, 57, 51, 57, 52, 57, 53, 57, 54, 57, 55, 57, 56, 57, 57]⟩) : ByteArray) (IntKind.u32.wrap ((IntKind.u32.wrap (Int.tdiv (Int.tmod (IntKind.u32.wrap x2) (10000 : Int)) (100 : Int))) * (2 : Int))).toNat fun x15 => ixI (IntKind.i64.wrap (x3 - (3 : Int))) n2 (NN A2 fun a11 => St H10 ((a11.add ((IntKind.i64.wrap (x3 - (3 : Int))).toNat * 1)).add 0) (.int .u8 x14) fun H11 => ixI (IntKind.i64.wrap (x3 - (4 : Int))) n2 (NN A2 fun a12 => St H11 ((a12.add ((IntKind.i64.wrap (x3 - (4 : Int))).toNat * 1)).add 0) (.int .u8 x15) fun H12 => W_internal_strconv_formatBase10.j20 K A2 n2 m2 (IntKind.i64.wrap (x3 - (4 : Int))) (IntKind.u32.wrap (Int.tdiv (IntKind.u32.wrap x2) (10000 : Int))) H12))))))))))))) (W_internal_strconv_formatBase10.j20 K A2 n2 m2 x3 (IntKind.u32.wrap x2) H))
def W_internal_strconv_formatBase10 (A1 : Option Addr) (n1 : Nat) (m1 : Nat) (x1 : Int) (H : Hp) (K : Value → Hp → Prop) : Prop :=
  (∃ k, W_internal_strconv_formatBase10.l1 K k A1 n1 m1 x1 ((n1 : Nat) : Int) H)
def W_internal_strconv_formatBase10.l1.L (K : Value → Hp → Prop) (k : Nat) : Mid := fun E D H =>
  DG (E.get? 0) fun w0 => DSl w0 fun A2 n2 m2 => DG (E.get? 1) fun w1 => DI .u64 w1 fun x2 => DG (E.get? 4) fun w4 => DI .i64 w4 fun x3 => DNilD D (W_internal_strconv_formatBase10.l1 K k A2 n2 m2 x2 x3 H)
def W_internal_strconv_formatBase10.Λ1 (_ : Value → Hp → Prop) (_R1 : Option Addr → Nat → Nat → Int → Int → Hp → Prop) : Cuts := Cuts.none (fun i => match Nat.beq i 23 with | true => some ([], [], 0) | false => match Nat.beq i 18 with | true => some ([], [], 0) | false => match Nat.beq i 17 with | true => some ([], [], 0) | false => match Nat.beq i 10 with | true => some ([], [], 0) | false => match Nat.beq i 9 with | true => some ([], [], 0) | false => match Nat.beq i 8 with | true => some ([], [], 0) | false => match Nat.beq i 7 with | true => some ([], [], 0) | false => none)
def W_internal_strconv_formatBase10.Λ (K : Value → Hp → Prop) : Cuts := ⟨fun i => match Nat.beq i 25 with | true => some (fun E D H => DG (E.get? 0) fun w0 => DSl w0 fun A4 n4 m4 => DG (E.get? 4) fun w4 => DI .i64 w4 fun x20 => DG (E.get? 12) fun w12 => DI .u32 w12 fun x21 => DNilD D (W_internal_strconv_formatBase10.j25 K A4 n4 m4 x20 x21 H)) | false => match Nat.beq i 20 with | true => some (fun E D H => DG (E.get? 0) fun w0 => DSl w0 fun A3 n3 m3 => DG (E.get? 4) fun w4 => DI .i64 w4 fun x16 => DG (E.get? 12) fun w12 => DI .u32 w12 fun x17 => DNilD D (W_internal_strconv_formatBase10.j20 K A3 n3 m3 x16 x17 H)) | false => none, fun i => match Nat.beq i 1 with | true => some (fun E D H => ∃ k, W_internal_strconv_formatBase10.l1.L K k E D H) | false => none, (fun i => match Nat.beq i 23 with | true => some ([], [], 0) | false => match Nat.beq i 18 with | true => some ([], [], 0) | false => match Nat.beq i 17 with | true => some ([], [], 0) | false => match Nat.beq i 10 with | true => some ([], [], 0) | false => match Nat.beq i 9 with | true => some ([], [], 0) | false => match Nat.beq i 8 with | true => some ([], [], 0) | false => match Nat.beq i 7 with | true => some ([], [], 0) | false => none)⟩
theorem W_internal_strconv_formatBase10.ok (A1 : Option Addr) (n1 : Nat) (m1 : Nat) (x1 : Int) (H : Hp) (K : Value → Hp → Prop) (h : W_internal_strconv_formatBase10 A1 n1 m1 x1 H K) : HCalls Tryd.prog 121 #[.slice A1 n1 m1, .int .u64 x1] H K :=
  hcalls Tryd.func121 rfl (Nat.le_of_ble_eq_true rfl) (hw_safe (Λ := (W_internal_strconv_formatBase10.Λ K)) mixWlstrconv _ _ _ _ _ (Eq.mp (by kernel_rfl) h) (obs_seq obs_region rfl (obs_seq (obs_block (obs_loop rfl (fun E D H h => by
      refine Safe.loop' (W_internal_strconv_formatBase10.l1.L K) (fun E D H h => ?_) (fun k E D H h => ?_) E D H h
      · obtain ⟨w0, e0, g1⟩ := DG.out h; obtain ⟨A2, n2, m2, rfl, g2⟩ := DSl.out g1; obtain ⟨w1, e1, g3⟩ := DG.out g2; obtain ⟨x2, rfl, g4⟩ := DI.out g3; obtain ⟨w4, e4, g5⟩ := DG.out g4; obtain ⟨x3, rfl, g6⟩ := DI.out g5; obtain ⟨rfl, h'⟩ := DNilD.out g6; exact h'
      · obtain ⟨w0, e0, g1⟩ := DG.out h
        obtain ⟨A2, n2, m2, rfl, g2⟩ := DSl.out g1
        obtain ⟨w1, e1, g3⟩ := DG.out g2
        obtain ⟨x2, rfl, g4⟩ := DI.out g3
        obtain ⟨w4, e4, g5⟩ := DG.out g4
        obtain ⟨x3, rfl, g6⟩ := DI.out g5
        obtain ⟨rfl, h'⟩ := DNilD.out g6
        exact (hw_safe (Λ := (W_internal_strconv_formatBase10.Λ1 K (W_internal_strconv_formatBase10.l1 K k))) mixWlstrconv _ _ [(0, .slice A2 n2 m2), (1, .int .u64 x2), (4, .int .i64 x3)] [] H (Eq.mp (by kernel_rfl) h') (obs_seq (obs_seq obs_region rfl (obs_cond obs_skip obs_exit)) rfl (obs_block (obs_seq obs_region rfl (obs_seq obs_region rfl (obs_seq obs_region rfl (obs_seq obs_region rfl (obs_seq obs_region rfl (obs_seq obs_region rfl (obs_seq obs_region rfl (obs_seq obs_region rfl (obs_seq obs_region rfl obs_region)))))))))))).weaken (EnvLe.cons e0 (EnvLe.cons e1 (EnvLe.cons e4 (EnvLe.nil _)))) (Hp.le_refl _)))) rfl (obs_seq obs_region rfl (obs_seqc (obs_seq obs_region rfl (obs_cond (obs_seq obs_region rfl (obs_seq obs_region rfl (obs_seq obs_region rfl (obs_seq obs_region rfl (obs_seq obs_region rfl obs_region))))) obs_skip)) rfl (fun E D H h => by
      obtain ⟨w0, e0, g1⟩ := DG.out h
      obtain ⟨A3, n3, m3, rfl, g2⟩ := DSl.out g1
      obtain ⟨w4, e4, g3⟩ := DG.out g2
      obtain ⟨x16, rfl, g4⟩ := DI.out g3
      obtain ⟨w12, e12, g5⟩ := DG.out g4
      obtain ⟨x17, rfl, g6⟩ := DI.out g5
      obtain ⟨rfl, h'⟩ := DNilD.out g6
      exact (hw_safe (Λ := (W_internal_strconv_formatBase10.Λ K)) mixWlstrconv _ _ [(0, .slice A3 n3 m3), (4, .int .i64 x16), (12, .int .u32 x17)] [] H (Eq.mp (by kernel_rfl) h') (obs_seqc (obs_seq obs_region rfl (obs_cond (obs_seq obs_region rfl (obs_seq obs_region rfl (obs_seq obs_region rfl obs_region))) obs_skip)) rfl (fun E D H h => by
          obtain ⟨w0, e0, g1⟩ := DG.out h
          obtain ⟨A4, n4, m4, rfl, g2⟩ := DSl.out g1
          obtain ⟨w4, e4, g3⟩ := DG.out g2
          obtain ⟨x20, rfl, g4⟩ := DI.out g3
          obtain ⟨w12, e12, g5⟩ := DG.out g4
          obtain ⟨x21, rfl, g6⟩ := DI.out g5
          obtain ⟨rfl, h'⟩ := DNilD.out g6
          exact (hw_safe (Λ := (W_internal_strconv_formatBase10.Λ K)) mixWlstrconv _ _ [(0, .slice A4 n4 m4), (4, .int .i64 x20), (12, .int .u32 x21)] [] H (Eq.mp (by kernel_rfl) h') (obs_seq obs_region rfl (obs_cond obs_region obs_skip))).weaken (EnvLe.cons e0 (EnvLe.cons e4 (EnvLe.cons e12 (EnvLe.nil _)))) (Hp.le_refl _)))).weaken (EnvLe.cons e0 (EnvLe.cons e4 (EnvLe.cons e12 (EnvLe.nil _)))) (Hp.le_refl _)))))))

-- internal/strconv.log10Pow2
def W_internal_strconv_log10Pow2 (x1 : Int) (H : Hp) (K : Value → Hp → Prop) : Prop :=
  (0 ≤ (18 : Int) ∧ K (.int .i64 (shrI .i64 (IntKind.i64.wrap (x1 * (78913 : Int))) (18 : Int))) H)
def W_internal_strconv_log10Pow2.Λ (_ : Value → Hp → Prop) : Cuts := Cuts.none (fun _ => none)
theorem W_internal_strconv_log10Pow2.ok (x1 : Int) (H : Hp) (K : Value → Hp → Prop) (h : W_internal_strconv_log10Pow2 x1 H K) : HCalls Tryd.prog 133 #[.int .i64 x1] H K :=
  hcalls Tryd.func133 rfl (Nat.le_of_ble_eq_true rfl) (hw_safe (Λ := Cuts.none (fun _ => none)) mixWlstrconv _ _ _ _ _ (Eq.mp (by kernel_rfl) h) (obs_none _ _ _ _ _))

-- internal/strconv.bool2[int]
def W_internal_strconv_bool2_int (c1 : Bool) (H : Hp) (K : Value → Hp → Prop) : Prop :=
  BIf c1 (K (.int .i64 (1 : Int)) H) (K (.int .i64 (0 : Int)) H)
def W_internal_strconv_bool2_int.Λ (_ : Value → Hp → Prop) : Cuts := Cuts.none (fun _ => none)
theorem W_internal_strconv_bool2_int.ok (c1 : Bool) (H : Hp) (K : Value → Hp → Prop) (h : W_internal_strconv_bool2_int c1 H K) : HCalls Tryd.prog 135 #[.bool c1] H K :=
  hcalls Tryd.func135 rfl (Nat.le_of_ble_eq_true rfl) (hw_safe (Λ := Cuts.none (fun _ => none)) mixWlstrconv _ _ _ _ _ (Eq.mp (by kernel_rfl) h) (obs_none _ _ _ _ _))

-- internal/strconv.isPowerOfTwo
def W_internal_strconv_isPowerOfTwo (x1 : Int) (H : Hp) (K : Value → Hp → Prop) : Prop :=
  K (.bool ((bAnd .i64 x1 (IntKind.i64.wrap (x1 - (1 : Int)))) == (0 : Int))) H
def W_internal_strconv_isPowerOfTwo.Λ (_ : Value → Hp → Prop) : Cuts := Cuts.none (fun _ => none)
theorem W_internal_strconv_isPowerOfTwo.ok (x1 : Int) (H : Hp) (K : Value → Hp → Prop) (h : W_internal_strconv_isPowerOfTwo x1 H K) : HCalls Tryd.prog 136 #[.int .i64 x1] H K :=
  hcalls Tryd.func136 rfl (Nat.le_of_ble_eq_true rfl) (hw_safe (Λ := Cuts.none (fun _ => none)) mixWlstrconv _ _ _ _ _ (Eq.mp (by kernel_rfl) h) (obs_none _ _ _ _ _))

end Go.Proofs.YtgkdkemhiglpdaaDoor.W

end
section
/-! Wabacistlaw38 -/
/- Formulas of functions, printed by wip/tools/hwp.py. -/
set_option maxRecDepth 100000
set_option linter.unusedVariables false
namespace Go.Proofs.YtgkdkemhiglpdaaDoor.W
open Go Go.Hw

theorem mixWabacistlaw38 : Tryd.prog.follows .mixedOrders = true := by kernel_rfl
-- abacistlaw38.GenRows
def W_abacistlaw38_GenRows.j9 (K : Value → Hp → Prop) (x12 : Int) (x13 : Int) (a2 : Addr) (A2 : Option Addr) (n2 : Nat) (m2 : Nat) (x14 : Int) (x15 : Int) (x16 : Int) (H : Hp) : Prop :=
  LdA H a2 4 fun l14 => HCalls Tryd.prog 30 #[.agg l14.toArray] H fun v14 H11 => DB v14 fun c8 => BIf (!c8) (BIf (x14 == (18 : Int)) (BIf (x16 == (18 : Int)) (BIf (((n2 : Nat) : Int) == (0 : Int)) (K (.bool (x15 == (0 : Int))) H11) (K (.bool false) H11)) (K (.bool false) H11)) (K (.bool false) H11)) (BIf (decide (x12 < (0 : Int))) (BIf (x14 == (2 : Int)) (BIf (x16 == (2 : Int)) (BIf (((n2 : Nat) : Int) == (0 : Int)) (K (.bool (x15 == (0 : Int))) H11) (K (.bool false) H11)) (K (.bool false) H11)) (K (.bool false) H11)) (BIf (decide (x12 > (100 : Int))) (BIf (x14 == (2 : Int)) (BIf (x16 == (2 : Int)) (BIf (((n2 : Nat) : Int) == (0 : Int)) (K (.bool (x15 == (0 : Int))) H11) (K (.bool false) H11)) (K (.bool false) H11)) (K (.bool false) H11)) (LdA H11 a2 4 fun l15 => HCalls Tryd.prog 31 #[.agg l15.toArray, .int .i64 (IntKind.i64.wrap (x12 + (1 : Int)))] H11 fun v15 H12 => DSl v15 fun A3 n3 m3 => BIf (x16 != (0 : Int)) (K (.bool false) H12) (ixI x12 n3 (NN A3 fun a3 => Ld H12 (a3.add (x12.toNat * 1)) fun v16 => DI .u64 v16 fun x17 => BIf (x15 != x17) (K (.bool false) H12) (BIf (decide (x13 < (0 : Int))) (BIf (x14 == (14 : Int)) (K (.bool (((n2 : Nat) : Int) == (0 : Int))) H12) (K (.bool false) H12)) (BIf (decide (x13 > (60 : Int))) (BIf (x14 == (14 : Int)) (K (.bool (((n2 : Nat) : Int) == (0 : Int))) H12) (K (.bool false) H12)) (LdA H12 a2 4 fun l16 => HCalls Tryd.prog 32 #[.agg l16.toArray, .int .i64 x13] H12 fun v17 H13 => DTup v17 fun l17 => DCons l17 fun v18 l18 => DSl v18 fun A4 n4 m4 => DCons l18 fun v19 l19 => DI .i64 v19 fun x18 => DNil l19 (LdA H13 a2 4 fun l20 => HCalls Tryd.prog 31 #[.agg l20.toArray, .int .i64 (IntKind.i64.wrap (x12 + x13))] H13 fun v20 H14 => DSl v20 fun A5 n5 m5 => BIf (x14 == (0 : Int)) (BIf (x18 == (0 : Int)) (slB n5 m5 (some x12) none fun n6 n7 => HCalls Tryd.prog 21 #[.slice A2 n2 m2, .slice (slA A5 m5 n6 1) (n7 - n6) (m5 - n6)] H14 fun v21 H15 => DB v21 fun c9 => BIf c9 (slB n5 m5 none (some x13) fun n8 n9 => HCalls Tryd.prog 21 #[.slice A4 n4 m4, .slice (slA A5 m5 n8 1) (n9 - n8) (m5 - n8)] H15 fun v22 H16 => DB v22 fun c10 => K (.bool c10) H16) (K (.bool false) H15)) (K (.bool false) H14)) (K (.bool false) H14))))))))))
def W_abacistlaw38_GenRows.j5 (K : Value → Hp → Prop) (x7 : Int) (x8 : Int) (a1 : Addr) (H : Hp) : Prop :=
  LdA H a1 4 fun l1 => HCalls Tryd.prog 27 #[.agg l1.toArray, .int .i64 x7, .int .i64 x8] H fun v2 H3 => DTup v2 fun l2 => DCons l2 fun v3 l3 => DSl v3 fun A1 n1 m1 => DCons l3 fun v4 l4 => DI .i64 v4 fun x9 => DNil l4 (LdA H3 a1 4 fun l5 => HCalls Tryd.prog 28 #[.agg l5.toArray, .int .i64 x7] H3 fun v5 H4 => DTup v5 fun l6 => DCons l6 fun v6 l7 => DI .u64 v6 fun x10 => DCons l7 fun v7 l8 => DI .i64 v7 fun x11 => DNil l8 ((LdA H4 a1 4 fun l9 => (HCalls Tryd.prog 29 #[.agg l9.toArray] H4 fun v8 H5 => DB v8 fun c2 => LdA H5 a1 4 fun l10 => HCalls Tryd.prog 30 #[.agg l10.toArray] H5 fun v9 H6 => DB v9 fun c3 => BIf (!(c2 == c3)) (K (.bool false) H6) (W_abacistlaw38_GenRows.j9 K x7 x8 a1 A1 n1 m1 x9 x10 x11 H6)) ∧ (LdA H4 a1 4 fun l11 => HCalls Tryd.prog 29 #[.agg l9.toArray] H4 fun v10 H7 => DB v10 fun c4 => HCalls Tryd.prog 30 #[.agg l11.toArray] H7 fun v11 H8 => DB v11 fun c5 => BIf (!(c4 == c5)) (K (.bool false) H8) (W_abacistlaw38_GenRows.j9 K x7 x8 a1 A1 n1 m1 x9 x10 x11 H8))) ∧ (LdA H4 a1 4 fun l12 => LdA H4 a1 4 fun l13 => HCalls Tryd.prog 29 #[.agg l13.toArray] H4 fun v12 H9 => DB v12 fun c6 => HCalls Tryd.prog 30 #[.agg l12.toArray] H9 fun v13 H10 => DB v13 fun c7 => BIf (!(c6 == c7)) (K (.bool false) H10) (W_abacistlaw38_GenRows.j9 K x7 x8 a1 A1 n1 m1 x9 x10 x11 H10))))
def W_abacistlaw38_GenRows (x1 : Int) (x2 : Int) (x3 : Int) (x4 : Int) (x5 : Int) (x6 : Int) (H : Hp) (K : Value → Hp → Prop) : Prop :=
  Nw H (.obj (.cells #[.int .i64 x1, .int .u64 x2, .int .u64 x3, .int .u64 x4] 75)) fun b1 H1 => HCalls Tryd.prog 26 #[] H1 fun v1 H2 => DB v1 fun c1 => BIf (!c1) (K (.bool false) H2) (BIf (decide (x6 > (60 : Int))) (BIf (decide (x6 ≤ (1048576 : Int))) (K (.bool true) H2) (BIf (decide (x5 > (100 : Int))) (BIf (decide (x5 < (4294967296 : Int))) (K (.bool true) H2) (W_abacistlaw38_GenRows.j5 K x5 x6 (⟨b1, 0, none⟩ : Addr) H2)) (W_abacistlaw38_GenRows.j5 K x5 x6 (⟨b1, 0, none⟩ : Addr) H2))) (BIf (decide (x5 > (100 : Int))) (BIf (decide (x5 < (4294967296 : Int))) (K (.bool true) H2) (W_abacistlaw38_GenRows.j5 K x5 x6 (⟨b1, 0, none⟩ : Addr) H2)) (W_abacistlaw38_GenRows.j5 K x5 x6 (⟨b1, 0, none⟩ : Addr) H2)))
def W_abacistlaw38_GenRows.Λ (K : Value → Hp → Prop) : Cuts := ⟨fun i => match Nat.beq i 9 with | true => some (fun E D H => DG (E.get? 1) fun w1 => DI .i64 w1 fun x12 => DG (E.get? 2) fun w2 => DI .i64 w2 fun x13 => DG (E.get? 3) fun w3 => DP w3 fun pw3 => NN pw3 fun a2 => DG (E.get? 7) fun w7 => DSl w7 fun A2 n2 m2 => DG (E.get? 8) fun w8 => DI .i64 w8 fun x14 => DG (E.get? 9) fun w9 => DI .u64 w9 fun x15 => DG (E.get? 10) fun w10 => DI .i64 w10 fun x16 => DNilD D (W_abacistlaw38_GenRows.j9 K x12 x13 a2 A2 n2 m2 x14 x15 x16 H)) | false => match Nat.beq i 5 with | true => some (fun E D H => DG (E.get? 1) fun w1 => DI .i64 w1 fun x7 => DG (E.get? 2) fun w2 => DI .i64 w2 fun x8 => DG (E.get? 3) fun w3 => DP w3 fun pw3 => NN pw3 fun a1 => DNilD D (W_abacistlaw38_GenRows.j5 K x7 x8 a1 H)) | false => none, fun i => none, (fun i => match Nat.beq i 7 with | true => some ([], [], 0) | false => none)⟩
theorem W_abacistlaw38_GenRows.ok (x1 : Int) (x2 : Int) (x3 : Int) (x4 : Int) (x5 : Int) (x6 : Int) (H : Hp) (K : Value → Hp → Prop) (h : W_abacistlaw38_GenRows x1 x2 x3 x4 x5 x6 H K) : HCalls Tryd.prog 7 #[.agg #[.int .i64 x1, .int .u64 x2, .int .u64 x3, .int .u64 x4], .int .i64 x5, .int .i64 x6] H K :=
  hcalls Tryd.func7 rfl (Nat.le_of_ble_eq_true rfl) (hw_safe (Λ := (W_abacistlaw38_GenRows.Λ K)) mixWabacistlaw38 _ _ _ _ _ (Eq.mp (by kernel_rfl) h) (obs_seq obs_region rfl (obs_seq (obs_seq obs_region rfl (obs_cond (obs_seq obs_region rfl obs_ret) obs_skip)) rfl (obs_seqc (obs_seq obs_region rfl (obs_cond (obs_seq obs_region rfl obs_ret) obs_skip)) rfl (fun E D H h => by
      obtain ⟨w1, e1, g1⟩ := DG.out h
      obtain ⟨x7, rfl, g2⟩ := DI.out g1
      obtain ⟨w2, e2, g3⟩ := DG.out g2
      obtain ⟨x8, rfl, g4⟩ := DI.out g3
      obtain ⟨w3, e3, g5⟩ := DG.out g4
      obtain ⟨pw3, rfl, g6⟩ := DP.out g5
      obtain ⟨a1, rfl, g7⟩ := NN.out g6
      obtain ⟨rfl, h'⟩ := DNilD.out g7
      exact (hw_safe (Λ := (W_abacistlaw38_GenRows.Λ K)) mixWabacistlaw38 _ _ [(1, .int .i64 x7), (2, .int .i64 x8), (3, .pointer (some a1))] [] H (Eq.mp (by kernel_rfl) h') (obs_seq obs_region rfl (obs_seq obs_region rfl (obs_seqc (obs_seq obs_region rfl (obs_cond (obs_seq obs_region rfl obs_ret) obs_skip)) rfl (fun E D H h => by
          obtain ⟨w1, e1, g1⟩ := DG.out h
          obtain ⟨x12, rfl, g2⟩ := DI.out g1
          obtain ⟨w2, e2, g3⟩ := DG.out g2
          obtain ⟨x13, rfl, g4⟩ := DI.out g3
          obtain ⟨w3, e3, g5⟩ := DG.out g4
          obtain ⟨pw3, rfl, g6⟩ := DP.out g5
          obtain ⟨a2, rfl, g7⟩ := NN.out g6
          obtain ⟨w7, e7, g8⟩ := DG.out g7
          obtain ⟨A2, n2, m2, rfl, g9⟩ := DSl.out g8
          obtain ⟨w8, e8, g10⟩ := DG.out g9
          obtain ⟨x14, rfl, g11⟩ := DI.out g10
          obtain ⟨w9, e9, g12⟩ := DG.out g11
          obtain ⟨x15, rfl, g13⟩ := DI.out g12
          obtain ⟨w10, e10, g14⟩ := DG.out g13
          obtain ⟨x16, rfl, g15⟩ := DI.out g14
          obtain ⟨rfl, h'⟩ := DNilD.out g15
          exact (hw_safe (Λ := (W_abacistlaw38_GenRows.Λ K)) mixWabacistlaw38 _ _ [(1, .int .i64 x12), (2, .int .i64 x13), (3, .pointer (some a2)), (7, .slice A2 n2 m2), (8, .int .i64 x14), (9, .int .u64 x15), (10, .int .i64 x16)] [] H (Eq.mp (by kernel_rfl) h') (obs_seq (obs_seq obs_region rfl (obs_cond (obs_seq obs_region rfl obs_ret) obs_skip)) rfl (obs_seq (obs_seq obs_region rfl (obs_cond (obs_seq obs_region rfl obs_ret) obs_skip)) rfl (obs_seq obs_region rfl (obs_seq (obs_seq obs_region rfl (obs_cond (obs_seq obs_region rfl obs_ret) obs_skip)) rfl (obs_seq (obs_seq obs_region rfl (obs_cond (obs_seq obs_region rfl obs_ret) obs_skip)) rfl (obs_seq obs_region rfl (obs_seq obs_region rfl (obs_seq obs_region rfl obs_ret))))))))).weaken (EnvLe.cons e1 (EnvLe.cons e2 (EnvLe.cons e3 (EnvLe.cons e7 (EnvLe.cons e8 (EnvLe.cons e9 (EnvLe.cons e10 (EnvLe.nil _)))))))) (Hp.le_refl _)))))).weaken (EnvLe.cons e1 (EnvLe.cons e2 (EnvLe.cons e3 (EnvLe.nil _)))) (Hp.le_refl _))))))

-- abacistlaw38.GenFar
def W_abacistlaw38_GenFar.j28 (K : Value → Hp → Prop) (R9 : Int → Addr → Option Addr → Nat → Nat → Int → Hp → Prop) (x35 : Int) (a4 : Addr) (A3 : Option Addr) (n3 : Nat) (m3 : Nat) (x36 : Int) (x37 : Int) (H : Hp) : Prop :=
  ixI x36 n3 (NN A3 fun a5 => Ld H (a5.add (x36.toNat * 1)) fun v33 => DI .u64 v33 fun x38 => BIf (x38 != x37) (K (.bool false) H) (R9 x35 a4 A3 n3 m3 (IntKind.i64.wrap (x36 + (1 : Int))) H))
def W_abacistlaw38_GenFar.l9 (K : Value → Hp → Prop) : Nat → Int → Addr → Option Addr → Nat → Nat → Int → Hp → Prop
  | 0, _, _, _, _, _, _, _ => False
  | k + 1, x7, a1, A2, n2, m2, x8, H =>
    let R9 := W_abacistlaw38_GenFar.l9 K k
    BIf (decide (x8 < (3 : Int))) (LdA H a1 4 fun l6 => HCalls Tryd.prog 28 #[.agg l6.toArray, .int .i64 (IntKind.i64.wrap ((IntKind.i64.wrap x7) + x8))] H fun v6 H5 => DTup v6 fun l7 => DCons l7 fun v7 l8 => DI .u64 v7 fun x9 => DCons l8 fun v8 l9 => DI .i64 v8 fun x10 => DNil l9 (BIf (x10 != (0 : Int)) (K (.bool false) H5) (ixI x8 n2 (NN A2 fun a2 => Ld H5 (a2.add (x8.toNat * 1)) fun v9 => DI .u64 v9 fun x11 => BIf (x9 != x11) (K (.bool false) H5) (BIf (x8 == (0 : Int)) (R9 x7 a1 A2 n2 m2 (IntKind.i64.wrap (x8 + (1 : Int))) H5) (ixI (IntKind.i64.wrap (x8 - (1 : Int))) n2 (NN A2 fun a3 => Ld H5 (a3.add ((IntKind.i64.wrap (x8 - (1 : Int))).toNat * 1)) fun v10 => DI .u64 v10 fun x12 => Ld H5 (a1.add 0) fun v11 => DI .i64 v11 fun x13 => BIf (x13 == (2 : Int)) (Ld H5 (a1.add 2) fun v12 => DI .u64 v12 fun x14 => HCalls Tryd.prog 33 #[.int .u64 x12, .int .u64 x14] H5 fun v13 H6 => DI .u64 v13 fun x15 => W_abacistlaw38_GenFar.j28 K R9 x7 a1 A2 n2 m2 x8 x15 H6) (BIf (x13 == (3 : Int)) (Ld H5 (a1.add 2) fun v14 => DI .u64 v14 fun x16 => HCalls Tryd.prog 34 #[.int .u64 x12, .int .u64 x16] H5 fun v15 H7 => DI .u64 v15 fun x17 => W_abacistlaw38_GenFar.j28 K R9 x7 a1 A2 n2 m2 x8 x17 H7) (BIf (x13 == (4 : Int)) (Ld H5 (a1.add 2) fun v16 => DI .u64 v16 fun x18 => QCall Tryd.prog 34 #[.int .u64 x12, .int .u64 x18] H5 fun v17 => DI .u64 v17 fun x19 => Ld H5 (a1.add 3) fun v18 => DI .u64 v18 fun x20 => QCall Tryd.prog 33 #[.int .u64 x19, .int .u64 x20] H5 fun v19 => DI .u64 v19 fun x21 => W_abacistlaw38_GenFar.j28 K R9 x7 a1 A2 n2 m2 x8 x21 H5) (BIf (x13 == (5 : Int)) (Ld H5 (a1.add 3) fun v20 => DI .u64 v20 fun x22 => BIf (x22 == (0 : Int)) (Ld H5 (a1.add 2) fun v21 => DI .u64 v21 fun x23 => BIf ((IntKind.u64.wrap ((IntKind.u64.wrap x7) + (IntKind.u64.wrap x8))) == x23) (Ld H5 (a1.add 1) fun v30 => DI .u64 v30 fun x32 => W_abacistlaw38_GenFar.j28 K R9 x7 a1 A2 n2 m2 x8 x32 H5) (Ld H5 (a1.add 3) fun v22 => DI .u64 v22 fun x24 => BIf (decide (x24 > (0 : Int))) (Ld H5 (a1.add 3) fun v24 => DI .u64 v24 fun x26 => (x26 ≠ 0 ∧ IntKind.u64 = IntKind.u64 ∧ Ld H5 (a1.add 2) fun v26 => DI .u64 v26 fun x28 => Ld H5 (a1.add 3) fun v28 => DI .u64 v28 fun x30 => (x30 ≠ 0 ∧ IntKind.u64 = IntKind.u64 ∧ BIf ((Int.tmod (IntKind.u64.wrap ((IntKind.u64.wrap x7) + (IntKind.u64.wrap x8))) x26) == (Int.tmod x28 x30)) (Ld H5 (a1.add 1) fun v31 => DI .u64 v31 fun x33 => W_abacistlaw38_GenFar.j28 K R9 x7 a1 A2 n2 m2 x8 x33 H5) (W_abacistlaw38_GenFar.j28 K R9 x7 a1 A2 n2 m2 x8 (0 : Int) H5)))) (W_abacistlaw38_GenFar.j28 K R9 x7 a1 A2 n2 m2 x8 (0 : Int) H5))) (Ld H5 (a1.add 3) fun v23 => DI .u64 v23 fun x25 => BIf (decide (x25 > (0 : Int))) (Ld H5 (a1.add 3) fun v25 => DI .u64 v25 fun x27 => (x27 ≠ 0 ∧ IntKind.u64 = IntKind.u64 ∧ Ld H5 (a1.add 2) fun v27 => DI .u64 v27 fun x29 => Ld H5 (a1.add 3) fun v29 => DI .u64 v29 fun x31 => (x31 ≠ 0 ∧ IntKind.u64 = IntKind.u64 ∧ BIf ((Int.tmod (IntKind.u64.wrap ((IntKind.u64.wrap x7) + (IntKind.u64.wrap x8))) x27) == (Int.tmod x29 x31)) (Ld H5 (a1.add 1) fun v32 => DI .u64 v32 fun x34 => W_abacistlaw38_GenFar.j28 K R9 x7 a1 A2 n2 m2 x8 x34 H5) (W_abacistlaw38_GenFar.j28 K R9 x7 a1 A2 n2 m2 x8 (0 : Int) H5)))) (W_abacistlaw38_GenFar.j28 K R9 x7 a1 A2 n2 m2 x8 (0 : Int) H5))) (W_abacistlaw38_GenFar.j28 K R9 x7 a1 A2 n2 m2 x8 x12 H5))))))))))) (K (.bool true) H)
def W_abacistlaw38_GenFar (x1 : Int) (x2 : Int) (x3 : Int) (x4 : Int) (x5 : Int) (H : Hp) (K : Value → Hp → Prop) : Prop :=
  Nw H (.obj (.cells #[.int .i64 x1, .int .u64 x2, .int .u64 x3, .int .u64 x4] 75)) fun b1 H1 => HCalls Tryd.prog 26 #[] H1 fun v1 H2 => DB v1 fun c1 => BIf (!c1) (K (.bool false) H2) (LdA H2 (⟨b1, 0, none⟩ : Addr) 4 fun l1 => HCalls Tryd.prog 30 #[.agg l1.toArray] H2 fun v2 H3 => DB v2 fun c2 => BIf (!c2) (K (.bool true) H3) (BIf (decide (x5 > (4294967290 : Int))) (K (.bool true) H3) (LdA H3 (⟨b1, 0, none⟩ : Addr) 4 fun l2 => HCalls Tryd.prog 27 #[.agg l2.toArray, .int .i64 (IntKind.i64.wrap x5), .int .i64 (3 : Int)] H3 fun v3 H4 => DTup v3 fun l3 => DCons l3 fun v4 l4 => DSl v4 fun A1 n1 m1 => DCons l4 fun v5 l5 => DI .i64 v5 fun x6 => DNil l5 (BIf (x6 != (0 : Int)) (K (.bool false) H4) (BIf (((n1 : Nat) : Int) != (3 : Int)) (K (.bool false) H4) ((∃ k, W_abacistlaw38_GenFar.l9 K k x5 (⟨b1, 0, none⟩ : Addr) A1 n1 m1 (0 : Int) H4)))))))
def W_abacistlaw38_GenFar.l9.L (K : Value → Hp → Prop) (k : Nat) : Mid := fun E D H =>
  DG (E.get? 1) fun w1 => DI .u32 w1 fun x7 => DG (E.get? 2) fun w2 => DP w2 fun pw2 => NN pw2 fun a1 => DG (E.get? 5) fun w5 => DSl w5 fun A2 n2 m2 => DG (E.get? 7) fun w7 => DI .i64 w7 fun x8 => DNilD D (W_abacistlaw38_GenFar.l9 K k x7 a1 A2 n2 m2 x8 H)
def W_abacistlaw38_GenFar.Λ9 (K : Value → Hp → Prop) (R9 : Int → Addr → Option Addr → Nat → Nat → Int → Hp → Prop) : Cuts := ⟨fun i => match Nat.beq i 28 with | true => some (fun E D H => DG (E.get? 1) fun w1 => DI .u32 w1 fun x35 => DG (E.get? 2) fun w2 => DP w2 fun pw2 => NN pw2 fun a4 => DG (E.get? 5) fun w5 => DSl w5 fun A3 n3 m3 => DG (E.get? 7) fun w7 => DI .i64 w7 fun x36 => DG (E.get? 10) fun w10 => DI .u64 w10 fun x37 => DNilD D (W_abacistlaw38_GenFar.j28 K R9 x35 a4 A3 n3 m3 x36 x37 H)) | false => none, fun i => none, (fun _ => none)⟩
def W_abacistlaw38_GenFar.Λ (K : Value → Hp → Prop) : Cuts := ⟨fun i => none, fun i => match Nat.beq i 9 with | true => some (fun E D H => ∃ k, W_abacistlaw38_GenFar.l9.L K k E D H) | false => none, (fun _ => none)⟩
theorem W_abacistlaw38_GenFar.ok (x1 : Int) (x2 : Int) (x3 : Int) (x4 : Int) (x5 : Int) (H : Hp) (K : Value → Hp → Prop) (h : W_abacistlaw38_GenFar x1 x2 x3 x4 x5 H K) : HCalls Tryd.prog 8 #[.agg #[.int .i64 x1, .int .u64 x2, .int .u64 x3, .int .u64 x4], .int .u32 x5] H K :=
  hcalls Tryd.func8 rfl (Nat.le_of_ble_eq_true rfl) (hw_safe (Λ := (W_abacistlaw38_GenFar.Λ K)) mixWabacistlaw38 _ _ _ _ _ (Eq.mp (by kernel_rfl) h) (obs_seq obs_region rfl (obs_seq (obs_seq obs_region rfl (obs_cond (obs_seq obs_region rfl obs_ret) obs_skip)) rfl (obs_seq (obs_seq obs_region rfl (obs_cond (obs_seq obs_region rfl obs_ret) obs_skip)) rfl (obs_seq obs_region rfl (obs_seq (obs_seq obs_region rfl (obs_cond (obs_seq obs_region rfl obs_ret) obs_skip)) rfl (obs_seq (obs_seq obs_region rfl (obs_block (obs_loop rfl (fun E D H h => by
      refine Safe.loop' (W_abacistlaw38_GenFar.l9.L K) (fun E D H h => ?_) (fun k E D H h => ?_) E D H h
      · obtain ⟨w1, e1, g1⟩ := DG.out h; obtain ⟨x7, rfl, g2⟩ := DI.out g1; obtain ⟨w2, e2, g3⟩ := DG.out g2; obtain ⟨pw2, rfl, g4⟩ := DP.out g3; obtain ⟨a1, rfl, g5⟩ := NN.out g4; obtain ⟨w5, e5, g6⟩ := DG.out g5; obtain ⟨A2, n2, m2, rfl, g7⟩ := DSl.out g6; obtain ⟨w7, e7, g8⟩ := DG.out g7; obtain ⟨x8, rfl, g9⟩ := DI.out g8; obtain ⟨rfl, h'⟩ := DNilD.out g9; exact h'
      · obtain ⟨w1, e1, g1⟩ := DG.out h
        obtain ⟨x7, rfl, g2⟩ := DI.out g1
        obtain ⟨w2, e2, g3⟩ := DG.out g2
        obtain ⟨pw2, rfl, g4⟩ := DP.out g3
        obtain ⟨a1, rfl, g5⟩ := NN.out g4
        obtain ⟨w5, e5, g6⟩ := DG.out g5
        obtain ⟨A2, n2, m2, rfl, g7⟩ := DSl.out g6
        obtain ⟨w7, e7, g8⟩ := DG.out g7
        obtain ⟨x8, rfl, g9⟩ := DI.out g8
        obtain ⟨rfl, h'⟩ := DNilD.out g9
        exact (hw_safe (Λ := (W_abacistlaw38_GenFar.Λ9 K (W_abacistlaw38_GenFar.l9 K k))) mixWabacistlaw38 _ _ [(1, .int .u32 x7), (2, .pointer (some a1)), (5, .slice A2 n2 m2), (7, .int .i64 x8)] [] H (Eq.mp (by kernel_rfl) h') (obs_seq (obs_seq obs_region rfl (obs_cond obs_skip obs_exit)) rfl (obs_seq (obs_block (obs_seq obs_region rfl (obs_seq (obs_seq obs_region rfl (obs_cond (obs_seq obs_region rfl obs_ret) obs_skip)) rfl (obs_seq (obs_seq obs_region rfl (obs_cond obs_exit obs_skip)) rfl (obs_seq obs_region rfl (obs_seqc (obs_seq obs_region rfl (obs_block (obs_seq obs_region rfl (obs_cond obs_region (obs_seq obs_region rfl (obs_cond obs_region (obs_seq obs_region rfl (obs_cond obs_region (obs_seq obs_region rfl (obs_cond (obs_seq obs_region rfl (obs_seq obs_region rfl (obs_seq obs_region rfl (obs_cond obs_region obs_skip)))) obs_skip)))))))))) rfl (fun E D H h => by
            obtain ⟨w1, e1, g1⟩ := DG.out h
            obtain ⟨x35, rfl, g2⟩ := DI.out g1
            obtain ⟨w2, e2, g3⟩ := DG.out g2
            obtain ⟨pw2, rfl, g4⟩ := DP.out g3
            obtain ⟨a4, rfl, g5⟩ := NN.out g4
            obtain ⟨w5, e5, g6⟩ := DG.out g5
            obtain ⟨A3, n3, m3, rfl, g7⟩ := DSl.out g6
            obtain ⟨w7, e7, g8⟩ := DG.out g7
            obtain ⟨x36, rfl, g9⟩ := DI.out g8
            obtain ⟨w10, e10, g10⟩ := DG.out g9
            obtain ⟨x37, rfl, g11⟩ := DI.out g10
            obtain ⟨rfl, h'⟩ := DNilD.out g11
            exact (hw_safe (Λ := (W_abacistlaw38_GenFar.Λ9 K (W_abacistlaw38_GenFar.l9 K k))) mixWabacistlaw38 _ _ [(1, .int .u32 x35), (2, .pointer (some a4)), (5, .slice A3 n3 m3), (7, .int .i64 x36), (10, .int .u64 x37)] [] H (Eq.mp (by kernel_rfl) h') (obs_seq obs_region rfl (obs_cond (obs_seq obs_region rfl obs_ret) obs_skip))).weaken (EnvLe.cons e1 (EnvLe.cons e2 (EnvLe.cons e5 (EnvLe.cons e7 (EnvLe.cons e10 (EnvLe.nil _)))))) (Hp.le_refl _)))))))) rfl obs_region))).weaken (EnvLe.cons e1 (EnvLe.cons e2 (EnvLe.cons e5 (EnvLe.cons e7 (EnvLe.nil _))))) (Hp.le_refl _))))) rfl (obs_seq obs_region rfl obs_ret))))))))

-- abacistlaw38.GenSums
def W_abacistlaw38_GenSums.l14 (K : Value → Hp → Prop) : Nat → Int → Option Addr → Nat → Nat → Int → Int → Hp → Prop
  | 0, _, _, _, _, _, _, _ => False
  | k + 1, x8, A2, n2, m2, x9, x10, H =>
    let R14 := W_abacistlaw38_GenSums.l14 K k
    BIf (decide (x10 < ((n2 : Nat) : Int))) (ixI x10 n2 (NN A2 fun a1 => Ld H (a1.add (x10.toNat * 1)) fun v7 => DI .u64 v7 fun x11 => HCalls Tryd.prog 33 #[.int .u64 x9, .int .u64 x11] H fun v8 H6 => DI .u64 v8 fun x12 => R14 x8 A2 n2 m2 x12 (IntKind.i64.wrap (x10 + (1 : Int))) H6)) (K (.bool (x8 == x9)) H)
def W_abacistlaw38_GenSums (x1 : Int) (x2 : Int) (x3 : Int) (x4 : Int) (x5 : Int) (H : Hp) (K : Value → Hp → Prop) : Prop :=
  Nw H (.obj (.cells #[.int .i64 x1, .int .u64 x2, .int .u64 x3, .int .u64 x4] 75)) fun b1 H1 => HCalls Tryd.prog 26 #[] H1 fun v1 H2 => DB v1 fun c1 => BIf (!c1) (K (.bool false) H2) (LdA H2 (⟨b1, 0, none⟩ : Addr) 4 fun l1 => HCalls Tryd.prog 35 #[.agg l1.toArray, .int .i64 x5] H2 fun v2 H3 => DTup v2 fun l2 => DCons l2 fun v3 l3 => DI .u64 v3 fun x6 => DCons l3 fun v4 l4 => DI .i64 v4 fun x7 => DNil l4 (LdA H3 (⟨b1, 0, none⟩ : Addr) 4 fun l5 => HCalls Tryd.prog 30 #[.agg l5.toArray] H3 fun v5 H4 => DB v5 fun c2 => BIf (!c2) (BIf (x7 == (18 : Int)) (K (.bool (x6 == (0 : Int))) H4) (K (.bool false) H4)) (BIf (decide (x5 < (0 : Int))) (BIf (x7 == (2 : Int)) (K (.bool (x6 == (0 : Int))) H4) (K (.bool false) H4)) (BIf (decide (x5 > (4294967296 : Int))) (BIf (x7 == (2 : Int)) (K (.bool (x6 == (0 : Int))) H4) (K (.bool false) H4)) (BIf (x7 != (0 : Int)) (K (.bool false) H4) (BIf (decide (x5 ≤ (60 : Int))) (LdA H4 (⟨b1, 0, none⟩ : Addr) 4 fun l6 => HCalls Tryd.prog 31 #[.agg l6.toArray, .int .i64 x5] H4 fun v6 H5 => DSl v6 fun A1 n1 m1 => (∃ k, W_abacistlaw38_GenSums.l14 K k x6 A1 n1 m1 (0 : Int) (0 : Int) H5)) (LdA H4 (⟨b1, 0, none⟩ : Addr) 4 fun l7 => HCalls Tryd.prog 35 #[.agg l7.toArray, .int .i64 (IntKind.i64.wrap (x5 - (1 : Int)))] H4 fun v9 H7 => DTup v9 fun l8 => DCons l8 fun v10 l9 => DI .u64 v10 fun x13 => DCons l9 fun v11 l10 => DI .i64 v11 fun x14 => DNil l10 (LdA H7 (⟨b1, 0, none⟩ : Addr) 4 fun l11 => HCalls Tryd.prog 28 #[.agg l11.toArray, .int .i64 (IntKind.i64.wrap (x5 - (1 : Int)))] H7 fun v12 H8 => DTup v12 fun l12 => DCons l12 fun v13 l13 => DI .u64 v13 fun x15 => DCons l13 fun v14 l14 => DI .i64 v14 fun x16 => DNil l14 (BIf (x14 == (0 : Int)) (BIf (x16 == (0 : Int)) (HCalls Tryd.prog 33 #[.int .u64 x13, .int .u64 x15] H8 fun v15 H9 => DI .u64 v15 fun x17 => K (.bool (x6 == x17)) H9) (K (.bool false) H8)) (K (.bool false) H8))))))))))
def W_abacistlaw38_GenSums.l14.L (K : Value → Hp → Prop) (k : Nat) : Mid := fun E D H =>
  DG (E.get? 5) fun w5 => DI .u64 w5 fun x8 => DG (E.get? 7) fun w7 => DSl w7 fun A2 n2 m2 => DG (E.get? 8) fun w8 => DI .u64 w8 fun x9 => DG (E.get? 9) fun w9 => DI .i64 w9 fun x10 => DNilD D (W_abacistlaw38_GenSums.l14 K k x8 A2 n2 m2 x9 x10 H)
def W_abacistlaw38_GenSums.Λ14 (_ : Value → Hp → Prop) (_R14 : Int → Option Addr → Nat → Nat → Int → Int → Hp → Prop) : Cuts := Cuts.none (fun _ => none)
def W_abacistlaw38_GenSums.Λ (K : Value → Hp → Prop) : Cuts := ⟨fun i => none, fun i => match Nat.beq i 14 with | true => some (fun E D H => ∃ k, W_abacistlaw38_GenSums.l14.L K k E D H) | false => none, (fun _ => none)⟩
theorem W_abacistlaw38_GenSums.ok (x1 : Int) (x2 : Int) (x3 : Int) (x4 : Int) (x5 : Int) (H : Hp) (K : Value → Hp → Prop) (h : W_abacistlaw38_GenSums x1 x2 x3 x4 x5 H K) : HCalls Tryd.prog 9 #[.agg #[.int .i64 x1, .int .u64 x2, .int .u64 x3, .int .u64 x4], .int .i64 x5] H K :=
  hcalls Tryd.func9 rfl (Nat.le_of_ble_eq_true rfl) (hw_safe (Λ := (W_abacistlaw38_GenSums.Λ K)) mixWabacistlaw38 _ _ _ _ _ (Eq.mp (by kernel_rfl) h) (obs_seq obs_region rfl (obs_seq (obs_seq obs_region rfl (obs_cond (obs_seq obs_region rfl obs_ret) obs_skip)) rfl (obs_seq obs_region rfl (obs_seq (obs_seq obs_region rfl (obs_cond (obs_seq obs_region rfl obs_ret) obs_skip)) rfl (obs_seq (obs_seq obs_region rfl (obs_cond (obs_seq obs_region rfl obs_ret) obs_skip)) rfl (obs_seq (obs_seq obs_region rfl (obs_cond (obs_seq obs_region rfl obs_ret) obs_skip)) rfl (obs_seq (obs_seq obs_region rfl (obs_cond (obs_seq obs_region rfl (obs_seq obs_region rfl (obs_seq (obs_seq obs_region rfl (obs_block (obs_loop rfl (fun E D H h => by
      refine Safe.loop' (W_abacistlaw38_GenSums.l14.L K) (fun E D H h => ?_) (fun k E D H h => ?_) E D H h
      · obtain ⟨w5, e5, g1⟩ := DG.out h; obtain ⟨x8, rfl, g2⟩ := DI.out g1; obtain ⟨w7, e7, g3⟩ := DG.out g2; obtain ⟨A2, n2, m2, rfl, g4⟩ := DSl.out g3; obtain ⟨w8, e8, g5⟩ := DG.out g4; obtain ⟨x9, rfl, g6⟩ := DI.out g5; obtain ⟨w9, e9, g7⟩ := DG.out g6; obtain ⟨x10, rfl, g8⟩ := DI.out g7; obtain ⟨rfl, h'⟩ := DNilD.out g8; exact h'
      · obtain ⟨w5, e5, g1⟩ := DG.out h
        obtain ⟨x8, rfl, g2⟩ := DI.out g1
        obtain ⟨w7, e7, g3⟩ := DG.out g2
        obtain ⟨A2, n2, m2, rfl, g4⟩ := DSl.out g3
        obtain ⟨w8, e8, g5⟩ := DG.out g4
        obtain ⟨x9, rfl, g6⟩ := DI.out g5
        obtain ⟨w9, e9, g7⟩ := DG.out g6
        obtain ⟨x10, rfl, g8⟩ := DI.out g7
        obtain ⟨rfl, h'⟩ := DNilD.out g8
        exact (hw_safe (Λ := (W_abacistlaw38_GenSums.Λ14 K (W_abacistlaw38_GenSums.l14 K k))) mixWabacistlaw38 _ _ [(5, .int .u64 x8), (7, .slice A2 n2 m2), (8, .int .u64 x9), (9, .int .i64 x10)] [] H (Eq.mp (by kernel_rfl) h') (obs_seq (obs_seq obs_region rfl (obs_cond obs_skip obs_exit)) rfl (obs_seq (obs_block obs_region) rfl obs_region))).weaken (EnvLe.cons e5 (EnvLe.cons e7 (EnvLe.cons e8 (EnvLe.cons e9 (EnvLe.nil _))))) (Hp.le_refl _))))) rfl (obs_seq obs_region rfl obs_ret)))) obs_skip)) rfl (obs_seq obs_region rfl (obs_seq obs_region rfl (obs_seq obs_region rfl obs_ret)))))))))))

-- abacistlaw38.awake
def W_abacistlaw38_awake (H : Hp) (K : Value → Hp → Prop) : Prop :=
  HCalls Tryd.prog 32 #[.agg #[.int .i64 (2 : Int), .int .u64 (3 : Int), .int .u64 (2 : Int), .int .u64 (0 : Int)], .int .i64 (4 : Int)] H fun v1 H1 => DTup v1 fun l1 => DCons l1 fun v2 l2 => DSl v2 fun A1 n1 m1 => DCons l2 fun v3 l3 => DI .i64 v3 fun x1 => DNil l3 (BIf (x1 == (0 : Int)) (Nw H1 (.row [.int .u64 (3 : Int), .int .u64 (5 : Int), .int .u64 (7 : Int), .int .u64 (9 : Int)] 22 4) fun b1 H2 => HCalls Tryd.prog 21 #[.slice A1 n1 m1, .slice (some ⟨b1, 0, none⟩) 4 4] H2 fun v4 H3 => DB v4 fun c1 => BIf c1 (HCalls Tryd.prog 58 #[.agg #[.int .i64 (3 : Int), .int .u64 (1 : Int), .int .u64 (7 : Int), .int .u64 (0 : Int)]] H3 fun v5 H4 => DS v5 fun s1 => K (.bool (s1.toList == ((⟨#[112, 111, 119, 101, 114, 32, 49, 32, 55]⟩) : ByteArray).toList)) H4) (K (.bool false) H3)) (K (.bool false) H1))
def W_abacistlaw38_awake.Λ (_ : Value → Hp → Prop) : Cuts := Cuts.none (fun _ => none)
theorem W_abacistlaw38_awake.ok (H : Hp) (K : Value → Hp → Prop) (h : W_abacistlaw38_awake H K) : HCalls Tryd.prog 26 #[] H K :=
  hcalls Tryd.func26 rfl (Nat.le_of_ble_eq_true rfl) (hw_safe (Λ := Cuts.none (fun _ => none)) mixWabacistlaw38 _ _ _ _ _ (Eq.mp (by kernel_rfl) h) (obs_none _ _ _ _ _))

end Go.Proofs.YtgkdkemhiglpdaaDoor.W

end
section
/-! GenE -/
/- gen: a rule's line, of small numbers; the law's first look. -/
set_option maxRecDepth 100000
set_option linter.unusedSimpArgs false
set_option linter.unusedVariables false
set_option linter.unnecessarySimpa false
set_option linter.unusedSectionVars false
namespace Go.Proofs.YtgkdkemhiglpdaaDoor.Gen
open Go Go.Hw Go.Proofs.YtgkdkemhiglpdaaDoor.W Go.Proofs.YtgkdkemhiglpdaaDoor.Gol

theorem LdA_two {H : Hp} {g off : Nat} {u v : Value} {K : List Value → Prop} (h1 : H.cell? ⟨g, off, none⟩ = some u) (h2 : H.cell? ⟨g, off + 1, none⟩ = some v) (k : K [u, v]) : LdA H ⟨g, off, none⟩ 2 K := by
  have e0 : (⟨g, off, none⟩ : Addr).add 0 = ⟨g, off, none⟩ := by rw [Addr.add_lit']; rfl
  have e1 : (⟨g, off, none⟩ : Addr).add (0 + 1) = ⟨g, off + 1, none⟩ := by rw [Addr.add_lit']
  unfold LdA Hp.cells? Hp.cells? Hp.cells?
  rw [e0, e1, h1, h2]
  exact k

/-- Small numbers' texts. -/
theorem small_ok (x : Nat) (hx : x < 10) (H : Hp) : HCalls Tryd.prog 119 #[.int .i64 (x : Int)] H (RetE (.string ⟨#[UInt8.ofNat (48 + x)]⟩) H) := by
  apply W_internal_strconv_small.ok
  unfold W_internal_strconv_small
  refine BIf_dpos (by omega) ?_
  rw [i64w (x := (x : Int) + 1) (by omega) (by omega)]
  refine ⟨by omega, by show (x : Int) + 1 ≤ 36; omega, by omega, by omega, ?_⟩
  rw [show ((x : Int) + 1).toNat = x + 1 by omega, Int.toNat_natCast]
  have : ∀ y, y < 10 → ((⟨#[48, 49, 50, 51, 52, 53, 54, 55, 56, 57, 97, 98, 99, 100, 101, 102, 103, 104, 105, 106, 107, 108, 109, 110, 111, 112, 113, 114, 115, 116, 117, 118, 119, 120, 121, 122]⟩ : ByteArray).extract y (y + 1)) = ⟨#[UInt8.ofNat (48 + y)]⟩ := by decide
  exact ⟨congrArg Value.string (this x hx), rfl⟩
theorem Format_ok (x : Nat) (hx : x < 10) (H : Hp) : HCalls Tryd.prog 74 #[.int .u64 (x : Int), .int .i64 10] H (RetE (.string ⟨#[UInt8.ofNat (48 + x)]⟩) H) := by
  apply W_strconv_FormatUint.ok
  unfold W_strconv_FormatUint
  have h : HCalls Tryd.prog 102 #[.int .u64 (x : Int), .int .i64 10] H (RetE (.string ⟨#[UInt8.ofNat (48 + x)]⟩) H) := by
    apply W_internal_strconv_FormatUint.ok
    unfold W_internal_strconv_FormatUint
    refine BIf_beqp rfl (BIf_dpos (by omega) ?_)
    rw [i64n (by omega)]
    refine HCalls.use (small_ok x hx H) ?_
    simp only [DI_int', DB_bool, DS_string, DP_pointer, DSl_slice, DM_map, DA_agg, DTup_tuple, DCons_cons, DNil_nil, NN_some, BIf_true, BIf_false, BIf_same, List.toList_toArray, Bool.not_true, Bool.not_false]
    exact RetE.mk _ _
  refine HCalls.use h ?_
  simp only [DI_int', DB_bool, DS_string, DP_pointer, DSl_slice, DM_map, DA_agg, DTup_tuple, DCons_cons, DNil_nil, NN_some, BIf_true, BIf_false, BIf_same, List.toList_toArray, Bool.not_true, Bool.not_false]
  exact RetE.mk _ _

theorem cell_str : cellInfo Tryd.prog 9 = some (1, 16, some #[.string ByteArray.empty]) := by kernel_rfl

/-- Two small numbers' text. -/
theorem Text_two (A : Option Addr) (m : Nat) (x y : Nat) (hx : x < 10) (hy : y < 10) (H : Hp) (hc : Cells H A (natV [x, y])) :
    HCalls Tryd.prog 85 #[.slice A 2 m] H (RetE (.string ⟨#[UInt8.ofNat (48 + x), 32, UInt8.ofNat (48 + y)]⟩) H) := HCalls.ret (by
  apply W_codec_Text.ok
  unfold W_codec_Text
  have hs := Sep.start H
  have hs : Sep [own H, Own 9 1 none 0 0 []] H := by
    have : Sep (Own 9 1 none 0 0 [] :: [own H]) H := ⟨fun _ => none, H, fun _ _ h => (nomatch h), Hp.le_refl _, fun _ => .inl rfl, Own.none _ _ _, hs⟩
    exact this.re [1, 0] rfl
  refine ⟨3, ?_⟩
  unfold W_codec_Text.l3
  refine BIf_dpos (by decide) ?_
  refine hc.read (i := 0) rfl rfl (by rw [natV_length]; exact Nat.le_refl _) ?_
  simp only [DI_int', DB_bool, DS_string, DP_pointer, DSl_slice, DM_map, DA_agg, DTup_tuple, DCons_cons, DNil_nil, NN_some, BIf_true, BIf_false, BIf_same, List.toList_toArray, Bool.not_true, Bool.not_false]
  refine HCalls.use (Format_ok x hx H) ?_
  simp only [DI_int', DB_bool, DS_string, DP_pointer, DSl_slice, DM_map, DA_agg, DTup_tuple, DCons_cons, DNil_nil, NN_some, BIf_true, BIf_false, BIf_same, List.toList_toArray, Bool.not_true, Bool.not_false]
  refine Nw_cap ?_
  refine hs.app1 1 rfl cell_str (by omega) rfl (by omega) (by omega) fun A' m' H1 hs hcap => ?_
  simp only [DI_int', DB_bool, DS_string, DP_pointer, DSl_slice, DM_map, DA_agg, DTup_tuple, DCons_cons, DNil_nil, NN_some, BIf_true, BIf_false, BIf_same, List.toList_toArray, Bool.not_true, Bool.not_false]
  rw [show IntKind.i64.wrap ((0 : Int) + 1) = 1 by decide]
  unfold W_codec_Text.l3
  refine BIf_dpos (by decide) ?_
  refine (hc.le (hs.ow 0 rfl)).read (i := 1) rfl rfl (by rw [natV_length]; exact Nat.le_refl _) ?_
  simp only [DI_int', DB_bool, DS_string, DP_pointer, DSl_slice, DM_map, DA_agg, DTup_tuple, DCons_cons, DNil_nil, NN_some, BIf_true, BIf_false, BIf_same, List.toList_toArray, Bool.not_true, Bool.not_false]
  refine HCalls.use (Format_ok y hy H1) ?_
  simp only [DI_int', DB_bool, DS_string, DP_pointer, DSl_slice, DM_map, DA_agg, DTup_tuple, DCons_cons, DNil_nil, NN_some, BIf_true, BIf_false, BIf_same, List.toList_toArray, Bool.not_true, Bool.not_false]
  refine Nw_cap ?_
  refine hs.app1 1 rfl cell_str (by omega) rfl (by omega) (by omega) fun A' m' H1 hs hcap => ?_
  simp only [DI_int', DB_bool, DS_string, DP_pointer, DSl_slice, DM_map, DA_agg, DTup_tuple, DCons_cons, DNil_nil, NN_some, BIf_true, BIf_false, BIf_same, List.toList_toArray, Bool.not_true, Bool.not_false]
  rw [show IntKind.i64.wrap ((1 : Int) + 1) = 2 by decide]
  unfold W_codec_Text.l3
  refine BIf_dneg (by decide) ?_
  rcases hs.unown 1 rfl with ⟨_, h0, _⟩ | ⟨b, mm, rfl, hmm, hl, hs⟩
  · omega
  have hb := hs.get 1 rfl
  have hm' : 2 ≤ m' := hcap _ _ _ rfl
  refine HCalls.use (Join_hc (b := b) (m := m') (mm := mm) (e := 9) (H := H1) [⟨#[UInt8.ofNat (48 + x)]⟩, ⟨#[UInt8.ofNat (48 + y)]⟩] ⟨#[32]⟩ hb hm' (by show 2 ≤ _; omega) (by show 3 ≤ _; omega)) ?_
  simp only [DI_int', DB_bool, DS_string, DP_pointer, DSl_slice, DM_map, DA_agg, DTup_tuple, DCons_cons, DNil_nil, NN_some, BIf_true, BIf_false, BIf_same, List.toList_toArray, Bool.not_true, Bool.not_false]
  exact hs.fin 0 rfl _)

/-- What the laid tables hold. -/
def kindV : List Value := [.string ⟨#[]⟩, .int .i64 0, .string ⟨#[99, 111, 110, 115, 116]⟩, .int .i64 1, .string ⟨#[108, 105, 110, 101]⟩, .int .i64 2, .string ⟨#[112, 111, 119, 101, 114]⟩, .int .i64 2, .string ⟨#[99, 104, 97, 105, 110]⟩, .int .i64 3, .string ⟨#[112, 117, 108, 115, 101]⟩, .int .i64 3]
def Kinds (H : Hp) : Prop := Cells H (some ⟨1, 0, none⟩) kindV
theorem Kinds.le {H H' : Hp} (h : Kinds H) (k : H.le H') : Kinds H' := Cells.le h k

theorem Line_1_7 (H : Hp) (hK : Kinds H) : HCalls Tryd.prog 58 #[.agg #[.int .i64 3, .int .u64 1, .int .u64 7, .int .u64 0]] H (RetE (.string ⟨#[112, 111, 119, 101, 114, 32, 49, 32, 55]⟩) H) := HCalls.ret (by
  apply W_gen_Line.ok
  unfold W_gen_Line
  refine (Sep.start H).nw fun b1 H1 hs => ?_
  refine hs.ldw 1 rfl rfl ?_
  refine HCalls.use (Good_ok 3 1 7 0 H1) ?_
  rw [goodR_yes (k := 3) (a := 1) (b := 7) (c := 0) ⟨by omega, by omega, by omega, by omega, by omega, fun h => by omega⟩]
  simp only [DI_int', DB_bool, DS_string, DP_pointer, DSl_slice, DM_map, DA_agg, DTup_tuple, DCons_cons, DNil_nil, NN_some, BIf_true, BIf_false, BIf_same, List.toList_toArray, Bool.not_true, Bool.not_false]
  first | refine hs.ldf 1 rfl rfl ?_ | refine hs.ldg 1 rfl rfl ?_
  try simp only [DI_int', DB_bool, DS_string, DP_pointer, DSl_slice, DM_map, DA_agg, DTup_tuple, DCons_cons, DNil_nil, NN_some, BIf_true, BIf_false, BIf_same, List.toList_toArray, Bool.not_true, Bool.not_false]
  refine ⟨by decide, by decide, ?_⟩
  have hk := hK.le (hs.ow 0 rfl)
  have g1 : H1.cell? ⟨1, 6, none⟩ = some (.string ⟨#[112, 111, 119, 101, 114]⟩) := by
    obtain ⟨a, ha, hc⟩ := hk 6 _ rfl
    cases ha
    rw [Addr.add_lit'] at hc
    exact hc
  have g2 : H1.cell? ⟨1, 6 + 1, none⟩ = some (.int .i64 2) := by
    obtain ⟨a, ha, hc⟩ := hk 7 _ rfl
    cases ha
    rw [Addr.add_lit'] at hc
    exact hc
  rw [Addr.add_lit']
  refine LdA_two g1 g2 ?_
  refine hs.nw fun b2 H1 hs => ?_
  refine hs.stw 2 rfl rfl rfl rfl fun H1 hs => ?_
  first | refine hs.ldf 1 rfl rfl ?_ | refine hs.ldg 1 rfl rfl ?_
  try simp only [DI_int', DB_bool, DS_string, DP_pointer, DSl_slice, DM_map, DA_agg, DTup_tuple, DCons_cons, DNil_nil, NN_some, BIf_true, BIf_false, BIf_same, List.toList_toArray, Bool.not_true, Bool.not_false]
  first | refine hs.ldf 1 rfl rfl ?_ | refine hs.ldg 1 rfl rfl ?_
  try simp only [DI_int', DB_bool, DS_string, DP_pointer, DSl_slice, DM_map, DA_agg, DTup_tuple, DCons_cons, DNil_nil, NN_some, BIf_true, BIf_false, BIf_same, List.toList_toArray, Bool.not_true, Bool.not_false]
  first | refine hs.ldf 1 rfl rfl ?_ | refine hs.ldg 1 rfl rfl ?_
  try simp only [DI_int', DB_bool, DS_string, DP_pointer, DSl_slice, DM_map, DA_agg, DTup_tuple, DCons_cons, DNil_nil, NN_some, BIf_true, BIf_false, BIf_same, List.toList_toArray, Bool.not_true, Bool.not_false]
  first | refine hs.ldf 2 rfl rfl ?_ | refine hs.ldg 2 rfl rfl ?_
  try simp only [DI_int', DB_bool, DS_string, DP_pointer, DSl_slice, DM_map, DA_agg, DTup_tuple, DCons_cons, DNil_nil, NN_some, BIf_true, BIf_false, BIf_same, List.toList_toArray, Bool.not_true, Bool.not_false]
  have txt : ∀ {b H1}, Sep [own H, pts b1 (ruleO 3 1 7 0), pts b2 (.obj (.cells #[.string ⟨#[112, 111, 119, 101, 114]⟩, .int .i64 2] 152)), pts b (.row [.int .u64 1, .int .u64 7, .int .u64 0] 22 3)] H1 →
      HCalls Tryd.prog 85 #[.slice (slA (some ⟨b, 0, none⟩) 3 0 1) (2 - 0) (3 - 0)] H1 (RetE (.string ⟨#[49, 32, 55]⟩) H1) := fun {b H1} hs => by
    rw [slA_zero]
    refine Text_two (some ⟨b, 0, none⟩) 3 1 7 (by omega) (by omega) H1 ?_
    have := Cells.row (hs.get 3 rfl) 0 2
    exact this
  refine ⟨?_, ?_⟩
  · first | refine hs.ldf 2 rfl rfl ?_ | refine hs.ldg 2 rfl rfl ?_
    try simp only [DI_int', DB_bool, DS_string, DP_pointer, DSl_slice, DM_map, DA_agg, DTup_tuple, DCons_cons, DNil_nil, NN_some, BIf_true, BIf_false, BIf_same, List.toList_toArray, Bool.not_true, Bool.not_false]
    refine ⟨by decide, hs.nw fun b3 H1 hs => slB_to (r := 2) rfl (by omega) ?_⟩
    refine HCalls.use (txt hs) ?_
    simp only [DI_int', DB_bool, DS_string, DP_pointer, DSl_slice, DM_map, DA_agg, DTup_tuple, DCons_cons, DNil_nil, NN_some, BIf_true, BIf_false, BIf_same, List.toList_toArray, Bool.not_true, Bool.not_false]
    exact ⟨by decide, hs.fin 0 rfl _⟩
  · refine hs.nw fun b3 H1 hs => slB_to (r := 2) rfl (by omega) ⟨?_, ?_⟩
    · first | refine hs.ldf 2 rfl rfl ?_ | refine hs.ldg 2 rfl rfl ?_
      try simp only [DI_int', DB_bool, DS_string, DP_pointer, DSl_slice, DM_map, DA_agg, DTup_tuple, DCons_cons, DNil_nil, NN_some, BIf_true, BIf_false, BIf_same, List.toList_toArray, Bool.not_true, Bool.not_false]
      refine ⟨by decide, ?_⟩
      refine HCalls.use (txt hs) ?_
      simp only [DI_int', DB_bool, DS_string, DP_pointer, DSl_slice, DM_map, DA_agg, DTup_tuple, DCons_cons, DNil_nil, NN_some, BIf_true, BIf_false, BIf_same, List.toList_toArray, Bool.not_true, Bool.not_false]
      exact ⟨by decide, hs.fin 0 rfl _⟩
    · refine HCalls.use (txt hs) ?_
      simp only [DI_int', DB_bool, DS_string, DP_pointer, DSl_slice, DM_map, DA_agg, DTup_tuple, DCons_cons, DNil_nil, NN_some, BIf_true, BIf_false, BIf_same, List.toList_toArray, Bool.not_true, Bool.not_false]
      first | refine hs.ldf 2 rfl rfl ?_ | refine hs.ldg 2 rfl rfl ?_
      try simp only [DI_int', DB_bool, DS_string, DP_pointer, DSl_slice, DM_map, DA_agg, DTup_tuple, DCons_cons, DNil_nil, NN_some, BIf_true, BIf_false, BIf_same, List.toList_toArray, Bool.not_true, Bool.not_false]
      exact ⟨by decide, by decide, hs.fin 0 rfl _⟩)

theorem awake_ok (H : Hp) (hK : Kinds H) : HCalls Tryd.prog 26 #[] H (RetE (.bool true) H) := HCalls.ret (by
  apply W_abacistlaw38_awake.ok
  unfold W_abacistlaw38_awake
  have hs := Sep.start H
  have hg : goodR 2 3 2 0 = true := goodR_yes ⟨by omega, by omega, by omega, by omega, by omega, fun h => by omega⟩
  refine (Row_tr (k := 2) (a := 3) (b := 2) (c := 0) (n := 4) hg (by omega)).use hs [] rfl rfl ?_
  rintro _ _ H1 ⟨bo, mm, rfl, rfl⟩ hs
  simp only [DI_int', DB_bool, DS_string, DP_pointer, DSl_slice, DM_map, DA_agg, DTup_tuple, DCons_cons, DNil_nil, NN_some, BIf_true, BIf_false, BIf_same, List.toList_toArray, Bool.not_true, Bool.not_false]
  refine BIf_beqp rfl ?_
  refine hs.nw fun b1 H1 hs => ?_
  have hv : vals 2 3 2 0 0 4 = [3, 5, 7, 9] := by decide
  rw [hv] at hs
  have c1 : Cells H1 (some ⟨bo, 0, none⟩) (natV [3, 5, 7, 9]) := by
    have := Cells.row (hs.get 0 rfl) 0 4
    exact this
  have c2 : Cells H1 (some ⟨b1, 0, none⟩) (natV [3, 5, 7, 9]) := by
    have := Cells.row (hs.get 2 rfl) 0 4
    exact this
  refine HCalls.use (Same_ok (some ⟨bo, 0, none⟩) (some ⟨b1, 0, none⟩) 4 4 4 [3, 5, 7, 9] rfl (by omega) H1 c1 c2) ?_
  simp only [DI_int', DB_bool, DS_string, DP_pointer, DSl_slice, DM_map, DA_agg, DTup_tuple, DCons_cons, DNil_nil, NN_some, BIf_true, BIf_false, BIf_same, List.toList_toArray, Bool.not_true, Bool.not_false]
  refine HCalls.use (Line_1_7 H1 (hK.le (hs.ow 1 rfl))) ?_
  simp only [DI_int', DB_bool, DS_string, DP_pointer, DSl_slice, DM_map, DA_agg, DTup_tuple, DCons_cons, DNil_nil, NN_some, BIf_true, BIf_false, BIf_same, List.toList_toArray, Bool.not_true, Bool.not_false]
  rw [beq_self_eq_true]
  exact hs.fin 1 rfl _)

end Go.Proofs.YtgkdkemhiglpdaaDoor.Gen

end
section
/-! Wabacistlaw20 -/
/- Formulas of functions, printed by wip/tools/hwp.py. -/
set_option maxRecDepth 100000
set_option linter.unusedVariables false
namespace Go.Proofs.YtgkdkemhiglpdaaDoor.W
open Go Go.Hw

theorem mixWabacistlaw20 : Tryd.prog.follows .mixedOrders = true := by kernel_rfl
-- abacistlaw20.RecordFollows
def W_abacistlaw20_RecordFollows (y1 : Array Value) (y2 : Array Value) (H : Hp) (K : Value → Hp → Prop) : Prop :=
  Nw H (.obj (.cells y1 25)) fun b1 H1 => Nw H1 (.obj (.cells y2 25)) fun b2 H2 => HCalls Tryd.prog 10 #[] H2 fun v1 H3 => DB v1 fun c1 => BIf (!c1) (K (.bool false) H3) (LdA H3 (⟨b1, 0, none⟩ : Addr) 8 fun l1 => LdA H3 (⟨b2, 0, none⟩ : Addr) 8 fun l2 => QCall Tryd.prog 11 #[.agg l1.toArray, .agg l2.toArray] H3 fun v2 => DB v2 fun c2 => LdA H3 (⟨b1, 0, none⟩ : Addr) 8 fun l3 => LdA H3 (⟨b2, 0, none⟩ : Addr) 8 fun l4 => QCall Tryd.prog 12 #[.agg l3.toArray, .agg l4.toArray] H3 fun v3 => DB v3 fun c3 => K (.bool (c2 == c3)) H3)
def W_abacistlaw20_RecordFollows.Λ (_ : Value → Hp → Prop) : Cuts := Cuts.none (fun _ => none)
theorem W_abacistlaw20_RecordFollows.ok (y1 : Array Value) (y2 : Array Value) (H : Hp) (K : Value → Hp → Prop) (h : W_abacistlaw20_RecordFollows y1 y2 H K) : HCalls Tryd.prog 3 #[.agg y1, .agg y2] H K :=
  hcalls Tryd.func3 rfl (Nat.le_of_ble_eq_true rfl) (hw_safe (Λ := Cuts.none (fun _ => none)) mixWabacistlaw20 _ _ _ _ _ (Eq.mp (by kernel_rfl) h) (obs_none _ _ _ _ _))

-- abacistlaw20.awake
def W_abacistlaw20_awake (H : Hp) (K : Value → Hp → Prop) : Prop :=
  Nw H (.obj (.cells #[.int .u64 (0 : Int), .int .i64 (0 : Int), .int .i64 (0 : Int), .int .i64 (0 : Int), .int .i64 (0 : Int), .int .u32 (0 : Int), .int .u32 (0 : Int), .int .u32 (0 : Int)] 25)) fun b1 H1 => StA H1 (⟨b1, 0, none⟩ : Addr) #[.int .u64 (1 : Int), .int .i64 (2 : Int), .int .i64 (3 : Int), .int .i64 (0 : Int), .int .i64 (0 : Int), .int .u32 (1 : Int), .int .u32 (7 : Int), .int .u32 (0 : Int)] 8 fun H2 => LdA H2 (⟨b1, 0, none⟩ : Addr) 8 fun l1 => HCalls Tryd.prog 36 #[.agg l1.toArray, .int .i64 (32 : Int)] H2 fun v1 H3 => DTup v1 fun l2 => DCons l2 fun v2 l3 => DSl v2 fun A1 n1 m1 => DCons l3 fun v3 l4 => DI .i64 v3 fun x1 => DNil l4 (LdA H3 (⟨b1, 0, none⟩ : Addr) 8 fun l5 => HCalls Tryd.prog 37 #[.agg l5.toArray] H3 fun v4 H4 => DS v4 fun s1 => BIf (s1.toList == ((⟨#[108, 111, 97, 100, 32, 49, 32, 51, 32, 48, 32, 48, 32, 49, 32, 55, 32, 48]⟩) : ByteArray).toList) (BIf (x1 == (0 : Int)) (K (.bool (((n1 : Nat) : Int) == (32 : Int))) H4) (K (.bool false) H4)) (K (.bool false) H4))
def W_abacistlaw20_awake.Λ (_ : Value → Hp → Prop) : Cuts := Cuts.none (fun _ => none)
theorem W_abacistlaw20_awake.ok (H : Hp) (K : Value → Hp → Prop) (h : W_abacistlaw20_awake H K) : HCalls Tryd.prog 10 #[] H K :=
  hcalls Tryd.func10 rfl (Nat.le_of_ble_eq_true rfl) (hw_safe (Λ := Cuts.none (fun _ => none)) mixWabacistlaw20 _ _ _ _ _ (Eq.mp (by kernel_rfl) h) (obs_none _ _ _ _ _))

end Go.Proofs.YtgkdkemhiglpdaaDoor.W

end
section
/-! RecD -/
/- record: Put; the law RecordFollows. -/
set_option maxRecDepth 100000
set_option linter.unusedSimpArgs false
set_option linter.unusedVariables false
set_option linter.unnecessarySimpa false
set_option linter.unusedSectionVars false
namespace Go.Proofs.YtgkdkemhiglpdaaDoor.Rec
open Go Go.Hw Go.Form Go.Crc Go.Proofs.YtgkdkemhiglpdaaDoor.W

theorem cell_u8 : cellInfo Tryd.prog 5 = some (1, 1, some #[.int .u8 0]) := by kernel_rfl

def sealP (l : List UInt64) : List (Nat × Nat) := [(4294967295 - (sum (form l)).toNat, 32), ((sum (form l)).toNat, 0)]
theorem seal_ok (A : Option Addr) (n m : Nat) (l : List UInt64) (hn : n = l.length) (hm : n ≤ 1000) (H : Hp) (hl : Cells H A (wordVals l)) : HCalls Tryd.prog 73 #[.slice A n m] H (RetE (.int .u64 ((joinN 0 (sealP l) : Nat) : Int)) H) := HCalls.ret (by
  apply W_record_seal.ok
  unfold W_record_seal
  have hs := Sep.start H
  refine HCalls.use (CrcP.OfWords_ok A n m l hn (by omega) H hl) ?_
  simp only [DI_int', DB_bool, DS_string, DP_pointer, DSl_slice, DM_map, DA_agg, DTup_tuple, DCons_cons, DNil_nil, NN_some, BIf_true, BIf_false, BIf_same, List.toList_toArray, Bool.not_true, Bool.not_false]
  have hx : bXor .u32 IntKind.u32.max ((sum (form l)).toNat : Int) = ((4294967295 - (sum (form l)).toNat : Nat) : Int) := by
    rw [show IntKind.u32.max = ((BitVec.allOnes 32).toNat : Int) from rfl, xor32, BitVec.allOnes_xor, BitVec.toNat_not]
  have hlt := (sum (form l)).isLt
  rw [hx, u64n (n := 4294967295 - (sum (form l)).toNat) (by omega), u64n (n := (sum (form l)).toNat) (by omega)]
  refine hs.nw fun b1 H1 hs => ?_
  have hs : Sep [own H, pts b1 (parO (sealP l))] H1 := hs
  refine HCalls.use (jn hs 1 rfl 2 rfl (fun p hp => ?_) (by decide)) ?_
  · simp only [sealP, List.mem_cons, List.not_mem_nil, or_false] at hp
    rcases hp with rfl | rfl <;> exact ⟨by simp only []; omega, by simp only []; omega⟩
  simp only [DI_int', DB_bool, DS_string, DP_pointer, DSl_slice, DM_map, DA_agg, DTup_tuple, DCons_cons, DNil_nil, NN_some, BIf_true, BIf_false, BIf_same, List.toList_toArray, Bool.not_true, Bool.not_false]
  exact hs.fin 0 rfl _)

/-- A record's four words. -/
def R.w4 (r : R) : List UInt64 := r.w3 ++ [UInt64.ofNat (joinN 0 (sealP r.w3))]

theorem Put_tr (r : R) (hg : r.good) (hu : r.u32) (size : Nat) (h32 : 32 ≤ size) (h40 : size ≤ 4096) (hsz : (Lay.NeedV 0 size).2 = 0) :
    Tr Tryd.prog 36 #[.agg r.c, .int .i64 (size : Int)] [] fun v M => ∃ b, v = .tuple #[.slice (some ⟨b, 0, none⟩) size size, .int .i64 0] ∧
      M = [pts b (.row (setAt (zeroRow [.int .u8 0] size) 0 (byteVals (form r.w4))) 5 (size * 1))] := fun H hs => by
  apply W_record_Put.ok
  unfold W_record_Put
  refine hs.nw fun b1 H hs => ?_
  have hs : Sep [pts b1 (recO r)] H := hs
  refine hs.ldw 0 rfl rfl ?_
  refine HCalls.use (Good_ok r H) ?_
  rw [decide_eq_true hg]
  simp only [DI_int', DB_bool, DS_string, DP_pointer, DSl_slice, DM_map, DA_agg, DTup_tuple, DCons_cons, DNil_nil, NN_some, BIf_true, BIf_false, BIf_same, List.toList_toArray, Bool.not_true, Bool.not_false]
  have hsec : HCalls Tryd.prog 70 #[.int .i64 (size : Int)] H (RetE (.bool true) H) := by
    apply W_record_sector.ok
    unfold W_record_sector
    refine HCalls.use (Lay.Need_ok 0 size H) ?_
    rw [hsz]
    simp only [DI_int', DB_bool, DS_string, DP_pointer, DSl_slice, DM_map, DA_agg, DTup_tuple, DCons_cons, DNil_nil, NN_some, BIf_true, BIf_false, BIf_same, List.toList_toArray, Bool.not_true, Bool.not_false]
    exact RetE.mk _ _
  refine HCalls.use hsec ?_
  simp only [DI_int', DB_bool, DS_string, DP_pointer, DSl_slice, DM_map, DA_agg, DTup_tuple, DCons_cons, DNil_nil, NN_some, BIf_true, BIf_false, BIf_same, List.toList_toArray, Bool.not_true, Bool.not_false]
  refine hs.ldw 0 rfl rfl ?_
  refine (three_tr r hg hu).use hs [] rfl rfl ?_
  rintro _ _ H ⟨b3, rfl, rfl⟩ hs
  simp only [DI_int', DB_bool, DS_string, DP_pointer, DSl_slice, DM_map, DA_agg, DTup_tuple, DCons_cons, DNil_nil, NN_some, BIf_true, BIf_false, BIf_same, List.toList_toArray, Bool.not_true, Bool.not_false]
  refine hs.mks cell_u8 rfl (n := size) (m := size) rfl rfl (Nat.le_refl _) (by omega) (by omega) fun bo H hs => ?_
  simp only [DI_int', DB_bool, DS_string, DP_pointer, DSl_slice, DM_map, DA_agg, DTup_tuple, DCons_cons, DNil_nil, NN_some, BIf_true, BIf_false, BIf_same, List.toList_toArray, Bool.not_true, Bool.not_false]
  have hs : Sep [pts b3 (.row (wordVals r.w3) 22 3), pts b1 (recO r), pts bo (.row (zeroRow [.int .u8 0] size) 5 (size * 1))] H := hs
  have hc : Cells H (some ⟨b3, 0, none⟩) (wordVals r.w3) := by
    have := Cells.row (hs.get 0 rfl) 0 3
    exact this
  refine HCalls.use (seal_ok (some ⟨b3, 0, none⟩) 3 3 r.w3 rfl (by omega) H hc) ?_
  simp only [DI_int', DB_bool, DS_string, DP_pointer, DSl_slice, DM_map, DA_agg, DTup_tuple, DCons_cons, DNil_nil, NN_some, BIf_true, BIf_false, BIf_same, List.toList_toArray, Bool.not_true, Bool.not_false]
  have hs := hs.turn 0 rfl (B := Own 22 1 (some ⟨b3, 0, none⟩) 3 3 (wordVals r.w3)) (fun H1 h => ⟨rfl, .inr ⟨b3, 3, rfl, h, Nat.le_refl _⟩⟩)
  refine hs.app1 0 rfl Gen.cell_u64 (by omega) rfl (by omega) (by omega) fun A' m' H hs => ?_
  simp only [DI_int', DB_bool, DS_string, DP_pointer, DSl_slice, DM_map, DA_agg, DTup_tuple, DCons_cons, DNil_nil, NN_some, BIf_true, BIf_false, BIf_same, List.toList_toArray, Bool.not_true, Bool.not_false]
  have hw : wordVals r.w3 ++ [.int .u64 ((joinN 0 (sealP r.w3) : Nat) : Int)] = wordVals r.w4 := by
    unfold R.w4 wordVals
    rw [List.map_append]
    show _ = _ ++ [Value.int .u64 ((UInt64.ofNat (joinN 0 (sealP r.w3))).toNat : Int)]
    rw [UInt64.toNat_ofNat_of_lt' (joinN_lt _ 0 (by decide))]
  rw [hw] at hs
  have hc : Cells H A' (wordVals r.w4) := by
    obtain ⟨hl, h⟩ := hs.own 0 rfl
    rcases h with ⟨_, h0, _⟩ | ⟨b, mm, rfl, hb, _⟩
    · omega
    · have := Cells.row hb 0 4
      exact this
  refine HCalls.mono (FormP.Put_ok A' 4 m' r.w4 rfl (by omega) H hc) ?_
  rintro _ _ ⟨b', hb', rfl, rfl⟩
  have hs := hs.new hb' (.row (byteVals (form r.w4)) 5 (8 * 4))
  generalize H.set b' (.row (byteVals (form r.w4)) 5 (8 * 4)) = H at *
  simp only [DI_int', DB_bool, DS_string, DP_pointer, DSl_slice, DM_map, DA_agg, DTup_tuple, DCons_cons, DNil_nil, NN_some, BIf_true, BIf_false, BIf_same, List.toList_toArray, Bool.not_true, Bool.not_false]
  have hlen : (byteVals (form r.w4)).length = 32 := by rw [byteVals_length, form_length]; rfl
  have hmin : Nat.min 32 size = 32 := Nat.min_eq_left h32
  refine hs.cp 2 (b := bo) (off := 0) (n := size) (k := 32) (xs := zeroRow [.int .u8 0] size) (e' := 5) (m := size * 1) (ys := byteVals (form r.w4)) rfl cell_u8 rfl ?_ ?_ (fun y hy => ?_) fun H hs => ?_
  · rw [hmin]
    have := Cells.row (hs.get 3 rfl) 0 32
    rw [List.drop_zero, List.take_of_length_le (by rw [hlen]; exact Nat.le_refl _)] at this
    exact src_of this hlen.symm
  · rw [hlen, zeroRow_one, List.length_replicate]; omega
  · obtain ⟨z, _, rfl⟩ := List.mem_map.1 hy; rfl
  simp only [DI_int', DB_bool, DS_string, DP_pointer, DSl_slice, DM_map, DA_agg, DTup_tuple, DCons_cons, DNil_nil, NN_some, BIf_true, BIf_false, BIf_same, List.toList_toArray, Bool.not_true, Bool.not_false]
  exact ⟨_, ⟨bo, rfl, rfl⟩, hs.re [2] rfl⟩

/-! ## The line of a record of small numbers -/
def nameV : List Value := [.string ⟨#[]⟩, .string ⟨#[119, 105, 112, 101]⟩, .string ⟨#[108, 111, 97, 100]⟩, .string ⟨#[115, 117, 98, 109, 105, 116]⟩, .string ⟨#[112, 97, 115, 115]⟩]
def Names (H : Hp) : Prop := Cells H (some ⟨0, 0, none⟩) nameV

def lineS (s : ByteArray) : List Nat → ByteArray
  | [] => s
  | x :: xs => lineS (s ++ ((⟨#[32]⟩ : ByteArray) ++ (⟨#[UInt8.ofNat (48 + x)]⟩ : ByteArray))) xs

theorem line_loop {K : Value → Hp → Prop} (H : Hp) (A : Option Addr) (xs : List Nat) (hl : xs.length ≤ 1000) (hsm : ∀ x ∈ xs, x < 10) (hc : Cells H A (Gen.natV xs)) :
    ∀ (t j : Nat) (s : ByteArray), j + t = xs.length → s.size + 2 * t ≤ 100000 → K (.string (lineS s (xs.drop j))) H → W_record_Line.l5 K (t + 1) s A xs.length xs.length (xs.length : Int) (j : Int) H
  | 0, j, s, hj, hs, k => by
    unfold W_record_Line.l5
    rw [List.drop_eq_nil_of_le (by omega)] at k
    exact BIf_dneg (by omega) k
  | t + 1, j, s, hj, hs, k => by
    have hlt : j < xs.length := by omega
    unfold W_record_Line.l5
    refine BIf_dpos (by omega) ?_
    refine hc.read (i := j) (v := .int .u64 ((xs[j] : Nat) : Int)) (by rw [Gen.natV_get, List.getElem?_eq_getElem hlt]; rfl) rfl (by rw [Gen.natV_length]; exact Nat.le_refl _) ?_
    simp only [DI_int', DB_bool, DS_string, DP_pointer, DSl_slice, DM_map, DA_agg, DTup_tuple, DCons_cons, DNil_nil, NN_some, BIf_true, BIf_false, BIf_same, List.toList_toArray, Bool.not_true, Bool.not_false]
    refine HCalls.use (Gen.Format_ok xs[j] (hsm _ (List.getElem_mem hlt)) H) ?_
    simp only [DI_int', DB_bool, DS_string, DP_pointer, DSl_slice, DM_map, DA_agg, DTup_tuple, DCons_cons, DNil_nil, NN_some, BIf_true, BIf_false, BIf_same, List.toList_toArray, Bool.not_true, Bool.not_false]
    have h1 : ((⟨#[32]⟩ : ByteArray) ++ (⟨#[UInt8.ofNat (48 + xs[j])]⟩ : ByteArray)).size = 2 := by rw [ByteArray.size_append]; rfl
    refine ⟨by show 1 + 1 ≤ _; omega, by rw [h1]; omega, ?_⟩
    rw [i64w (x := (j : Int) + 1) (by omega) (by omega), show (j : Int) + 1 = ((j + 1 : Nat) : Int) by omega]
    rw [List.drop_eq_getElem_cons hlt] at k
    exact line_loop H A xs hl hsm hc t (j + 1) _ (by omega) (by rw [ByteArray.size_append, h1]; omega) k

def r0 : R := ⟨1, 2, 3, 0, 0, 1, 7, 0⟩
theorem r0_good : r0.good := by decide

theorem Line_r0 (H : Hp) (hN : Names H) : HCalls Tryd.prog 37 #[.agg r0.c] H (RetE (.string ⟨#[108, 111, 97, 100, 32, 49, 32, 51, 32, 48, 32, 48, 32, 49, 32, 55, 32, 48]⟩) H) := HCalls.ret (by
  apply W_record_Line.ok
  unfold W_record_Line
  refine (Sep.start H).nw fun b1 H1 hs => ?_
  have hs : Sep [own H, pts b1 (recO r0)] H1 := hs
  refine hs.ldw 1 rfl rfl ?_
  refine HCalls.use (Good_ok r0 H1) ?_
  rw [decide_eq_true r0_good]
  simp only [DI_int', DB_bool, DS_string, DP_pointer, DSl_slice, DM_map, DA_agg, DTup_tuple, DCons_cons, DNil_nil, NN_some, BIf_true, BIf_false, BIf_same, List.toList_toArray, Bool.not_true, Bool.not_false]
  refine hs.ldf 1 rfl rfl ?_
  simp only [DI_int', DB_bool, DS_string, DP_pointer, DSl_slice, DM_map, DA_agg, DTup_tuple, DCons_cons, DNil_nil, NN_some, BIf_true, BIf_false, BIf_same, List.toList_toArray, Bool.not_true, Bool.not_false]
  refine ⟨by decide, by decide, ?_⟩
  have g1 : H1.cell? ((⟨0, 0, none⟩ : Addr).add 2) = some (.string ⟨#[108, 111, 97, 100]⟩) := by
    obtain ⟨a, ha, hc⟩ := (Cells.le hN (hs.ow 0 rfl)) 2 _ rfl
    cases ha
    exact hc
  have go : ∀ {K : Value → Prop}, K (.string ⟨#[108, 111, 97, 100]⟩) → Ld H1 ((⟨0, 0, none⟩ : Addr).add 2) K := fun k => by
    unfold Ld; rw [g1]; exact k
  refine go ?_
  simp only [DI_int', DB_bool, DS_string, DP_pointer, DSl_slice, DM_map, DA_agg, DTup_tuple, DCons_cons, DNil_nil, NN_some, BIf_true, BIf_false, BIf_same, List.toList_toArray, Bool.not_true, Bool.not_false]
  refine hs.ldf 1 rfl rfl ?_
  simp only [DI_int', DB_bool, DS_string, DP_pointer, DSl_slice, DM_map, DA_agg, DTup_tuple, DCons_cons, DNil_nil, NN_some, BIf_true, BIf_false, BIf_same, List.toList_toArray, Bool.not_true, Bool.not_false]
  refine hs.ldf 1 rfl rfl ?_
  simp only [DI_int', DB_bool, DS_string, DP_pointer, DSl_slice, DM_map, DA_agg, DTup_tuple, DCons_cons, DNil_nil, NN_some, BIf_true, BIf_false, BIf_same, List.toList_toArray, Bool.not_true, Bool.not_false]
  refine hs.ldf 1 rfl rfl ?_
  simp only [DI_int', DB_bool, DS_string, DP_pointer, DSl_slice, DM_map, DA_agg, DTup_tuple, DCons_cons, DNil_nil, NN_some, BIf_true, BIf_false, BIf_same, List.toList_toArray, Bool.not_true, Bool.not_false]
  refine hs.ldf 1 rfl rfl ?_
  simp only [DI_int', DB_bool, DS_string, DP_pointer, DSl_slice, DM_map, DA_agg, DTup_tuple, DCons_cons, DNil_nil, NN_some, BIf_true, BIf_false, BIf_same, List.toList_toArray, Bool.not_true, Bool.not_false]
  refine hs.ldf 1 rfl rfl ?_
  simp only [DI_int', DB_bool, DS_string, DP_pointer, DSl_slice, DM_map, DA_agg, DTup_tuple, DCons_cons, DNil_nil, NN_some, BIf_true, BIf_false, BIf_same, List.toList_toArray, Bool.not_true, Bool.not_false]
  refine hs.ldf 1 rfl rfl ?_
  simp only [DI_int', DB_bool, DS_string, DP_pointer, DSl_slice, DM_map, DA_agg, DTup_tuple, DCons_cons, DNil_nil, NN_some, BIf_true, BIf_false, BIf_same, List.toList_toArray, Bool.not_true, Bool.not_false]
  refine hs.ldf 1 rfl rfl ?_
  simp only [DI_int', DB_bool, DS_string, DP_pointer, DSl_slice, DM_map, DA_agg, DTup_tuple, DCons_cons, DNil_nil, NN_some, BIf_true, BIf_false, BIf_same, List.toList_toArray, Bool.not_true, Bool.not_false]
  refine hs.nw fun b2 H1 hs => ⟨8, ?_⟩
  have hs : Sep [own H, pts b1 (recO r0), pts b2 (.row (Gen.natV [1, 3, 0, 0, 1, 7, 0]) 22 7)] H1 := hs
  have hc : Cells H1 (some ⟨b2, 0, none⟩) (Gen.natV [1, 3, 0, 0, 1, 7, 0]) := by
    have := Cells.row (hs.get 2 rfl) 0 7
    exact this
  have hend : lineS ⟨#[108, 111, 97, 100]⟩ (List.drop 0 [1, 3, 0, 0, 1, 7, 0]) = ⟨#[108, 111, 97, 100, 32, 49, 32, 51, 32, 48, 32, 48, 32, 49, 32, 55, 32, 48]⟩ := by decide
  refine line_loop H1 (some ⟨b2, 0, none⟩) [1, 3, 0, 0, 1, 7, 0] (by decide) (by decide) hc 7 0 ⟨#[108, 111, 97, 100]⟩ rfl (by decide) ?_
  rw [hend]
  exact hs.fin 0 rfl _)

theorem awake_ok (H : Hp) (hN : Names H) : HCalls Tryd.prog 10 #[] H (RetE (.bool true) H) := HCalls.ret (by
  apply W_abacistlaw20_awake.ok
  unfold W_abacistlaw20_awake
  refine (Sep.start H).nw fun b1 H1 hs => ?_
  refine hs.stw 1 rfl rfl rfl rfl fun H1 hs => ?_
  have hs : Sep [own H, pts b1 (recO r0)] H1 := hs
  refine hs.ldw 1 rfl rfl ?_
  refine (Put_tr r0 r0_good ⟨by decide, by decide, by decide⟩ 32 (by omega) (by omega) (by decide)).use hs [] rfl rfl ?_
  rintro _ _ H1 ⟨b, rfl, rfl⟩ hs
  simp only [DI_int', DB_bool, DS_string, DP_pointer, DSl_slice, DM_map, DA_agg, DTup_tuple, DCons_cons, DNil_nil, NN_some, BIf_true, BIf_false, BIf_same, List.toList_toArray, Bool.not_true, Bool.not_false]
  refine hs.ldw 2 rfl rfl ?_
  refine HCalls.use (Line_r0 H1 (Cells.le hN (hs.ow 1 rfl))) ?_
  simp only [DI_int', DB_bool, DS_string, DP_pointer, DSl_slice, DM_map, DA_agg, DTup_tuple, DCons_cons, DNil_nil, NN_some, BIf_true, BIf_false, BIf_same, List.toList_toArray, Bool.not_true, Bool.not_false]
  rw [beq_self_eq_true]
  refine BIf_pos rfl (BIf_beqp rfl ?_)
  exact hs.fin 1 rfl _)

theorem RecordFollows_ok (a b : R) (H : Hp) (hN : Names H) : HCalls Tryd.prog 3 #[.agg a.c, .agg b.c] H (Ret (.bool true) H) := by
  apply W_abacistlaw20_RecordFollows.ok
  unfold W_abacistlaw20_RecordFollows
  refine (Sep.start H).nw fun b1 H1 hs => ?_
  refine hs.nw fun b2 H1 hs => ?_
  have hs : Sep [own H, pts b1 (recO a), pts b2 (recO b)] H1 := hs
  refine HCalls.use (awake_ok H1 (Cells.le hN (hs.ow 0 rfl))) ?_
  simp only [DI_int', DB_bool, DS_string, DP_pointer, DSl_slice, DM_map, DA_agg, DTup_tuple, DCons_cons, DNil_nil, NN_some, BIf_true, BIf_false, BIf_same, List.toList_toArray, Bool.not_true, Bool.not_false]
  refine hs.ldw 1 rfl rfl (hs.ldw 2 rfl rfl ?_)
  refine QCall.use (After_ok a b H1) ?_
  simp only [DI_int', DB_bool, DS_string, DP_pointer, DSl_slice, DM_map, DA_agg, DTup_tuple, DCons_cons, DNil_nil, NN_some, BIf_true, BIf_false, BIf_same, List.toList_toArray, Bool.not_true, Bool.not_false]
  refine hs.ldw 1 rfl rfl (hs.ldw 2 rfl rfl ?_)
  refine QCall.use (rAfter_ok a b H1) ?_
  simp only [DI_int', DB_bool, DS_string, DP_pointer, DSl_slice, DM_map, DA_agg, DTup_tuple, DCons_cons, DNil_nil, NN_some, BIf_true, BIf_false, BIf_same, List.toList_toArray, Bool.not_true, Bool.not_false]
  rw [beq_self_eq_true]
  exact hs.fin 0 rfl _

end Go.Proofs.YtgkdkemhiglpdaaDoor.Rec

end
