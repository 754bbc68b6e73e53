import Derived.DeepKeys
import Derived.Test.YtbnhfcdagoigkaaDoorPkGenLines4
section
/-! CodL -/
/- gen: the line of any rule, and the rule of any line, by the code. -/
set_option maxRecDepth 100000
set_option linter.unusedSimpArgs false
set_option linter.unusedVariables false
set_option linter.unnecessarySimpa false
set_option linter.unusedSectionVars false
namespace Go.Proofs.YtbnhfcdagoigkaaDoor.Cod
open Go Go.Hw Go.Proofs.YtbnhfcdagoigkaaDoor.W Go.Proofs.YtbnhfcdagoigkaaDoor.Gol Go.Proofs.YtbnhfcdagoigkaaDoor.Gen

def wd : Nat → List UInt8
  | 1 => [99, 111, 110, 115, 116] | 2 => [108, 105, 110, 101] | 3 => [112, 111, 119, 101, 114] | 4 => [99, 104, 97, 105, 110] | 5 => [112, 117, 108, 115, 101] | _ => []
def cn : Nat → Nat
  | 1 => 1 | 2 => 2 | 3 => 2 | 4 => 3 | 5 => 3 | _ => 0
theorem kind_get : ∀ i, i < 6 → kindV[2 * i]? = some (.string ⟨⟨wd i⟩⟩) ∧ kindV[2 * i + 1]? = some (.int .i64 (cn i : Int))
  | 0, _ => ⟨rfl, rfl⟩ | 1, _ => ⟨rfl, rfl⟩ | 2, _ => ⟨rfl, rfl⟩ | 3, _ => ⟨rfl, rfl⟩ | 4, _ => ⟨rfl, rfl⟩ | 5, _ => ⟨rfl, rfl⟩
  | i + 6, h => absurd h (by omega)
theorem kind_ext : ∀ i, i < 6 → kindV.toArray.extract (i * 2) (i * 2 + 2) = #[.string ⟨⟨wd i⟩⟩, .int .i64 (cn i : Int)]
  | 0, _ => rfl | 1, _ => rfl | 2, _ => rfl | 3, _ => rfl | 4, _ => rfl | 5, _ => rfl
  | i + 6, h => absurd h (by omega)
theorem wd_len (i : Nat) : (wd i).length ≤ 5 := by unfold wd; split <;> decide
theorem cn_le (i : Nat) : cn i ≤ 3 := by unfold cn; split <;> decide
theorem wd_32 (i : Nat) : (32 : UInt8) ∉ wd i := by unfold wd; split <;> decide

def lineN (k : Nat) (a b c : Nat) : List UInt8 := wd k ++ 32 :: textV ([a, b, c].take (cn k))
def lineR (k : Int) (a b c : Nat) : List UInt8 := if goodR k a b c = true then lineN k.toNat a b c else []

theorem take3 (k a b c : Nat) (h : a < 18446744073709551616 ∧ b < 18446744073709551616 ∧ c < 18446744073709551616) : ∀ x ∈ [a, b, c].take (cn k), x < 18446744073709551616 := fun x hx => by
  have := List.mem_of_mem_take hx
  simp at this
  rcases this with rfl | rfl | rfl
  · exact h.1
  · exact h.2.1
  · exact h.2.2

theorem Line_ok (k : Int) (a b c : Nat) (H : Hp) (hK : Kinds H) (hP : P10 H) :
    HCalls Tryd.prog 49 #[.agg #[.int .i64 k, .int .u64 (a : Int), .int .u64 (b : Int), .int .u64 (c : Int)]] H (RetE (.string ⟨⟨lineR k a b c⟩⟩) H) := HCalls.ret (by
  apply W_gen_Line.ok
  unfold W_gen_Line
  refine (Sep.start H).nw fun b1 H1 hs => ?_
  refine hs.ldw 1 rfl rfl ?_
  refine HCalls.use (Good_ok k a b c H1) ?_
  simp only [DI_int', DB_bool, DS_string, DP_pointer, DSl_slice, DM_map, DA_agg, DTup_tuple, DCons_cons, DNil_nil, NN_some, BIf_true, BIf_false, BIf_same, List.toList_toArray, Bool.not_true, Bool.not_false]
  rcases (Classical.em (goodR k a b c = true)).symm with hg | hg
  · have hf : goodR k a b c = false := by simpa using hg
    rw [hf]
    refine BIf_pos rfl ?_
    unfold lineR
    rw [if_neg hg]
    exact hs.fin 0 rfl _
  · have hl : lineR k a b c = lineN k.toNat a b c := by unfold lineR; rw [if_pos hg]
    rw [hg, hl]
    obtain ⟨h1, h5, ha, hb, hc, _⟩ := goodR_of hg
    refine BIf_neg rfl ?_
    first | refine hs.ldf 1 rfl rfl ?_ | refine hs.ldg 1 rfl rfl ?_
    try simp only [DI_int', DB_bool, DS_string, DP_pointer, DSl_slice, DM_map, DA_agg, DTup_tuple, DCons_cons, DNil_nil, NN_some, BIf_true, BIf_false, BIf_same, List.toList_toArray, Bool.not_true, Bool.not_false]
    refine ⟨by omega, by omega, ?_⟩
    obtain ⟨i, rfl⟩ := Int.eq_ofNat_of_zero_le (show 0 ≤ k by omega)
    rw [Int.toNat_natCast]
    have hk := hK.le (hs.ow 0 rfl)
    obtain ⟨q1, q2⟩ := kind_get i (by omega)
    obtain ⟨a1, e1, g1⟩ := hk _ _ q1
    cases e1
    obtain ⟨a2, e2, g2⟩ := hk _ _ q2
    cases e2
    rw [Addr.add_lit', Nat.zero_add] at g1 g2 ⊢
    rw [Nat.mul_comm i 2]
    refine LdA_two g1 g2 ?_
    refine hs.nw fun b2 H1 hs => ?_
    refine hs.stw 2 rfl rfl rfl rfl fun H1 hs => ?_
    first | refine hs.ldf 1 rfl rfl ?_ | refine hs.ldg 1 rfl rfl ?_
    try simp only [DI_int', DB_bool, DS_string, DP_pointer, DSl_slice, DM_map, DA_agg, DTup_tuple, DCons_cons, DNil_nil, NN_some, BIf_true, BIf_false, BIf_same, List.toList_toArray, Bool.not_true, Bool.not_false]
    first | refine hs.ldf 1 rfl rfl ?_ | refine hs.ldg 1 rfl rfl ?_
    try simp only [DI_int', DB_bool, DS_string, DP_pointer, DSl_slice, DM_map, DA_agg, DTup_tuple, DCons_cons, DNil_nil, NN_some, BIf_true, BIf_false, BIf_same, List.toList_toArray, Bool.not_true, Bool.not_false]
    first | refine hs.ldf 1 rfl rfl ?_ | refine hs.ldg 1 rfl rfl ?_
    try simp only [DI_int', DB_bool, DS_string, DP_pointer, DSl_slice, DM_map, DA_agg, DTup_tuple, DCons_cons, DNil_nil, NN_some, BIf_true, BIf_false, BIf_same, List.toList_toArray, Bool.not_true, Bool.not_false]
    first | refine hs.ldf 2 rfl rfl ?_ | refine hs.ldg 2 rfl rfl ?_
    try simp only [DI_int', DB_bool, DS_string, DP_pointer, DSl_slice, DM_map, DA_agg, DTup_tuple, DCons_cons, DNil_nil, NN_some, BIf_true, BIf_false, BIf_same, List.toList_toArray, Bool.not_true, Bool.not_false]
    have hcn := cn_le i
    have hwl := wd_len i
    have h3 := take3 i a b c ⟨by omega, by omega, by omega⟩
    have htl := textV_len h3
    have hl3 : ([a, b, c].take (cn i)).length = cn i := by rw [List.length_take]; show min (cn i) 3 = _; omega
    have txt : ∀ {b0 H1}, Hw.Sep [own H, pts b1 (ruleO i a b c), pts b2 (.obj (.cells #[.string ⟨⟨wd i⟩⟩, .int .i64 (cn i : Int)] 170)), pts b0 (.row [.int .u64 (a : Int), .int .u64 (b : Int), .int .u64 (c : Int)] 22 3)] H1 →
        HCalls Tryd.prog 33 #[.slice (slA (some ⟨b0, 0, none⟩) 3 0 1) (cn i - 0) (3 - 0)] H1 (RetE (.string ⟨(textV ([a, b, c].take (cn i))).toArray⟩) H1) := fun {b0 H1} hs => by
      rw [slA_zero, Nat.sub_zero]
      refine Text_ok (some ⟨b0, 0, none⟩) _ 3 ([a, b, c].take (cn i)) hl3.symm (by omega) h3 H1 (hP.le (hs.ow 0 rfl)) ?_
      have := Cells.row (hs.get 3 rfl) 0 (cn i)
      rw [List.drop_zero] at this
      have e : natV ([a, b, c].take (cn i)) = ([.int .u64 (a : Int), .int .u64 (b : Int), .int .u64 (c : Int)] : List Value).take (cn i) := by unfold natV; rw [List.map_take]; rfl
      rw [e]
      exact this
    have s1 : (⟨⟨wd i⟩⟩ : ByteArray).size + (⟨#[32]⟩ : ByteArray).size ≤ 4611686018427387904 := by
      show (wd i).length + 1 ≤ _; omega
    have eA : (⟨⟨wd i⟩⟩ : ByteArray) ++ (⟨#[32]⟩ : ByteArray) = ⟨(wd i ++ [32]).toArray⟩ := ba_app (wd i) [32]
    have s2 : ((⟨⟨wd i⟩⟩ : ByteArray) ++ (⟨#[32]⟩ : ByteArray)).size + (⟨(textV ([a, b, c].take (cn i))).toArray⟩ : ByteArray).size ≤ 4611686018427387904 := by
      rw [eA]
      show (wd i ++ [32]).toArray.size + (textV ([a, b, c].take (cn i))).toArray.size ≤ _
      simp only [List.size_toArray, List.length_append, List.length_singleton]; omega
    have eB : ((⟨⟨wd i⟩⟩ : ByteArray) ++ (⟨#[32]⟩ : ByteArray)) ++ (⟨(textV ([a, b, c].take (cn i))).toArray⟩ : ByteArray) = ⟨⟨lineN i a b c⟩⟩ := by
      rw [eA, ba_app, List.append_assoc]
      rfl
    refine ⟨?_, ?_⟩
    · first | refine hs.ldf 2 rfl rfl ?_ | refine hs.ldg 2 rfl rfl ?_
      try simp only [DI_int', DB_bool, DS_string, DP_pointer, DSl_slice, DM_map, DA_agg, DTup_tuple, DCons_cons, DNil_nil, NN_some, BIf_true, BIf_false, BIf_same, List.toList_toArray, Bool.not_true, Bool.not_false]
      refine ⟨s1, hs.nw fun b3 H1 hs => slB_to (r := cn i) rfl (by omega) ?_⟩
      refine HCalls.use (txt hs) ?_
      simp only [DI_int', DB_bool, DS_string, DP_pointer, DSl_slice, DM_map, DA_agg, DTup_tuple, DCons_cons, DNil_nil, NN_some, BIf_true, BIf_false, BIf_same, List.toList_toArray, Bool.not_true, Bool.not_false]
      refine ⟨s2, ?_⟩
      rw [eB]
      exact hs.fin 0 rfl _
    · refine hs.nw fun b3 H1 hs => slB_to (r := cn i) rfl (by omega) ⟨?_, ?_⟩
      · first | refine hs.ldf 2 rfl rfl ?_ | refine hs.ldg 2 rfl rfl ?_
        try simp only [DI_int', DB_bool, DS_string, DP_pointer, DSl_slice, DM_map, DA_agg, DTup_tuple, DCons_cons, DNil_nil, NN_some, BIf_true, BIf_false, BIf_same, List.toList_toArray, Bool.not_true, Bool.not_false]
        refine ⟨s1, ?_⟩
        refine HCalls.use (txt hs) ?_
        simp only [DI_int', DB_bool, DS_string, DP_pointer, DSl_slice, DM_map, DA_agg, DTup_tuple, DCons_cons, DNil_nil, NN_some, BIf_true, BIf_false, BIf_same, List.toList_toArray, Bool.not_true, Bool.not_false]
        refine ⟨s2, ?_⟩
        rw [eB]
        exact hs.fin 0 rfl _
      · refine HCalls.use (txt hs) ?_
        simp only [DI_int', DB_bool, DS_string, DP_pointer, DSl_slice, DM_map, DA_agg, DTup_tuple, DCons_cons, DNil_nil, NN_some, BIf_true, BIf_false, BIf_same, List.toList_toArray, Bool.not_true, Bool.not_false]
        first | refine hs.ldf 2 rfl rfl ?_ | refine hs.ldg 2 rfl rfl ?_
        try simp only [DI_int', DB_bool, DS_string, DP_pointer, DSl_slice, DM_map, DA_agg, DTup_tuple, DCons_cons, DNil_nil, NN_some, BIf_true, BIf_false, BIf_same, List.toList_toArray, Bool.not_true, Bool.not_false]
        refine ⟨s1, s2, ?_⟩
        rw [eB]
        exact hs.fin 0 rfl _)

/-- A copy into an array of one's own. -/
theorem CpK_obj {P : Program} {e e' : TypeId} {bs : Nat} {z : Array Value} {H : Hp} {b n c k : Nat} {arr : Array Value} {ys : List Value} {x : Value} (hc : cellInfo P e = some (1, bs, some z)) (hb : H b = some (.obj (.cells arr e')))
    (hn : lenV x = some k) (hsrc : srcCells H 1 (Nat.min k n) x = some ys) (ho : ys.length ≤ arr.size) (hone : ∀ y ∈ ys, y.oneCell' = true) {K : Value → Hp → Prop}
    (kk : K (.int .i64 (Nat.min k n : Nat)) (H.set b (.obj (.cells (setAt arr.toList 0 ys).toArray e')))) : CpK P e (.slice (some ⟨b, 0, none⟩) n c) x H K := by
  obtain ⟨j, zz, h3, h4, rfl, h5, rfl⟩ := cellInfo_out hc
  unfold CpK
  simp only [h3]
  rw [h4]
  exact ⟨k, ys, _, hn, hsrc, by simpa using puts_at ys 0 H arr hb (by omega) hone, kk⟩

/-- The kind of a word, 0 if there is none. -/
def kindOf (w : List UInt8) : Nat := if w = wd 1 then 1 else if w = wd 2 then 2 else if w = wd 3 then 3 else if w = wd 4 then 4 else if w = wd 5 then 5 else 0
theorem kindOf_at {w : List UInt8} : ∀ i, 1 ≤ i → i < 6 → w = wd i → kindOf w = i
  | 1, _, _, h => by subst h; decide
  | 2, _, _, h => by subst h; decide
  | 3, _, _, h => by subst h; decide
  | 4, _, _, h => by subst h; decide
  | 5, _, _, h => by subst h; decide
  | i + 6, _, h, _ => absurd h (by omega)
theorem kindOf_no {w : List UInt8} (h : ∀ i, 1 ≤ i → i < 6 → w ≠ wd i) : kindOf w = 0 := by
  unfold kindOf
  rw [if_neg (h 1 (by decide) (by decide)), if_neg (h 2 (by decide) (by decide)), if_neg (h 3 (by decide) (by decide)), if_neg (h 4 (by decide) (by decide)), if_neg (h 5 (by decide) (by decide))]

/-- What a line says: a kind (0: none), three words, an error's number. -/
def restG (k : Nat) (rest : List UInt8) : Nat × Nat × Nat × Nat × Nat :=
  if (readV rest).2.2 ≠ 0 then (0, 0, 0, 0, (readV rest).2.2) else if (readV rest).1.length ≠ cn k then (0, 0, 0, 0, 17)
  else if goodR k ((readV rest).1.getD 0 0) ((readV rest).1.getD 1 0) ((readV rest).1.getD 2 0) = true then (k, (readV rest).1.getD 0 0, (readV rest).1.getD 1 0, (readV rest).1.getD 2 0, 0) else (0, 0, 0, 0, 18)
def readG (s : List UInt8) : Nat × Nat × Nat × Nat × Nat :=
  if kindOf (Go.Lib.cut s [32]).1 = 0 then (0, 0, 0, 0, 17) else restG (kindOf (Go.Lib.cut s [32]).1) (Go.Lib.cut s [32]).2.1
def ruleV (r : Nat × Nat × Nat × Nat × Nat) : Array Value := #[.int .i64 (r.1 : Int), .int .u64 (r.2.1 : Int), .int .u64 (r.2.2.1 : Int), .int .u64 (r.2.2.2.1 : Int)]
def genT (r : Nat × Nat × Nat × Nat × Nat) : Value := .tuple #[.agg (ruleV r), .int .i64 (r.2.2.2.2 : Int)]

theorem arr3 (xs : List Nat) (h : xs.length ≤ 3) : setAt [Value.int .u64 0, .int .u64 0, .int .u64 0] 0 (natV xs) = [.int .u64 ((xs.getD 0 0 : Nat) : Int), .int .u64 ((xs.getD 1 0 : Nat) : Int), .int .u64 ((xs.getD 2 0 : Nat) : Int)] := by
  match xs, h with
  | [], _ => rfl
  | [x], _ => rfl
  | [x, y], _ => rfl
  | [x, y, z], _ => rfl
  | x :: y :: z :: u :: t, h => simp at h

theorem Read_loop2 (w rest : List UInt8) (hrl : rest.length ≤ 1000000) (b1 : Nat) (H0 : Hp) (hM : MaxL H0) (r : Nat × Nat × Nat × Nat × Nat) (hr : r = if kindOf w = 0 then (0, 0, 0, 0, 17) else restG (kindOf w) rest) :
    ∀ (t i : Nat) (H : Hp), i + t = 6 → (∀ j, 1 ≤ j → j < i → w ≠ wd j) → Hw.Sep [own H0, pts b1 (ruleO 0 0 0 0)] H →
      W_gen_Read.l3 (Ret (genT r) H0) (t + 1) ⟨b1, 0, none⟩ ⟨⟨w⟩⟩ ⟨⟨rest⟩⟩ kindV.toArray (i : Int) H
  | 0, i, H, hi, hno, hs => by
    unfold W_gen_Read.l3
    obtain rfl : i = 6 := by omega
    refine BIf_dneg (by decide) ?_
    rw [if_pos (kindOf_no hno)] at hr
    subst hr
    first | refine hs.stw 1 rfl rfl rfl rfl fun H hs => ?_
    try simp only [DI_int', DB_bool, DS_string, DP_pointer, DSl_slice, DM_map, DA_agg, DTup_tuple, DCons_cons, DNil_nil, NN_some, BIf_true, BIf_false, BIf_same, List.toList_toArray, Bool.not_true, Bool.not_false]
    first | refine hs.ldw 1 rfl rfl ?_
    try simp only [DI_int', DB_bool, DS_string, DP_pointer, DSl_slice, DM_map, DA_agg, DTup_tuple, DCons_cons, DNil_nil, NN_some, BIf_true, BIf_false, BIf_same, List.toList_toArray, Bool.not_true, Bool.not_false]
    exact hs.fin 0 rfl _
  | t + 1, i, H, hi, hno, hs => by
    unfold W_gen_Read.l3
    refine BIf_dpos (by omega) ⟨by omega, by omega, ?_⟩
    have hcn := cn_le i
    rw [Int.toNat_natCast, kind_ext i (by omega)]
    refine hs.nw fun b2 H1 hs => ?_
    first | refine hs.stw 2 rfl rfl rfl rfl fun H hs => ?_
    try simp only [DI_int', DB_bool, DS_string, DP_pointer, DSl_slice, DM_map, DA_agg, DTup_tuple, DCons_cons, DNil_nil, NN_some, BIf_true, BIf_false, BIf_same, List.toList_toArray, Bool.not_true, Bool.not_false]
    have ih := Read_loop2 w rest hrl b1 H0 hM r hr t (i + 1)
    rw [i64w (x := (i : Int) + 1) (by omega) (by omega)]
    by_cases hi0 : i = 0
    · refine BIf_beqp (by omega) ?_
      exact ih _ (by omega) (fun j h1 h2 => by omega) (hs.re [0, 1] rfl)
    refine BIf_beqn (by omega) ?_
    first | refine hs.ldf 2 rfl rfl ?_ | refine hs.ldg 2 rfl rfl ?_
    try simp only [DI_int', DB_bool, DS_string, DP_pointer, DSl_slice, DM_map, DA_agg, DTup_tuple, DCons_cons, DNil_nil, NN_some, BIf_true, BIf_false, BIf_same, List.toList_toArray, Bool.not_true, Bool.not_false]
    rcases (Classical.em (w = wd i)).symm with hw | hw
    · refine BIf_pos (by rw [ba_ne (Ne.symm hw)]; rfl) ?_
      refine ih _ (by omega) (fun j h1 h2 => ?_) (hs.re [0, 1] rfl)
      by_cases e : j = i
      · subst e; exact hw
      · exact hno j h1 (by omega)
    refine BIf_neg (by rw [ba_eq hw.symm]; rfl) ?_
    have hko := kindOf_at i (by omega) (by omega) hw
    rw [hko, if_neg hi0] at hr
    refine Read_use hs rest hrl (hM.le (hs.ow 0 rfl)) fun A m H1 hs => ?_
    simp only [List.cons_append, List.nil_append, List.set_cons_zero, List.set_cons_succ] at hs
    simp only [DI_int', DB_bool, DS_string, DP_pointer, DSl_slice, DM_map, DA_agg, DTup_tuple, DCons_cons, DNil_nil, NN_some, BIf_true, BIf_false, BIf_same, List.toList_toArray, Bool.not_true, Bool.not_false]
    unfold restG at hr
    by_cases he : (readV rest).2.2 ≠ 0
    · rw [if_pos he] at hr
      subst hr
      refine BIf_bnep (by omega) ?_
      first | refine hs.stw 1 rfl rfl rfl rfl fun H hs => ?_
      try simp only [DI_int', DB_bool, DS_string, DP_pointer, DSl_slice, DM_map, DA_agg, DTup_tuple, DCons_cons, DNil_nil, NN_some, BIf_true, BIf_false, BIf_same, List.toList_toArray, Bool.not_true, Bool.not_false]
      first | refine hs.ldw 1 rfl rfl ?_
      try simp only [DI_int', DB_bool, DS_string, DP_pointer, DSl_slice, DM_map, DA_agg, DTup_tuple, DCons_cons, DNil_nil, NN_some, BIf_true, BIf_false, BIf_same, List.toList_toArray, Bool.not_true, Bool.not_false]
      exact hs.fin 0 rfl _
    rw [if_neg he] at hr
    refine BIf_bnen (by omega) ?_
    first | refine hs.ldf 2 rfl rfl ?_ | refine hs.ldg 2 rfl rfl ?_
    try simp only [DI_int', DB_bool, DS_string, DP_pointer, DSl_slice, DM_map, DA_agg, DTup_tuple, DCons_cons, DNil_nil, NN_some, BIf_true, BIf_false, BIf_same, List.toList_toArray, Bool.not_true, Bool.not_false]
    by_cases hl : (readV rest).1.length ≠ cn i
    · rw [if_pos hl] at hr
      subst hr
      refine BIf_bnep (by omega) ?_
      first | refine hs.stw 1 rfl rfl rfl rfl fun H hs => ?_
      try simp only [DI_int', DB_bool, DS_string, DP_pointer, DSl_slice, DM_map, DA_agg, DTup_tuple, DCons_cons, DNil_nil, NN_some, BIf_true, BIf_false, BIf_same, List.toList_toArray, Bool.not_true, Bool.not_false]
      first | refine hs.ldw 1 rfl rfl ?_
      try simp only [DI_int', DB_bool, DS_string, DP_pointer, DSl_slice, DM_map, DA_agg, DTup_tuple, DCons_cons, DNil_nil, NN_some, BIf_true, BIf_false, BIf_same, List.toList_toArray, Bool.not_true, Bool.not_false]
      exact hs.fin 0 rfl _
    rw [if_neg hl] at hr
    refine BIf_bnen (by omega) ?_
    refine hs.nw fun b3 H1 hs => slB_all ?_
    rw [slA_zero]
    have hcp := own_cells1 (hs.own 3 rfl)
    refine CpK_obj cell_u64 (hs.get 4 rfl) (k := (readV rest).1.length) (ys := natV (readV rest).1) rfl ?_ (by simp [natV]; omega) (fun y hy => ?_) ?_
    · rw [show Nat.min (readV rest).1.length (3 - 0) = (readV rest).1.length from Nat.min_eq_left (by omega)]
      exact src_of hcp (by simp [natV])
    · unfold natV at hy
      obtain ⟨x, _, rfl⟩ := List.mem_map.1 hy
      rfl
    have hs := hs.put 4 (.obj (.cells (setAt #[Value.int .u64 0, .int .u64 0, .int .u64 0].toList 0 (natV (readV rest).1)).toArray 174)) rfl
    rw [show (#[Value.int .u64 0, .int .u64 0, .int .u64 0] : Array Value).toList = [.int .u64 0, .int .u64 0, .int .u64 0] from rfl, arr3 _ (by omega)] at hs ⊢
    generalize (readV rest).1.getD 0 0 = a at *
    generalize (readV rest).1.getD 1 0 = b at *
    generalize (readV rest).1.getD 2 0 = c at *
    simp only [List.cons_append, List.nil_append, List.set_cons_zero, List.set_cons_succ] at hs
    generalize (H1.set b3 (AO.obj (Obj.cells [Value.int .u64 (a : Int), Value.int .u64 (b : Int), Value.int .u64 (c : Int)].toArray 174))) = H2 at hs ⊢
    simp only [DI_int', DB_bool, DS_string, DP_pointer, DSl_slice, DM_map, DA_agg, DTup_tuple, DCons_cons, DNil_nil, NN_some, BIf_true, BIf_false, BIf_same, List.toList_toArray, Bool.not_true, Bool.not_false]
    refine ⟨by decide, by decide, ?_⟩
    try simp only [NN_some, Addr.add_lit', Addr.add_zero, Nat.zero_add, Nat.add_zero]
    refine hs.ld 4 rfl rfl ?_
    simp only [DI_int', DB_bool, DS_string, DP_pointer, DSl_slice, DM_map, DA_agg, DTup_tuple, DCons_cons, DNil_nil, NN_some, BIf_true, BIf_false, BIf_same, List.toList_toArray, Bool.not_true, Bool.not_false]
    refine ⟨by decide, by decide, ?_⟩
    try simp only [NN_some, Addr.add_lit', Addr.add_zero, Nat.zero_add, Nat.add_zero]
    refine hs.ld 4 rfl rfl ?_
    simp only [DI_int', DB_bool, DS_string, DP_pointer, DSl_slice, DM_map, DA_agg, DTup_tuple, DCons_cons, DNil_nil, NN_some, BIf_true, BIf_false, BIf_same, List.toList_toArray, Bool.not_true, Bool.not_false]
    refine ⟨by decide, by decide, ?_⟩
    try simp only [NN_some, Addr.add_lit', Addr.add_zero, Nat.zero_add, Nat.add_zero]
    refine hs.ld 4 rfl rfl ?_
    simp only [DI_int', DB_bool, DS_string, DP_pointer, DSl_slice, DM_map, DA_agg, DTup_tuple, DCons_cons, DNil_nil, NN_some, BIf_true, BIf_false, BIf_same, List.toList_toArray, Bool.not_true, Bool.not_false]
    refine hs.nw fun b4 H2 hs => ?_
    first | refine hs.stw 5 rfl rfl rfl rfl fun H hs => ?_
    try simp only [DI_int', DB_bool, DS_string, DP_pointer, DSl_slice, DM_map, DA_agg, DTup_tuple, DCons_cons, DNil_nil, NN_some, BIf_true, BIf_false, BIf_same, List.toList_toArray, Bool.not_true, Bool.not_false]
    first | refine hs.ldw 5 rfl rfl ?_
    try simp only [DI_int', DB_bool, DS_string, DP_pointer, DSl_slice, DM_map, DA_agg, DTup_tuple, DCons_cons, DNil_nil, NN_some, BIf_true, BIf_false, BIf_same, List.toList_toArray, Bool.not_true, Bool.not_false]
    refine HCalls.use (Good_ok (i : Int) a b c _) ?_
    simp only [DI_int', DB_bool, DS_string, DP_pointer, DSl_slice, DM_map, DA_agg, DTup_tuple, DCons_cons, DNil_nil, NN_some, BIf_true, BIf_false, BIf_same, List.toList_toArray, Bool.not_true, Bool.not_false]
    by_cases hg : goodR (i : Int) a b c = true
    · rw [if_pos hg] at hr
      subst hr
      rw [hg]
      refine BIf_neg rfl ?_
      first | refine hs.ldw 5 rfl rfl ?_
      try simp only [DI_int', DB_bool, DS_string, DP_pointer, DSl_slice, DM_map, DA_agg, DTup_tuple, DCons_cons, DNil_nil, NN_some, BIf_true, BIf_false, BIf_same, List.toList_toArray, Bool.not_true, Bool.not_false]
      first | refine hs.stw 1 rfl rfl rfl rfl fun H hs => ?_
      try simp only [DI_int', DB_bool, DS_string, DP_pointer, DSl_slice, DM_map, DA_agg, DTup_tuple, DCons_cons, DNil_nil, NN_some, BIf_true, BIf_false, BIf_same, List.toList_toArray, Bool.not_true, Bool.not_false]
      first | refine hs.ldw 1 rfl rfl ?_
      try simp only [DI_int', DB_bool, DS_string, DP_pointer, DSl_slice, DM_map, DA_agg, DTup_tuple, DCons_cons, DNil_nil, NN_some, BIf_true, BIf_false, BIf_same, List.toList_toArray, Bool.not_true, Bool.not_false]
      exact hs.fin 0 rfl _
    · rw [if_neg hg] at hr
      subst hr
      have hf : goodR (i : Int) a b c = false := by simpa using hg
      rw [hf]
      refine BIf_pos rfl ?_
      first | refine hs.stw 1 rfl rfl rfl rfl fun H hs => ?_
      try simp only [DI_int', DB_bool, DS_string, DP_pointer, DSl_slice, DM_map, DA_agg, DTup_tuple, DCons_cons, DNil_nil, NN_some, BIf_true, BIf_false, BIf_same, List.toList_toArray, Bool.not_true, Bool.not_false]
      first | refine hs.ldw 1 rfl rfl ?_
      try simp only [DI_int', DB_bool, DS_string, DP_pointer, DSl_slice, DM_map, DA_agg, DTup_tuple, DCons_cons, DNil_nil, NN_some, BIf_true, BIf_false, BIf_same, List.toList_toArray, Bool.not_true, Bool.not_false]
      exact hs.fin 0 rfl _

theorem gRead_ok (s : List UInt8) (hl : s.length ≤ 1000000) (H : Hp) (hM : MaxL H) (hK : Kinds H) :
    HCalls Tryd.prog 50 #[.string ⟨⟨s⟩⟩] H (RetE (genT (readG s)) H) := HCalls.ret (by
  apply W_gen_Read.ok
  unfold W_gen_Read
  refine (Sep.start H).nw fun b1 H1 hs => ?_
  refine HCalls.use (Cut_hc s 32 (by omega) H1 (hM.le (hs.ow 0 rfl))) ?_
  simp only [DI_int', DB_bool, DS_string, DP_pointer, DSl_slice, DM_map, DA_agg, DTup_tuple, DCons_cons, DNil_nil, NN_some, BIf_true, BIf_false, BIf_same, List.toList_toArray, Bool.not_true, Bool.not_false]
  refine Cells.all (hK.le (hs.ow 0 rfl)) rfl ?_
  refine ⟨7, ?_⟩
  have hrl : (Go.Lib.cut s [32]).2.1.length ≤ s.length := by
    unfold Go.Lib.cut
    split
    · simp
    · simp
  exact Read_loop2 (Go.Lib.cut s [32]).1 (Go.Lib.cut s [32]).2.1 (by omega) b1 H hM (readG s) rfl 6 0 H1 (by omega) (fun j h1 h2 => by omega) hs)

end Go.Proofs.YtbnhfcdagoigkaaDoor.Cod

end
section
/-! HwV -/
/- The frame of the proofs: structs and arrays of plain cells, compared. -/
set_option maxRecDepth 100000
set_option linter.unusedSimpArgs false
set_option linter.unusedVariables false
set_option linter.unnecessarySimpa false
set_option linter.unusedSectionVars false
namespace Go.Hw
open Go

def litOk : Lf → Lit → Bool
  | .int k, .int k' n => decide (k' = k) && (Lit.int k n).wf
  | .bool, .bool _ => true
  | .str, .string l => decide (l.length ≤ maxLen)
  | _, _ => false

def okAll : List Lf → List Lit → Bool
  | [], [] => true
  | f :: fs, l :: ls => litOk f l && okAll fs ls
  | _, _ => false

def flatFs (P : Program) (g : TypeId → Option (List Lf)) : List Field → Nat → Option (List Lf)
  | [], _ => some []
  | f :: r, off => match f.name != "_" && Nat.beq f.offset off with
    | true => match g f.type with
      | some l => match Nat.beq l.length (P.cellsOf f.type) with
        | true => match flatFs P g r (off + l.length) with
          | some k => some (l ++ k)
          | none => none
        | false => none
      | none => none
    | false => none

/-- The plain cells that a type is made of. -/
def flat (P : Program) : Nat → TypeId → Option (List Lf)
  | 0, _ => none
  | d + 1, t => match P.underlying t with
    | some .bool => some [.bool]
    | some (.int q) => some [.int q]
    | some .string => some [.str]
    | some (.array n e) => match flat P d e with
      | some l => match Nat.beq l.length (P.cellsOf e) && Nat.beq (n * l.length) (P.cellsOf t) with
        | true => some (List.replicate n l).flatten
        | false => none
      | none => none
    | some (.struct fs) => match flatFs P (flat P d) fs.toList 0 with
      | some l => match Nat.beq l.length (P.cellsOf t) with
        | true => some l
        | false => none
      | none => none
    | _ => none

theorem okAll_len : ∀ {fs : List Lf} {ls : List Lit}, okAll fs ls = true → ls.length = fs.length
  | [], [], _ => rfl
  | _ :: fs, _ :: ls, h => by
    simp only [okAll, Bool.and_eq_true] at h
    simp [okAll_len h.2]
  | [], _ :: _, h => by cases h
  | _ :: _, [], h => by cases h

theorem okAll_split : ∀ {a b : List Lf} {ls : List Lit}, okAll (a ++ b) ls = true → ∃ x y, ls = x ++ y ∧ okAll a x = true ∧ okAll b y = true
  | [], b, ls, h => ⟨[], ls, rfl, rfl, h⟩
  | f :: a, b, [], h => by cases h
  | f :: a, b, l :: ls, h => by
    simp only [List.cons_append, okAll, Bool.and_eq_true] at h
    obtain ⟨x, y, rfl, h1, h2⟩ := okAll_split h.2
    exact ⟨l :: x, y, rfl, by simp [okAll, h.1, h1], h2⟩

theorem okAll_one {f : Lf} {ls : List Lit} (h : okAll [f] ls = true) : ∃ x, ls = [x] := by
  have := okAll_len h
  match ls, this with
  | [x], _ => exact ⟨x, rfl⟩

theorem keyLits_flat {P : Program} : ∀ (d : Nat) (t : TypeId) (ks : List Lf) (ls : List Lit), flat P d t = some ks → okAll ks ls = true → P.keyLits d t (ls.map Lit.value) = some ls
  | 0, _, _, _, h, _ => by cases h
  | d + 1, t, ks, ls, h, ho => by
    unfold flat at h
    unfold Program.keyLits
    split at h
    · rename_i hu
      cases h
      obtain ⟨x, rfl⟩ := okAll_one ho
      cases x <;> simp only [okAll, litOk, Bool.and_true, Bool.false_eq_true, Bool.false_and] at ho
      simp [hu, Lit.value]
    · rename_i q hu
      cases h
      obtain ⟨x, rfl⟩ := okAll_one ho
      cases x <;> simp only [okAll, litOk, Bool.and_eq_true, decide_eq_true_eq, Bool.and_true, Bool.false_eq_true, Bool.false_and] at ho
      obtain ⟨rfl, hw⟩ := ho
      simp [hu, Lit.value, hw]
    · rename_i hu
      cases h
      obtain ⟨x, rfl⟩ := okAll_one ho
      cases x <;> simp only [okAll, litOk, decide_eq_true_eq, Bool.and_true, Bool.false_eq_true, Bool.false_and] at ho
      simp [hu, Lit.value, ByteArray.size, ho]
    · rename_i n e hu
      split at h
      · rename_i l hl
        split at h
        · rename_i hb
          cases h
          simp only [Bool.and_eq_true] at hb
          have h1 := Nat.eq_of_beq_eq_true hb.1
          have h2 := Nat.eq_of_beq_eq_true hb.2
          simp only [hu]
          have hlen := okAll_len ho
          rw [if_pos (by rw [List.length_map, hlen, List.length_flatten]; simp [h2, ← h1] )]
          have key : ∀ (m i : Nat) (pre ls : List Lit), pre.length = i * l.length → okAll (List.replicate m l).flatten ls = true →
              ∃ out, (List.range' i m).mapM (fun i => P.keyLits d e ((((pre ++ ls).map Lit.value).drop (i * P.cellsOf e)).take (P.cellsOf e))) = some out ∧ out.flatten = ls := by
            intro m
            induction m with
            | zero =>
              intro i pre ls _ ho
              have : ls = [] := by have := okAll_len ho; simpa using this
              subst this
              exact ⟨[], by simp, rfl⟩
            | succ m ih =>
              intro i pre ls hp ho
              rw [List.replicate_succ, List.flatten_cons] at ho
              obtain ⟨x, y, rfl, hx, hy⟩ := okAll_split ho
              have lx := okAll_len hx
              obtain ⟨out, ho1, ho2⟩ := ih (i + 1) (pre ++ x) y (by rw [List.length_append, hp, lx, Nat.succ_mul]) hy
              refine ⟨x :: out, ?_, by rw [List.flatten_cons, ho2]⟩
              rw [List.range'_succ, List.mapM_cons]
              have e1 : ((((pre ++ (x ++ y)).map Lit.value).drop (i * P.cellsOf e)).take (P.cellsOf e)) = x.map Lit.value := by
                rw [← h1, ← hp, List.map_append, List.drop_left' (by simp), List.map_append, List.take_left' (by simp [lx])]
              rw [e1, keyLits_flat d e l x hl hx]
              rw [List.append_assoc] at ho1
              rw [ho1]; rfl
          obtain ⟨out, h3, h4⟩ := key n 0 [] ls (by simp) ho
          rw [List.range_eq_range']
          simp only [List.nil_append] at h3
          rw [h3]; simp [h4]
        · cases h
      · cases h
    · rename_i fs hu
      split at h
      · rename_i l hl
        split at h
        · rename_i hb
          cases h
          have h1 := Nat.eq_of_beq_eq_true hb
          have hlen := okAll_len ho
          have key : ∀ (fl : List Field) (off : Nat) (k : List Lf) (pre ls : List Lit), flatFs P (flat P d) fl off = some k → pre.length = off → okAll k ls = true →
              (fl.all (·.name != "_") = true) ∧ ∃ out, fl.mapM (fun f => P.keyLits d f.type ((((pre ++ ls).map Lit.value).drop f.offset).take (P.cellsOf f.type))) = some out ∧ out.flatten = ls := by
            intro fl
            induction fl with
            | nil =>
              intro off k pre ls hk _ ho
              cases hk
              have : ls = [] := by have := okAll_len ho; simpa using this
              subst this
              exact ⟨rfl, [], by simp, rfl⟩
            | cons f fl ih =>
              intro off k pre ls hk hp ho
              unfold flatFs at hk
              split at hk
              · rename_i hn
                simp only [Bool.and_eq_true] at hn
                have hoff := Nat.eq_of_beq_eq_true hn.2
                split at hk
                · rename_i kl hkl
                  split at hk
                  · rename_i hb2
                    have h2 := Nat.eq_of_beq_eq_true hb2
                    split at hk
                    · rename_i kr hkr
                      cases hk
                      obtain ⟨x, y, rfl, hx, hy⟩ := okAll_split ho
                      have lx := okAll_len hx
                      obtain ⟨hn2, out, ho1, ho2⟩ := ih (off + kl.length) kr (pre ++ x) y hkr (by rw [List.length_append, hp, lx]) hy
                      refine ⟨by rw [List.all_cons, hn.1, hn2]; rfl, x :: out, ?_, by rw [List.flatten_cons, ho2]⟩
                      rw [List.mapM_cons]
                      have e1 : ((((pre ++ (x ++ y)).map Lit.value).drop f.offset).take (P.cellsOf f.type)) = x.map Lit.value := by
                        rw [hoff, ← h2, ← hp, List.map_append, List.drop_left' (by simp), List.map_append, List.take_left' (by simp [lx])]
                      rw [e1, keyLits_flat d f.type kl x hkl hx]
                      rw [List.append_assoc] at ho1
                      rw [ho1]; rfl
                    · cases hk
                  · cases hk
                · cases hk
              · cases hk
          obtain ⟨hn, out, h3, h4⟩ := key fs.toList 0 ks [] ls hl rfl ho
          simp only [hu]
          rw [if_pos ⟨by rw [List.length_map, hlen, h1], by rw [← Array.all_toList]; exact hn⟩]
          simp only [List.nil_append] at h3
          rw [h3]; simp [h4]
        · cases h
      · cases h
    · cases h

theorem flat_len {P : Program} {d : Nat} {t : TypeId} {ks : List Lf} (ha : isArr P t = true) (h : flat P d t = some ks) : ks.length = P.cellsOf t := by
  cases d with
  | zero => cases h
  | succ d =>
    unfold flat at h
    unfold isArr at ha
    split at h
    · rename_i hu; rw [hu] at ha; cases ha
    · rename_i hu; rw [hu] at ha; cases ha
    · rename_i hu; rw [hu] at ha; cases ha
    · split at h
      · rename_i l hl
        split at h
        · rename_i hb
          cases h
          simp only [Bool.and_eq_true] at hb
          rw [← Nat.eq_of_beq_eq_true hb.2]; simp [List.length_flatten]
        · cases h
      · cases h
    · split at h
      · split at h
        · rename_i hb; cases h; exact Nat.eq_of_beq_eq_true hb
        · cases h
      · cases h
    · cases h

theorem equal_flat {P : Program} {d m : Nat} {t : TypeId} {ks : List Lf} (ha : isArr P t = true) (hf : flat P d t = some ks) (hk : P.keyTypeAt m t = true) (hm : m ≤ 10000) {lx ly : List Lit} (ox : okAll ks lx = true) (oy : okAll ks ly = true) {c : Bool} (hc : c = true ↔ lx = ly) (w : World) :
    (Op.equal t (.agg (lx.map Lit.value).toArray) (.agg (ly.map Lit.value).toArray)).run P w = .ok c w := by
  have hform : ∀ l : List Lit, okAll ks l = true → (Value.agg (l.map Lit.value).toArray).formed P t = true := fun l hl => by
    have := okAll_len hl
    have h2 := flat_len ha hf
    unfold Value.formed
    unfold isArr at ha
    split at ha
    · rename_i hu; rw [hu]; simp [this, h2]
    · rename_i hu; rw [hu]; simp [this, h2]
    · cases ha
  obtain ⟨r, hr, hiff⟩ := run_equalIn_deep (P := P) (10000 - m) m t hk w d d _ _ lx ly (hform lx ox) (hform ly oy) (by simpa [Value.cells] using keyLits_flat d t ks lx hf ox) (by simpa [Value.cells] using keyLits_flat d t ks ly hf oy)
  rw [show 10000 - m + m = 10000 by omega] at hr
  have : r = c := by
    cases r <;> cases c <;> simp_all
  rw [← this]
  exact hr

theorem wf64 {n : Int} (h0 : -9223372036854775808 ≤ n) (h1 : n ≤ 9223372036854775807) : (Lit.int .i64 n).wf = true := by
  simp only [Lit.wf, Bool.and_eq_true, decide_eq_true_eq]
  exact ⟨h0, h1⟩
theorem wfI {n : Int} (h : -9223372036854775808 ≤ n ∧ n ≤ 9223372036854775807) : (Lit.int .i64 n).wf = true := wf64 h.1 h.2
theorem ok64 : ∀ (n : Nat) (l : List Int), l.length = n → (∀ x ∈ l, -9223372036854775808 ≤ x ∧ x ≤ 9223372036854775807) → okAll (List.replicate n (.int .i64)) (l.map (Lit.int .i64)) = true
  | 0, [], _, _ => rfl
  | n + 1, x :: l, h, hr => by
    have h1 := wfI (hr x (by simp))
    have h2 := ok64 n l (by simpa using h) (fun y hy => hr y (by simp [hy]))
    rw [List.replicate_succ, List.map_cons]
    simp only [okAll, litOk, decide_true, Bool.true_and, Bool.and_eq_true]
    exact ⟨h1, h2⟩

section
variable {P : Program} {d m : Nat} {t : TypeId} {ks : List Lf} (ha : isArr P t = true) (hf : flat P d t = some ks) (hk : P.keyTypeAt m t = true) (hm : m ≤ 10000) (hg : P.eqGuardType P.depth t = false)
include ha hf hk hm hg
theorem EqV_eql {lx ly : List Lit} (ox : okAll ks lx = true) (oy : okAll ks ly = true) {cx cy : Array Value} (ex : cx = (lx.map Lit.value).toArray) (ey : cy = (ly.map Lit.value).toArray) {K : Bool → Prop} (c : Bool) (hc : c = true ↔ lx = ly) (k : K c) : EqV P .eql t (.agg cx) (.agg cy) K := by
  subst ex; subst ey
  refine ⟨_, k, fun xo yo w => ?_⟩
  have h := equal_flat ha hf hk hm ox oy hc w
  simp [eqGuard, binOp, h, hg]
theorem EqV_neq {lx ly : List Lit} (ox : okAll ks lx = true) (oy : okAll ks ly = true) {cx cy : Array Value} (ex : cx = (lx.map Lit.value).toArray) (ey : cy = (ly.map Lit.value).toArray) {K : Bool → Prop} (c : Bool) (hc : c = true ↔ lx = ly) (k : K (!c)) : EqV P .neq t (.agg cx) (.agg cy) K := by
  subst ex; subst ey
  refine ⟨_, k, fun xo yo w => ?_⟩
  have h := equal_flat ha hf hk hm ox oy hc w
  simp [eqGuard, binOp, h, hg]
end

/-- What a type of i64 cells alone must be. -/
def plain64 (P : Program) (t : TypeId) (n : Nat) : Prop := isArr P t = true ∧ flat P 9 t = some (List.replicate n (.int .i64)) ∧ P.keyTypeAt 9 t = true ∧ P.eqGuardType P.depth t = false

theorem map64 (l : List Int) : (l.map (Lit.int .i64)).map Lit.value = l.map (Value.int .i64) := by rw [List.map_map]; rfl
theorem inj64 {a b : List Int} : a.map (Lit.int .i64) = b.map (Lit.int .i64) ↔ a = b := by
  constructor
  · intro h
    have : ∀ {a b : List Int}, a.map (Lit.int .i64) = b.map (Lit.int .i64) → a = b := by
      intro a
      induction a with
      | nil => intro b h; cases b with
        | nil => rfl
        | cons _ _ => simp at h
      | cons x a ih => intro b h; cases b with
        | nil => simp at h
        | cons y b => simp at h; rw [h.1, ih (by simpa using h.2)]
    exact this h
  · intro h; rw [h]

theorem EqI_eql {P : Program} {t : TypeId} {n : Nat} (hp : plain64 P t n) {a b : List Int} (la : a.length = n) (lb : b.length = n) (ra : ∀ x ∈ a, -9223372036854775808 ≤ x ∧ x ≤ 9223372036854775807) (rb : ∀ x ∈ b, -9223372036854775808 ≤ x ∧ x ≤ 9223372036854775807)
    {cx cy : Array Value} (ex : cx = (a.map (Value.int .i64)).toArray) (ey : cy = (b.map (Value.int .i64)).toArray) {K : Bool → Prop} (k : K (decide (a = b))) : EqV P .eql t (.agg cx) (.agg cy) K :=
  EqV_eql hp.1 hp.2.1 hp.2.2.1 (by omega) hp.2.2.2 (ok64 n a la ra) (ok64 n b lb rb) (by rw [map64]; exact ex) (by rw [map64]; exact ey) _ (by rw [inj64]; simp) k
theorem EqI_neq {P : Program} {t : TypeId} {n : Nat} (hp : plain64 P t n) {a b : List Int} (la : a.length = n) (lb : b.length = n) (ra : ∀ x ∈ a, -9223372036854775808 ≤ x ∧ x ≤ 9223372036854775807) (rb : ∀ x ∈ b, -9223372036854775808 ≤ x ∧ x ≤ 9223372036854775807)
    {cx cy : Array Value} (ex : cx = (a.map (Value.int .i64)).toArray) (ey : cy = (b.map (Value.int .i64)).toArray) {K : Bool → Prop} (k : K (!decide (a = b))) : EqV P .neq t (.agg cx) (.agg cy) K :=
  EqV_neq hp.1 hp.2.1 hp.2.2.1 (by omega) hp.2.2.2 (ok64 n a la ra) (ok64 n b lb rb) (by rw [map64]; exact ex) (by rw [map64]; exact ey) _ (by rw [inj64]; simp) k

end Go.Hw

end
section
/-! CodM -/
/- law 38: GenLines. -/
set_option maxRecDepth 100000
set_option linter.unusedSimpArgs false
set_option linter.unusedVariables false
set_option linter.unnecessarySimpa false
set_option linter.unusedSectionVars false
namespace Go.Proofs.YtbnhfcdagoigkaaDoor.Cod
open Go Go.Hw Go.Proofs.YtbnhfcdagoigkaaDoor.W Go.Proofs.YtbnhfcdagoigkaaDoor.Gol Go.Proofs.YtbnhfcdagoigkaaDoor.Gen

/-! ## Plain -/

theorem take_getD (xs : List Nat) (h : xs.length ≤ 3) : [xs.getD 0 0, xs.getD 1 0, xs.getD 2 0].take xs.length = xs := by
  match xs, h with
  | [], _ => rfl
  | [x], _ => rfl
  | [x, y], _ => rfl
  | [x, y, z], _ => rfl
  | x :: y :: z :: u :: t, h => simp at h
theorem kindOf_inv {w : List UInt8} (h : kindOf w ≠ 0) : 1 ≤ kindOf w ∧ kindOf w < 6 ∧ w = wd (kindOf w) := by
  unfold kindOf at h ⊢
  split
  · rename_i e; exact ⟨by decide, by decide, e⟩
  · split
    · rename_i e; exact ⟨by decide, by decide, e⟩
    · split
      · rename_i e; exact ⟨by decide, by decide, e⟩
      · split
        · rename_i e; exact ⟨by decide, by decide, e⟩
        · split
          · rename_i e; exact ⟨by decide, by decide, e⟩
          · rename_i e1 e2 e3 e4 e5
            rw [if_neg e1, if_neg e2, if_neg e3, if_neg e4, if_neg e5] at h
            exact absurd rfl h
theorem cn_pos {i : Nat} (h1 : 1 ≤ i) (h2 : i < 6) : 1 ≤ cn i := by
  match i, h1, h2 with
  | 1, _, _ => decide
  | 2, _, _ => decide
  | 3, _, _ => decide
  | 4, _, _ => decide
  | 5, _, _ => decide
  | i + 6, _, h => exact absurd h (by omega)

theorem readG_err {s : List UInt8} (h : (readG s).2.2.2.2 ≠ 0) : (readG s).1 = 0 ∧ (readG s).2.1 = 0 ∧ (readG s).2.2.1 = 0 ∧ (readG s).2.2.2.1 = 0 := by
  unfold readG at h ⊢
  split
  · exact ⟨rfl, rfl, rfl, rfl⟩
  · rename_i h0
    rw [if_neg h0] at h
    unfold restG at h ⊢
    split
    · exact ⟨rfl, rfl, rfl, rfl⟩
    · rename_i h1
      rw [if_neg h1] at h
      split
      · exact ⟨rfl, rfl, rfl, rfl⟩
      · rename_i h2
        rw [if_neg h2] at h
        split
        · rename_i h3
          rw [if_pos h3] at h
          exact absurd rfl h
        · exact ⟨rfl, rfl, rfl, rfl⟩

theorem readG_ok {s : List UInt8} (h : (readG s).2.2.2.2 = 0) : goodR ((readG s).1 : Int) (readG s).2.1 (readG s).2.2.1 (readG s).2.2.2.1 = true ∧ lineR ((readG s).1 : Int) (readG s).2.1 (readG s).2.2.1 (readG s).2.2.2.1 = s := by
  unfold readG at h ⊢
  by_cases h0 : kindOf (Go.Lib.cut s [32]).1 = 0
  · rw [if_pos h0] at h; cases h
  rw [if_neg h0] at h ⊢
  obtain ⟨k1, k2, k3⟩ := kindOf_inv h0
  have hcn := cn_le (kindOf (Go.Lib.cut s [32]).1)
  have hcp := cn_pos k1 k2
  unfold restG at h ⊢
  by_cases h1 : (readV (Go.Lib.cut s [32]).2.1).2.2 ≠ 0
  · rw [if_pos h1] at h; exact absurd h h1
  rw [if_neg h1] at h ⊢
  by_cases h2 : (readV (Go.Lib.cut s [32]).2.1).1.length ≠ cn (kindOf (Go.Lib.cut s [32]).1)
  · rw [if_pos h2] at h; cases h
  rw [if_neg h2] at h ⊢
  have h2 : (readV (Go.Lib.cut s [32]).2.1).1.length = cn (kindOf (Go.Lib.cut s [32]).1) := by omega
  split
  · rename_i hg
    refine ⟨hg, ?_⟩
    unfold lineR
    rw [if_pos hg]
    simp only [Int.toNat_natCast]
    unfold lineN
    have ht := take_getD (readV (Go.Lib.cut s [32]).2.1).1 (by omega)
    rw [← h2, ht, (readV_ok (by omega)).1, ← k3]
    rcases cut_cases 32 s with hn | ⟨w, r, hw, rfl⟩
    · rw [cut_miss 32 s hn] at h2
      have : (readV ([] : List UInt8)).1.length = 0 := rfl
      rw [this] at h2
      rw [cut_miss 32 s hn] at hcp
      omega
    · rw [cut_hit 32 w r hw]
  · rename_i hg
    rw [if_neg hg] at h
    cases h

theorem readG_line {i a b c : Nat} (hg : goodR (i : Int) a b c = true) : readG (lineN i a b c) = (i, a, if cn i < 2 then 0 else b, if cn i < 3 then 0 else c, 0) := by
  obtain ⟨g1, g2, g3, g4, g5, g6⟩ := goodR_of hg
  have hi1 : 1 ≤ i := by omega
  have hi2 : i < 6 := by omega
  have hcn := cn_le i
  have hcp := cn_pos hi1 hi2
  unfold readG lineN
  rw [cut_hit 32 (wd i) _ (wd_32 i)]
  simp only []
  rw [kindOf_at i hi1 hi2 rfl, if_neg (by omega)]
  have h3 := take3 i a b c ⟨by omega, by omega, by omega⟩
  have hall : ∀ x ∈ [a, b, c].take (cn i), x < 18446744069414584321 := fun x hx => by
    have := List.mem_of_mem_take hx
    simp at this
    rcases this with rfl | rfl | rfl
    · exact g3
    · exact g4
    · exact g5
  have hrt := readV_text _ h3
  rw [if_pos hall] at hrt
  have hl3 : ([a, b, c].take (cn i)).length = cn i := by rw [List.length_take]; show min (cn i) 3 = _; omega
  unfold restG
  rw [hrt]
  simp only []
  rw [if_neg (by simp), if_neg (by omega)]
  have e0 : ([a, b, c].take (cn i)).getD 0 0 = a ∧ ([a, b, c].take (cn i)).getD 1 0 = (if cn i < 2 then 0 else b) ∧ ([a, b, c].take (cn i)).getD 2 0 = (if cn i < 3 then 0 else c) := by
    have hcc : cn i = 1 ∨ cn i = 2 ∨ cn i = 3 := by omega
    rcases hcc with e | e | e <;> rw [e] <;> exact ⟨rfl, rfl, rfl⟩
  rw [e0.1, e0.2.1, e0.2.2]
  rw [if_pos]
  refine goodR_yes ⟨by omega, by omega, g3, by split <;> omega, by split <;> omega, fun h5 => ?_⟩
  obtain ⟨q1, q2⟩ := g6 h5
  exact ⟨by split <;> omega, by split <;> omega⟩

/-! ## Rules compared -/

def ruleL (k : Int) (a b c : Nat) : List Lit := [.int .i64 k, .int .u64 (a : Int), .int .u64 (b : Int), .int .u64 (c : Int)]
theorem ruleL_ok {k : Int} {a b c : Nat} (hk : -9223372036854775808 ≤ k ∧ k ≤ 9223372036854775807) (h : a < 18446744073709551616 ∧ b < 18446744073709551616 ∧ c < 18446744073709551616) : okAll [.int .i64, .int .u64, .int .u64, .int .u64] (ruleL k a b c) = true := by
  unfold ruleL
  simp only [okAll, litOk, decide_true, Bool.true_and, Bool.and_eq_true]
  simp [Lit.wf, IntKind.min, IntKind.max, IntKind.bits, IntKind.signed]
  omega
theorem ruleL_inj {k k' : Int} {a b c a' b' c' : Nat} : ruleL k a b c = ruleL k' a' b' c' ↔ (k = k' ∧ a = a' ∧ b = b' ∧ c = c') := by
  unfold ruleL
  simp only [List.cons.injEq, Lit.int.injEq, true_and, and_true]
  omega
theorem rule_eql {k k' : Int} {a b c a' b' c' : Nat} (o1 : okAll [.int .i64, .int .u64, .int .u64, .int .u64] (ruleL k a b c) = true) (o2 : okAll [.int .i64, .int .u64, .int .u64, .int .u64] (ruleL k' a' b' c') = true) {K : Bool → Prop} (x : Bool) (hc : x = true ↔ (k = k' ∧ a = a' ∧ b = b' ∧ c = c')) (q : K x) :
    EqV Tryd.prog .eql 102 (.agg #[.int .i64 k, .int .u64 (a : Int), .int .u64 (b : Int), .int .u64 (c : Int)]) (.agg #[.int .i64 k', .int .u64 (a' : Int), .int .u64 (b' : Int), .int .u64 (c' : Int)]) K :=
  EqV_eql (d := 9) (m := 9) (by kernel_rfl) (by kernel_rfl) (by kernel_rfl) (by omega) (by kernel_rfl) o1 o2 rfl rfl x (hc.trans ruleL_inj.symm) q
theorem rule_neq {k k' : Int} {a b c a' b' c' : Nat} (o1 : okAll [.int .i64, .int .u64, .int .u64, .int .u64] (ruleL k a b c) = true) (o2 : okAll [.int .i64, .int .u64, .int .u64, .int .u64] (ruleL k' a' b' c') = true) {K : Bool → Prop} (x : Bool) (hc : x = true ↔ (k = k' ∧ a = a' ∧ b = b' ∧ c = c')) (q : K (!x)) :
    EqV Tryd.prog .neq 102 (.agg #[.int .i64 k, .int .u64 (a : Int), .int .u64 (b : Int), .int .u64 (c : Int)]) (.agg #[.int .i64 k', .int .u64 (a' : Int), .int .u64 (b' : Int), .int .u64 (c' : Int)]) K :=
  EqV_neq (d := 9) (m := 9) (by kernel_rfl) (by kernel_rfl) (by kernel_rfl) (by omega) (by kernel_rfl) o1 o2 rfl rfl x (hc.trans ruleL_inj.symm) q

/-! ## The law -/

def wordsC : Array Value := #[.string ⟨#[]⟩, .string ⟨#[99, 111, 110, 115, 116, 32]⟩, .string ⟨#[108, 105, 110, 101, 32]⟩, .string ⟨#[112, 111, 119, 101, 114, 32]⟩, .string ⟨#[99, 104, 97, 105, 110, 32]⟩, .string ⟨#[112, 117, 108, 115, 101, 32]⟩]
def numsC : Array Value := #[.int .i64 0, .int .i64 1, .int .i64 2, .int .i64 2, .int .i64 3, .int .i64 3]
theorem words_get : ∀ i, 1 ≤ i → i < 6 → nthV wordsC.toList i = some (.string ⟨(wd i ++ [32]).toArray⟩) ∧ nthV numsC.toList i = some (.int .i64 (cn i : Int))
  | 1, _, _ => ⟨rfl, rfl⟩ | 2, _, _ => ⟨rfl, rfl⟩ | 3, _, _ => ⟨rfl, rfl⟩ | 4, _, _ => ⟨rfl, rfl⟩ | 5, _, _ => ⟨rfl, rfl⟩
  | i + 6, _, h => absurd h (by omega)

theorem lines_j19 (K : Value → Hp → Prop) (H0 : Hp) (hM : MaxL H0) (hKd : Kinds H0) (hK : ∀ H', H0.le H' → K (.bool true) H') (i a b c : Nat) (hg : goodR (i : Int) a b c = true) (b1 : Nat) (H : Hp)
    (hs : Hw.Sep [own H0, pts b1 (ruleO (i : Int) a (if cn i < 2 then 0 else b) (if cn i < 3 then 0 else c))] H) : W_abacistlaw38_GenLines.j19 K ⟨b1, 0, none⟩ ⟨⟨lineN i a b c⟩⟩ H := by
  unfold W_abacistlaw38_GenLines.j19
  obtain ⟨g1, g2, g3, g4, g5, g6⟩ := goodR_of hg
  have h3 := take3 i a b c ⟨by omega, by omega, by omega⟩
  have htl := textV_len h3
  have hwl := wd_len i
  have hln : (lineN i a b c).length ≤ 1000 := by
    unfold lineN
    rw [List.length_take] at htl
    simp only [List.length_append, List.length_cons]
    have : min (cn i) [a, b, c].length ≤ 3 := Nat.min_le_right _ _
    omega
  refine HCalls.use (gRead_ok (lineN i a b c) (by omega) H (hM.le (hs.ow 0 rfl)) (hKd.le (hs.ow 0 rfl))) ?_
  rw [readG_line hg]
  unfold genT ruleV
  simp only [DI_int', DB_bool, DS_string, DP_pointer, DSl_slice, DM_map, DA_agg, DTup_tuple, DCons_cons, DNil_nil, NN_some, BIf_true, BIf_false, BIf_same, List.toList_toArray, Bool.not_true, Bool.not_false]
  have hb2 : (if cn i < 2 then 0 else b) < 18446744073709551616 := by split <;> omega
  have hc2 : (if cn i < 3 then 0 else c) < 18446744073709551616 := by split <;> omega
  generalize (if cn i < 2 then 0 else b) = b' at *
  generalize (if cn i < 3 then 0 else c) = c' at *
  refine hs.nw fun b6 H1 hs => ?_
  first | refine hs.stw 2 rfl rfl rfl rfl fun H hs => ?_
  try simp only [DI_int', DB_bool, DS_string, DP_pointer, DSl_slice, DM_map, DA_agg, DTup_tuple, DCons_cons, DNil_nil, NN_some, BIf_true, BIf_false, BIf_same, List.toList_toArray, Bool.not_true, Bool.not_false]
  refine BIf_beqp rfl ?_
  first | refine hs.ldw 2 rfl rfl ?_
  try simp only [DI_int', DB_bool, DS_string, DP_pointer, DSl_slice, DM_map, DA_agg, DTup_tuple, DCons_cons, DNil_nil, NN_some, BIf_true, BIf_false, BIf_same, List.toList_toArray, Bool.not_true, Bool.not_false]
  first | refine hs.ldw 1 rfl rfl ?_
  try simp only [DI_int', DB_bool, DS_string, DP_pointer, DSl_slice, DM_map, DA_agg, DTup_tuple, DCons_cons, DNil_nil, NN_some, BIf_true, BIf_false, BIf_same, List.toList_toArray, Bool.not_true, Bool.not_false]
  have ho := ruleL_ok (k := (i : Int)) (a := a) (b := b') (c := c') (by omega) ⟨by omega, hb2, hc2⟩
  refine rule_eql ho ho true (by simp) ?_
  exact hK _ (hs.ow 0 rfl)

theorem lines_j17 (K : Value → Hp → Prop) (H0 : Hp) (hM : MaxL H0) (hKd : Kinds H0) (hK : ∀ H', H0.le H' → K (.bool true) H') (i a b c : Nat) (hg : goodR (i : Int) a b c = true) (b1 b4 : Nat) (e : TypeId) (H : Hp)
    (hs : Hw.Sep [own H0, pts b1 (ruleO (i : Int) a b (if cn i < 3 then 0 else c)), pts b4 (.obj (.cells numsC e))] H) : W_abacistlaw38_GenLines.j17 K ⟨b1, 0, none⟩ ⟨⟨lineN i a b c⟩⟩ ⟨b4, 0, none⟩ H := by
  unfold W_abacistlaw38_GenLines.j17
  obtain ⟨g1, g2, g3, g4, g5, g6⟩ := goodR_of hg
  first | refine hs.ldf 1 rfl rfl ?_ | refine hs.ldg 1 rfl rfl ?_
  try simp only [DI_int', DB_bool, DS_string, DP_pointer, DSl_slice, DM_map, DA_agg, DTup_tuple, DCons_cons, DNil_nil, NN_some, BIf_true, BIf_false, BIf_same, List.toList_toArray, Bool.not_true, Bool.not_false]
  refine ⟨by omega, by omega, ?_⟩
  rw [Addr.add_lit', Nat.zero_add, Int.toNat_natCast, Nat.mul_one]
  refine hs.ld 2 rfl (words_get i (by omega) (by omega)).2 ?_
  simp only [DI_int', DB_bool, DS_string, DP_pointer, DSl_slice, DM_map, DA_agg, DTup_tuple, DCons_cons, DNil_nil, NN_some, BIf_true, BIf_false, BIf_same, List.toList_toArray, Bool.not_true, Bool.not_false]
  by_cases h2 : cn i < 2
  · refine BIf_dpos (by omega) ?_
    try simp only [NN_some, Addr.add_lit', Addr.add_zero, Nat.zero_add, Nat.add_zero]
    refine hs.st 1 rfl (Nat.lt_of_sub_eq_succ rfl) rfl fun H hs => ?_
    refine lines_j19 K H0 hM hKd hK i a b c hg b1 _ ?_
    rw [if_pos h2]
    exact hs.re [0, 1] rfl
  · refine BIf_dneg (by omega) ?_
    refine lines_j19 K H0 hM hKd hK i a b c hg b1 _ ?_
    rw [if_neg h2]
    exact hs.re [0, 1] rfl

theorem lines_j9 (K : Value → Hp → Prop) (H0 : Hp) (hM : MaxL H0) (hKd : Kinds H0) (hK : ∀ H', H0.le H' → K (.bool true) H') (k : Int) (a b c : Nat) (b1 : Nat) (H : Hp)
    (hs : Hw.Sep [own H0, pts b1 (ruleO k a b c)] H) : W_abacistlaw38_GenLines.j9 K ⟨b1, 0, none⟩ ⟨⟨lineR k a b c⟩⟩ H := by
  unfold W_abacistlaw38_GenLines.j9
  first | refine hs.ldw 1 rfl rfl ?_
  try simp only [DI_int', DB_bool, DS_string, DP_pointer, DSl_slice, DM_map, DA_agg, DTup_tuple, DCons_cons, DNil_nil, NN_some, BIf_true, BIf_false, BIf_same, List.toList_toArray, Bool.not_true, Bool.not_false]
  refine HCalls.use (rGood_ok k a b c H) ?_
  simp only [DI_int', DB_bool, DS_string, DP_pointer, DSl_slice, DM_map, DA_agg, DTup_tuple, DCons_cons, DNil_nil, NN_some, BIf_true, BIf_false, BIf_same, List.toList_toArray, Bool.not_true, Bool.not_false]
  rcases (Classical.em (goodR k a b c = true)).symm with hg | hg
  · have hf : goodR k a b c = false := by simpa using hg
    rw [hf]
    refine BIf_pos rfl ?_
    have : lineR k a b c = [] := by unfold lineR; rw [if_neg hg]
    rw [this, ba_eq rfl]
    exact hK _ (hs.ow 0 rfl)
  rw [hg]
  refine BIf_neg rfl ?_
  obtain ⟨g1, g2, g3, g4, g5, g6⟩ := goodR_of hg
  obtain ⟨i, rfl⟩ := Int.eq_ofNat_of_zero_le (show 0 ≤ k by omega)
  have hl : lineR (i : Int) a b c = lineN i a b c := by unfold lineR; rw [if_pos hg, Int.toNat_natCast]
  rw [hl]
  have hi1 : 1 ≤ i := by omega
  have hi2 : i < 6 := by omega
  have hcn := cn_le i
  have hwl := wd_len i
  obtain ⟨q1, q2⟩ := words_get i hi1 hi2
  refine hs.nw fun b3 H1 hs => ?_
  refine hs.stw 2 (y := wordsC) rfl rfl rfl rfl fun H1 hs => ?_
  refine hs.nw fun b4 H1 hs => ?_
  refine hs.stw 3 (y := numsC) rfl rfl rfl rfl fun H1 hs => ?_
  first | refine hs.ldf 1 rfl rfl ?_ | refine hs.ldg 1 rfl rfl ?_
  try simp only [DI_int', DB_bool, DS_string, DP_pointer, DSl_slice, DM_map, DA_agg, DTup_tuple, DCons_cons, DNil_nil, NN_some, BIf_true, BIf_false, BIf_same, List.toList_toArray, Bool.not_true, Bool.not_false]
  refine ⟨by omega, by omega, ?_⟩
  rw [Addr.add_lit', Nat.zero_add, Int.toNat_natCast, Nat.mul_one]
  refine hs.ld 2 rfl q1 ?_
  simp only [DI_int', DB_bool, DS_string, DP_pointer, DSl_slice, DM_map, DA_agg, DTup_tuple, DCons_cons, DNil_nil, NN_some, BIf_true, BIf_false, BIf_same, List.toList_toArray, Bool.not_true, Bool.not_false]
  first | refine hs.ldf 1 rfl rfl ?_ | refine hs.ldg 1 rfl rfl ?_
  try simp only [DI_int', DB_bool, DS_string, DP_pointer, DSl_slice, DM_map, DA_agg, DTup_tuple, DCons_cons, DNil_nil, NN_some, BIf_true, BIf_false, BIf_same, List.toList_toArray, Bool.not_true, Bool.not_false]
  first | refine hs.ldf 1 rfl rfl ?_ | refine hs.ldg 1 rfl rfl ?_
  try simp only [DI_int', DB_bool, DS_string, DP_pointer, DSl_slice, DM_map, DA_agg, DTup_tuple, DCons_cons, DNil_nil, NN_some, BIf_true, BIf_false, BIf_same, List.toList_toArray, Bool.not_true, Bool.not_false]
  first | refine hs.ldf 1 rfl rfl ?_ | refine hs.ldg 1 rfl rfl ?_
  try simp only [DI_int', DB_bool, DS_string, DP_pointer, DSl_slice, DM_map, DA_agg, DTup_tuple, DCons_cons, DNil_nil, NN_some, BIf_true, BIf_false, BIf_same, List.toList_toArray, Bool.not_true, Bool.not_false]
  first | refine hs.ldf 1 rfl rfl ?_ | refine hs.ldg 1 rfl rfl ?_
  try simp only [DI_int', DB_bool, DS_string, DP_pointer, DSl_slice, DM_map, DA_agg, DTup_tuple, DCons_cons, DNil_nil, NN_some, BIf_true, BIf_false, BIf_same, List.toList_toArray, Bool.not_true, Bool.not_false]
  refine ⟨by omega, by omega, ?_⟩
  try simp only [NN_some, Addr.add_lit', Addr.add_zero, Nat.zero_add, Nat.add_zero]
  rw [Int.toNat_natCast, Nat.mul_one]
  refine hs.ld 3 rfl q2 ?_
  simp only [DI_int', DB_bool, DS_string, DP_pointer, DSl_slice, DM_map, DA_agg, DTup_tuple, DCons_cons, DNil_nil, NN_some, BIf_true, BIf_false, BIf_same, List.toList_toArray, Bool.not_true, Bool.not_false]
  refine hs.nw fun b5 H1 hs => slB_to (r := cn i) rfl (by omega) ?_
  have h3 := take3 i a b c ⟨by omega, by omega, by omega⟩
  have htl := textV_len h3
  have hl3 : ([a, b, c].take (cn i)).length = cn i := by rw [List.length_take]; show min (cn i) 3 = _; omega
  rw [slA_zero, Nat.sub_zero]
  have hc5 : Cells H1 (some ⟨b5, 0, none⟩) (natV ([a, b, c].take (cn i))) := by
    have := Cells.row (hs.get 4 rfl) 0 (cn i)
    rw [List.drop_zero] at this
    have e : natV ([a, b, c].take (cn i)) = ([.int .u64 (a : Int), .int .u64 (b : Int), .int .u64 (c : Int)] : List Value).take (cn i) := by unfold natV; rw [List.map_take]; rfl
    rw [e]
    exact this
  refine QCall.use (rText_ok (some ⟨b5, 0, none⟩) _ 3 ([a, b, c].take (cn i)) hl3.symm (by omega) h3 H1 hc5) ?_
  simp only [DI_int', DB_bool, DS_string, DP_pointer, DSl_slice, DM_map, DA_agg, DTup_tuple, DCons_cons, DNil_nil, NN_some, BIf_true, BIf_false, BIf_same, List.toList_toArray, Bool.not_true, Bool.not_false]
  rw [ba_app]
  refine ⟨?_, ?_⟩
  · show (wd i ++ [32]).toArray.size + (textV ([a, b, c].take (cn i))).toArray.size ≤ _
    simp only [List.size_toArray, List.length_append, List.length_singleton]; omega
  have eL : wd i ++ [32] ++ textV ([a, b, c].take (cn i)) = lineN i a b c := by
    rw [List.append_assoc]; rfl
  rw [eL]
  refine BIf_neg ?_ ?_
  · rw [show ((⟨⟨lineN i a b c⟩⟩ : ByteArray).toList == (⟨(lineN i a b c).toArray⟩ : ByteArray).toList) = true from ba_eq rfl]; rfl
  try simp only [NN_some, Addr.add_lit', Addr.add_zero, Nat.zero_add, Nat.add_zero]
  refine hs.ld 1 rfl rfl ?_
  simp only [DI_int', DB_bool, DS_string, DP_pointer, DSl_slice, DM_map, DA_agg, DTup_tuple, DCons_cons, DNil_nil, NN_some, BIf_true, BIf_false, BIf_same, List.toList_toArray, Bool.not_true, Bool.not_false]
  refine ⟨by omega, by omega, ?_⟩
  try simp only [NN_some, Addr.add_lit', Addr.add_zero, Nat.zero_add, Nat.add_zero]
  rw [Int.toNat_natCast, Nat.mul_one]
  refine hs.ld 3 rfl q2 ?_
  simp only [DI_int', DB_bool, DS_string, DP_pointer, DSl_slice, DM_map, DA_agg, DTup_tuple, DCons_cons, DNil_nil, NN_some, BIf_true, BIf_false, BIf_same, List.toList_toArray, Bool.not_true, Bool.not_false]
  by_cases hc3 : cn i < 3
  · refine BIf_dpos (by omega) ?_
    try simp only [NN_some, Addr.add_lit', Addr.add_zero, Nat.zero_add, Nat.add_zero]
    refine hs.st 1 rfl (Nat.lt_of_sub_eq_succ rfl) rfl fun H hs => ?_
    refine lines_j17 K H0 hM hKd hK i a b c hg b1 b4 108 _ ?_
    rw [if_pos hc3]
    exact hs.re [0, 1, 3] rfl
  · refine BIf_dneg (by omega) ?_
    refine lines_j17 K H0 hM hKd hK i a b c hg b1 b4 108 _ ?_
    rw [if_neg hc3]
    exact hs.re [0, 1, 3] rfl

theorem GenLines_ok (k : Int) (a b c : Nat) (s : ByteArray) (H0 : Hp) (hM : MaxL H0) (hKd : Kinds H0) (hP : P10 H0) :
    HCalls Tryd.prog 11 #[.agg #[.int .i64 k, .int .u64 (a : Int), .int .u64 (b : Int), .int .u64 (c : Int)], .string s] H0 (Ret (.bool true) H0) := by
  obtain ⟨⟨s⟩⟩ := s
  apply W_abacistlaw38_GenLines.ok
  unfold W_abacistlaw38_GenLines
  have hK : ∀ H', H0.le H' → Ret (.bool true) H0 (.bool true) H' := fun H' h => ⟨rfl, h⟩
  refine (Sep.start H0).nw fun b1 H1 hs => ?_
  refine HCalls.use (Gen.awake_ok H1 (hKd.le (hs.ow 0 rfl))) ?_
  simp only [DI_int', DB_bool, DS_string, DP_pointer, DSl_slice, DM_map, DA_agg, DTup_tuple, DCons_cons, DNil_nil, NN_some, BIf_true, BIf_false, BIf_same, List.toList_toArray, Bool.not_true, Bool.not_false]
  have hsz : (⟨⟨s⟩⟩ : ByteArray).size = s.length := rfl
  rw [hsz]
  by_cases hs1 : s.length > 100
  · exact BIf_dpos (by omega) (hK _ (hs.ow 0 rfl))
  refine BIf_dneg (by omega) ?_
  first | refine hs.ldw 1 rfl rfl ?_
  try simp only [DI_int', DB_bool, DS_string, DP_pointer, DSl_slice, DM_map, DA_agg, DTup_tuple, DCons_cons, DNil_nil, NN_some, BIf_true, BIf_false, BIf_same, List.toList_toArray, Bool.not_true, Bool.not_false]
  refine HCalls.use (Line_ok k a b c H1 (hKd.le (hs.ow 0 rfl)) (hP.le (hs.ow 0 rfl))) ?_
  simp only [DI_int', DB_bool, DS_string, DP_pointer, DSl_slice, DM_map, DA_agg, DTup_tuple, DCons_cons, DNil_nil, NN_some, BIf_true, BIf_false, BIf_same, List.toList_toArray, Bool.not_true, Bool.not_false]
  refine HCalls.use (gRead_ok s (by omega) H1 (hM.le (hs.ow 0 rfl)) (hKd.le (hs.ow 0 rfl))) ?_
  unfold genT ruleV
  simp only [DI_int', DB_bool, DS_string, DP_pointer, DSl_slice, DM_map, DA_agg, DTup_tuple, DCons_cons, DNil_nil, NN_some, BIf_true, BIf_false, BIf_same, List.toList_toArray, Bool.not_true, Bool.not_false]
  refine hs.nw fun b2 H1 hs => ?_
  first | refine hs.stw 2 rfl rfl rfl rfl fun H hs => ?_
  try simp only [DI_int', DB_bool, DS_string, DP_pointer, DSl_slice, DM_map, DA_agg, DTup_tuple, DCons_cons, DNil_nil, NN_some, BIf_true, BIf_false, BIf_same, List.toList_toArray, Bool.not_true, Bool.not_false]
  have hj := fun H (hs : Hw.Sep [own H0, pts b1 (ruleO k a b c)] H) => lines_j9 _ H0 hM hKd hK k a b c b1 H hs
  by_cases he : (readG s).2.2.2.2 ≠ 0
  · refine BIf_bnep (by omega) ?_
    obtain ⟨e1, e2, e3, e4⟩ := readG_err he
    rw [e1, e2, e3, e4] at hs
    refine hs.ldw 2 rfl rfl ?_
    have ho := ruleL_ok (k := 0) (a := 0) (b := 0) (c := 0) (by omega) ⟨by omega, by omega, by omega⟩
    refine rule_neq ho ho true (by simp) ?_
    refine BIf_neg rfl (BIf_beqn (by omega) ?_)
    exact hj _ (hs.re [0, 1] rfl)
  · refine BIf_bnen (by omega) (BIf_beqp (by omega) ?_)
    obtain ⟨o1, o2⟩ := readG_ok (s := s) (by omega)
    first | refine hs.ldw 2 rfl rfl ?_
    try simp only [DI_int', DB_bool, DS_string, DP_pointer, DSl_slice, DM_map, DA_agg, DTup_tuple, DCons_cons, DNil_nil, NN_some, BIf_true, BIf_false, BIf_same, List.toList_toArray, Bool.not_true, Bool.not_false]
    refine HCalls.use (rGood_ok _ _ _ _ _) ?_
    rw [o1]
    simp only [DI_int', DB_bool, DS_string, DP_pointer, DSl_slice, DM_map, DA_agg, DTup_tuple, DCons_cons, DNil_nil, NN_some, BIf_true, BIf_false, BIf_same, List.toList_toArray, Bool.not_true, Bool.not_false]
    first | refine hs.ldw 2 rfl rfl ?_
    try simp only [DI_int', DB_bool, DS_string, DP_pointer, DSl_slice, DM_map, DA_agg, DTup_tuple, DCons_cons, DNil_nil, NN_some, BIf_true, BIf_false, BIf_same, List.toList_toArray, Bool.not_true, Bool.not_false]
    refine HCalls.use (Line_ok _ _ _ _ _ (hKd.le (hs.ow 0 rfl)) (hP.le (hs.ow 0 rfl))) ?_
    rw [o2]
    simp only [DI_int', DB_bool, DS_string, DP_pointer, DSl_slice, DM_map, DA_agg, DTup_tuple, DCons_cons, DNil_nil, NN_some, BIf_true, BIf_false, BIf_same, List.toList_toArray, Bool.not_true, Bool.not_false]
    refine BIf_neg (by rw [ba_eq rfl]; rfl) ?_
    exact hj _ (hs.re [0, 1] rfl)

end Go.Proofs.YtbnhfcdagoigkaaDoor.Cod

end
