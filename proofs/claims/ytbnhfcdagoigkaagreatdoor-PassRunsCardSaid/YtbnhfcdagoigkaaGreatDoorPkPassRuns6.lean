import Derived.Test.YtbnhfcdagoigkaaGreatDoorProg
import Derived.Test.YtbnhfcdagoigkaaGreatDoorPkPassRuns5
section
/-! PasC -/
/- pass: the greatest batch; what is wrong with a pass. -/
set_option maxRecDepth 100000
set_option linter.unusedSimpArgs false
set_option linter.unusedVariables false
set_option linter.unnecessarySimpa false
set_option linter.unusedSectionVars false
namespace Go.Proofs.YtbnhfcdagoigkaaGreatDoor.Pas
open Go Go.Hw Go.Crc Go.Form Go.Proofs.YtbnhfcdagoigkaaGreatDoor.W Go.Proofs.YtbnhfcdagoigkaaGreatDoor.Shp Go.Proofs.YtbnhfcdagoigkaaGreatDoor.Gol Go.Proofs.YtbnhfcdagoigkaaGreatDoor.Fft Go.Proofs.YtbnhfcdagoigkaaGreatDoor.Ker Go.Proofs.YtbnhfcdagoigkaaGreatDoor.Str Go.Proofs.YtbnhfcdagoigkaaGreatDoor.Dsk Go.Proofs.YtbnhfcdagoigkaaGreatDoor.Are Go.Proofs.YtbnhfcdagoigkaaGreatDoor.Trn

/-- The greatest batch: of 2^ea rows, where q rows have room. -/
structure BatIs (ea q j : Nat) : Prop where
  le : j ≤ ea
  fit : 2 ^ j + 1 ≤ q
  most : j = ea ∨ q < 2 * 2 ^ j + 1
theorem BatIs.unique {ea q j j' : Nat} (h : BatIs ea q j) (h' : BatIs ea q j') : j = j' := by
  have key : ∀ {a b : Nat}, BatIs ea q a → BatIs ea q b → ¬ a < b := fun {a b} ha hb hlt => by
    have hp : 2 ^ (a + 1) ≤ 2 ^ b := pow_le hlt
    rw [Nat.pow_succ] at hp
    have h1 := hb.le
    have h2 := hb.fit
    rcases ha.most with e | e
    · omega
    · omega
  have h1 := key h h'
  have h2 := key h' h
  omega
theorem BatIs.ex {ea q : Nat} (h : 2 ≤ q) : ∃ j, BatIs ea q j := by
  have key : ∀ t j, j + t = ea → 2 ^ j + 1 ≤ q → ∃ j, BatIs ea q j := fun t => by
    induction t with
    | zero => intro j hj hf; exact ⟨j, by omega, hf, .inl (by omega)⟩
    | succ t ih =>
      intro j hj hf
      by_cases hc : 2 ^ (j + 1) + 1 ≤ q
      · exact ih (j + 1) (by omega) hc
      · rw [Nat.pow_succ] at hc
        exact ⟨j, by omega, hf, .inr (by omega)⟩
  exact key ea 0 (by omega) (by rw [Nat.pow_zero]; omega)

theorem pow2_inj {a b : Nat} (h : 2 ^ a = 2 ^ b) : a = b := by
  rcases Nat.lt_trichotomy a b with h1 | h1 | h1
  · have := Nat.pow_lt_pow_right (show 1 < 2 by omega) h1; omega
  · exact h1
  · have := Nat.pow_lt_pow_right (show 1 < 2 by omega) h1; omega

abbrev batC (r c per free : Int) : Prop := goodS r c = true ∧ c ≤ 1048576 ∧ perB per = true ∧ per ≤ free ∧ 2 * c ≤ free - per
def batQ (r c per free : Int) (v : Value) : Prop :=
  (¬ batC r c per free ∧ v = .tuple #[.int .i64 0, .bool false]) ∨
  (batC r c per free ∧ ∃ ea eb j : Nat, r = ((2 ^ ea : Nat) : Int) ∧ c = ((2 ^ eb : Nat) : Int) ∧ ea + eb ≤ 32 ∧ BatIs ea ((free - per).toNat / 2 ^ eb) j ∧ v = .tuple #[.int .i64 ((2 ^ j : Nat) : Int), .bool true])

theorem bat_loop {r c per free : Int} {ea eb f : Nat} (hr : r = ((2 ^ ea : Nat) : Int)) (hc : c = ((2 ^ eb : Nat) : Int)) (hab : ea + eb ≤ 32) (hf : free - per = (f : Int)) (hf2 : f ≤ 9223372036854775807) (hfr : free - per ≤ 9223372036854775807) (K : Value → Hp → Prop) (b1 : Nat) {L : List As} (i : Nat)
    (hi : L[i]? = some (pts b1 (.obj (.cells #[.int .i64 r, .int .i64 c] 24)))) {H : Hp} (hs : Sep L H) (hK : ∀ j, BatIs ea (f / 2 ^ eb) j → K (.tuple #[.int .i64 ((2 ^ j : Nat) : Int), .bool true]) H) :
    ∀ (t j : Nat), j + t = ea → 2 ^ j + 1 ≤ f / 2 ^ eb → W_pass_Batch.l4 K (t + 1) per free ⟨b1, 0, none⟩ ((2 ^ j : Nat) : Int) H := by
  have hc1 := pow_pos eb
  intro t
  induction t with
  | zero =>
    intro j hj hfit
    have hp2 := pow_le (show j ≤ 32 by omega)
    have hp1 := pow_pos j
    unfold W_pass_Batch.l4
    rw [show (⟨b1, 0, none⟩ : Addr).add 0 = ⟨b1, 0, none⟩ from rfl]
    refine hs.ld i hi rfl ?_
    simp only [DI_int', DB_bool, DS_string, DP_pointer, DSl_slice, DM_map, DA_agg, DTup_tuple, DCons_cons, DNil_nil, NN_some, BIf_true, BIf_false, BIf_same, List.toList_toArray, Bool.not_true, Bool.not_false]
    rw [i64w (x := 2 * ((2 ^ j : Nat) : Int)) (by omega) (by omega)]
    refine BIf_dneg ?_ (hK j ⟨by omega, hfit, .inl (by omega)⟩)
    rw [hr, show ea = j by omega]; omega
  | succ t ih =>
    intro j hj hfit
    have hp2 := pow_le (show j + 1 ≤ 32 by omega)
    have hp3 := pow_le (show j + 1 ≤ ea by omega)
    have hp1 := pow_pos j
    rw [Nat.pow_succ] at hp2 hp3
    unfold W_pass_Batch.l4
    rw [show (⟨b1, 0, none⟩ : Addr).add 0 = ⟨b1, 0, none⟩ from rfl]
    refine hs.ld i hi rfl ?_
    simp only [DI_int', DB_bool, DS_string, DP_pointer, DSl_slice, DM_map, DA_agg, DTup_tuple, DCons_cons, DNil_nil, NN_some, BIf_true, BIf_false, BIf_same, List.toList_toArray, Bool.not_true, Bool.not_false]
    rw [i64w (x := 2 * ((2 ^ j : Nat) : Int)) (by omega) (by omega)]
    refine BIf_dpos (by rw [hr]; omega) ?_
    refine hs.ldf i hi rfl ?_
    simp only [DI_int', DB_bool, DS_string, DP_pointer, DSl_slice, DM_map, DA_agg, DTup_tuple, DCons_cons, DNil_nil, NN_some, BIf_true, BIf_false, BIf_same, List.toList_toArray, Bool.not_true, Bool.not_false]
    refine ⟨by rw [hc]; omega, trivial, ?_⟩
    rw [i64w (x := free - per) (by omega) hfr]
    rw [show Int.tdiv (free - per) c = ((f / 2 ^ eb : Nat) : Int) by rw [hf, hc]; rfl]
    have hdl : f / 2 ^ eb ≤ f := Nat.div_le_self _ _
    rw [i64n (by omega), i64w (x := 2 * ((2 ^ j : Nat) : Int) + 1) (by omega) (by omega)]
    by_cases hc2 : 2 * 2 ^ j + 1 ≤ f / 2 ^ eb
    · refine BIf_dpos (by omega) ?_
      rw [i64w (by omega) (by omega), show ((2 ^ j : Nat) : Int) * 2 = ((2 ^ (j + 1) : Nat) : Int) by rw [Nat.pow_succ]; omega]
      exact ih (j + 1) (by omega) (by rw [Nat.pow_succ]; omega)
    · exact BIf_dneg (by omega) (hK j ⟨by omega, hfit, .inr (by omega)⟩)

theorem Batch_ok (r c per free : Int) (hper : -9223372036854775808 ≤ per ∧ per ≤ 9223372036854775807) (hf : free ≤ 9223372036854775807) (H : Hp) (hT : T64 H) :
    HCalls Tryz.prog 19 #[.agg #[.int .i64 r, .int .i64 c], .int .i64 per, .int .i64 free] H fun v H' => batQ r c per free v ∧ H' = H := by
  refine HCalls.forget ?_
  apply W_pass_Batch.ok
  unfold W_pass_Batch
  refine (Sep.start H).nw fun b1 H1 hs => ?_
  have out : ∀ {v : Value}, batQ r c per free v → ∃ H'', H''.le H1 ∧ batQ r c per free v ∧ H'' = H := fun h => ⟨H, hs.ow 0 rfl, h, rfl⟩
  first | refine hs.ldw 1 rfl rfl ?_
  try simp only [DI_int', DB_bool, DS_string, DP_pointer, DSl_slice, DM_map, DA_agg, DTup_tuple, DCons_cons, DNil_nil, NN_some, BIf_true, BIf_false, BIf_same, List.toList_toArray, Bool.not_true, Bool.not_false]
  refine HCalls.use (Good_ok r c H1 (hT.le (hs.ow 0 rfl))) ?_
  simp only [DI_int', DB_bool, DS_string, DP_pointer, DSl_slice, DM_map, DA_agg, DTup_tuple, DCons_cons, DNil_nil, NN_some, BIf_true, BIf_false, BIf_same, List.toList_toArray, Bool.not_true, Bool.not_false]
  cases hg : goodS r c with
  | false => exact BIf_pos rfl (out (.inl ⟨fun h => (by have h1 := h.1; rw [hg] at h1; cases h1), rfl⟩))
  | true =>
    refine BIf_neg rfl ?_
    obtain ⟨ea, eb, hr, hc, hab, _, _⟩ := goodS_some hg
    have he1 := pow_pos ea
    have he2 := pow_pos eb
    have he3 := pow_le (show ea ≤ 32 by omega)
    have he4 := pow_le (show eb ≤ 32 by omega)
    first | refine hs.ldf 1 rfl rfl ?_ | refine hs.ldg 1 rfl rfl ?_
    try simp only [DI_int', DB_bool, DS_string, DP_pointer, DSl_slice, DM_map, DA_agg, DTup_tuple, DCons_cons, DNil_nil, NN_some, BIf_true, BIf_false, BIf_same, List.toList_toArray, Bool.not_true, Bool.not_false]
    by_cases h0 : c > 1048576
    · exact BIf_dpos h0 (out (.inl ⟨fun h => (by have := h.2.1; omega), rfl⟩))
    refine BIf_dneg h0 ?_
    by_cases h1 : per < 4
    · exact BIf_dpos h1 (out (.inl ⟨fun h => (by have := perB_range h.2.2.1; omega), rfl⟩))
    refine BIf_dneg h1 ?_
    by_cases h2 : per > 512
    · exact BIf_dpos h2 (out (.inl ⟨fun h => (by have := perB_range h.2.2.1; omega), rfl⟩))
    refine BIf_dneg h2 ?_
    have hpb := perB_of (p := per) (by omega) (by omega)
    cases hp : perB per with
    | false => exact BIf_bnep (fun h => by rw [hpb.1 h] at hp; cases hp) (out (.inl ⟨fun h => (by have h1 := h.2.2.1; rw [hp] at h1; cases h1), rfl⟩))
    | true =>
      refine BIf_bnen (hpb.2 hp) ?_
      by_cases h3 : free < per
      · exact BIf_dpos h3 (out (.inl ⟨fun h => (by omega), rfl⟩))
      refine BIf_dneg h3 ?_
      first | refine hs.ldf 1 rfl rfl ?_ | refine hs.ldg 1 rfl rfl ?_
      try simp only [DI_int', DB_bool, DS_string, DP_pointer, DSl_slice, DM_map, DA_agg, DTup_tuple, DCons_cons, DNil_nil, NN_some, BIf_true, BIf_false, BIf_same, List.toList_toArray, Bool.not_true, Bool.not_false]
      rw [i64w (x := free - per) (by omega) (by omega), i64w (x := 2 * c) (by omega) (by omega)]
      by_cases h4 : free - per < 2 * c
      · exact BIf_dpos h4 (out (.inl ⟨fun h => (by omega), rfl⟩))
      refine BIf_dneg h4 ?_
      obtain ⟨f, hfe⟩ := Int.eq_ofNat_of_zero_le (show 0 ≤ free - per by omega)
      refine ⟨ea + 1, ?_⟩
      have h2q : 2 ≤ f / 2 ^ eb := by rw [Nat.le_div_iff_mul_le (by omega)]; omega
      exact bat_loop hr hc hab hfe (by omega) (by omega) (fun v H' => ∃ H'', H''.le H' ∧ batQ r c per free v ∧ H'' = H) b1 1 rfl hs (fun j hj => out (.inr ⟨⟨hg, by omega, hp, by omega, by omega⟩, ea, eb, j, hr, hc, hab, by rw [hfe, Int.toNat_natCast]; exact hj, rfl⟩)) ea 0 (by omega) (by rw [Nat.pow_zero]; omega)

theorem Batch_no (r c per free : Int) (hper : -9223372036854775808 ≤ per ∧ per ≤ 9223372036854775807) (hf : free ≤ 9223372036854775807) (H : Hp) (hT : T64 H) (hn : ¬ batC r c per free) :
    HCalls Tryz.prog 19 #[.agg #[.int .i64 r, .int .i64 c], .int .i64 per, .int .i64 free] H (RetE (.tuple #[.int .i64 0, .bool false]) H) :=
  (Batch_ok r c per free hper hf H hT).mono fun v H' ⟨hq, e⟩ => by
    rcases hq with ⟨_, rfl⟩ | ⟨h, _⟩
    · exact ⟨rfl, e⟩
    · exact absurd h hn
theorem Batch_is {ea eb : Nat} (per free : Int) (hper : -9223372036854775808 ≤ per ∧ per ≤ 9223372036854775807) (hf : free ≤ 9223372036854775807) (H : Hp) (hT : T64 H) (hab : ea + eb ≤ 32) (h : batC ((2 ^ ea : Nat) : Int) ((2 ^ eb : Nat) : Int) per free) {j : Nat} (hj : BatIs ea ((free - per).toNat / 2 ^ eb) j) :
    HCalls Tryz.prog 19 #[.agg #[.int .i64 ((2 ^ ea : Nat) : Int), .int .i64 ((2 ^ eb : Nat) : Int)], .int .i64 per, .int .i64 free] H (RetE (.tuple #[.int .i64 ((2 ^ j : Nat) : Int), .bool true]) H) :=
  (Batch_ok _ _ per free hper hf H hT).mono fun v H' ⟨hq, e⟩ => by
    rcases hq with ⟨h', _⟩ | ⟨_, ea', eb', j', h1, h2, _, hj', rfl⟩
    · exact absurd h h'
    · have e1 : ea = ea' := pow2_inj (show 2 ^ ea = 2 ^ ea' by omega)
      have e2 : eb = eb' := pow2_inj (show 2 ^ eb = 2 ^ eb' by omega)
      subst e1 e2
      rw [hj.unique hj']
      exact ⟨rfl, e⟩

/-- What is wrong with a pass. -/
def checkV (r c dir tw : Int) (xw yw : Int) : Int :=
  if goodS r c = true ∧ xw = r * c ∧ yw = r * c then (if dir < 0 ∨ dir > 1 then 18 else if tw < -1 ∨ tw > 32 then 2 else 0) else 19

section
variable {L : List As} {H : Hp} {p q dp ap ap' : Nat} {x y : X}
theorem check_s (hs : Sep L H) (i : Nat) (hi : L[i]? = some (pts p (pipO dp ap x))) (k : Nat) (hk : L[k]? = some (pts q (pipO dp ap y))) (hT : T64 H) (r c dir tw sh : Int) :
    HCalls Tryz.prog 18 #[.pointer (some ⟨p, 0, none⟩), .pointer (some ⟨q, 0, none⟩), .agg #[.int .i64 r, .int .i64 c, .int .i64 dir, .int .i64 tw, .int .u64 sh], .pointer (some ⟨ap', 0, none⟩)] H (RetE (.int .i64 (checkV r c dir tw x.w y.w)) H) := HCalls.ret (by
  have hp1 := hs.get i hi
  have hq1 := hs.get k hk
  apply W_pass_check.ok
  unfold W_pass_check
  refine (Sep.start H).nw fun b1 H1 hs => ?_
  have hs : Sep [own H, pts b1 (.obj (.cells #[.int .i64 r, .int .i64 c, .int .i64 dir, .int .i64 tw, .int .u64 sh] 27))] H1 := hs
  have hle := hs.ow 0 rfl
  have out : ∀ {v : Value}, v = .int .i64 (checkV r c dir tw x.w y.w) → Ret (.int .i64 (checkV r c dir tw x.w y.w)) H v H1 := fun h => ⟨h, hle⟩
  have hw : ∀ {b : Nat} {z : X}, H b = some (pipO dp ap z) → HCalls Tryz.prog 43 #[.pointer (some ⟨b, 0, none⟩)] H1 (RetE (.int .i64 (z.w : Int)) H1) := fun {b z} hb => by
    have hsP : Sep [pts b (pipO dp ap z)] H1 := ⟨H1, fun _ => none, Hp.le_refl _, fun _ _ h => (nomatch h), fun _ => .inr rfl, hle _ _ hb, trivial⟩
    exact words_s hsP 0 rfl
  refine BIf_neg rfl (BIf_neg rfl (BIf_neg rfl ?_))
  simp only [Addr.add_zero]
  refine hs.lda 1 rfl (show 0 + 2 ≤ 5 by omega) ?_
  refine QCall.use (Good_ok r c H1 (hT.le hle)) ?_
  simp only [DI_int', DB_bool, DS_string, DP_pointer, DSl_slice, DM_map, DA_agg, DTup_tuple, DCons_cons, DNil_nil, NN_some, BIf_true, BIf_false, BIf_same, List.toList_toArray, Bool.not_true, Bool.not_false]
  cases hg : goodS r c with
  | false =>
    refine BIf_pos rfl (out ?_)
    unfold checkV
    rw [if_neg (fun h => by rw [hg] at h; cases h.1)]
  | true =>
    refine BIf_neg rfl ?_
    refine QCall.use (hw hp1) ?_
    simp only [DI_int', DB_bool, DS_string, DP_pointer, DSl_slice, DM_map, DA_agg, DTup_tuple, DCons_cons, DNil_nil, NN_some, BIf_true, BIf_false, BIf_same, List.toList_toArray, Bool.not_true, Bool.not_false]
    refine hs.lda 1 rfl (show 0 + 2 ≤ 5 by omega) ?_
    refine QCall.use (Size_ok r c H1 (hT.le hle)) ?_
    rw [show sizeS r c = r * c by unfold sizeS; rw [if_pos hg]]
    simp only [DI_int', DB_bool, DS_string, DP_pointer, DSl_slice, DM_map, DA_agg, DTup_tuple, DCons_cons, DNil_nil, NN_some, BIf_true, BIf_false, BIf_same, List.toList_toArray, Bool.not_true, Bool.not_false]
    by_cases h1 : (x.w : Int) = r * c
    case neg =>
      refine BIf_bnep h1 (out ?_)
      unfold checkV
      rw [if_neg (fun h => h1 h.2.1)]
    refine BIf_bnen h1 ?_
    refine QCall.use (hw hq1) ?_
    simp only [DI_int', DB_bool, DS_string, DP_pointer, DSl_slice, DM_map, DA_agg, DTup_tuple, DCons_cons, DNil_nil, NN_some, BIf_true, BIf_false, BIf_same, List.toList_toArray, Bool.not_true, Bool.not_false]
    refine hs.lda 1 rfl (show 0 + 2 ≤ 5 by omega) ?_
    refine QCall.use (Size_ok r c H1 (hT.le hle)) ?_
    rw [show sizeS r c = r * c by unfold sizeS; rw [if_pos hg]]
    simp only [DI_int', DB_bool, DS_string, DP_pointer, DSl_slice, DM_map, DA_agg, DTup_tuple, DCons_cons, DNil_nil, NN_some, BIf_true, BIf_false, BIf_same, List.toList_toArray, Bool.not_true, Bool.not_false]
    by_cases h2 : (y.w : Int) = r * c
    case neg =>
      refine BIf_bnep h2 (out ?_)
      unfold checkV
      rw [if_neg (fun h => h2 h.2.2)]
    refine BIf_bnen h2 ?_
    have hc : checkV r c dir tw x.w y.w = if dir < 0 ∨ dir > 1 then 18 else if tw < -1 ∨ tw > 32 then 2 else 0 := by
      unfold checkV; rw [if_pos ⟨hg, h1, h2⟩]
    refine hs.ldf 1 rfl rfl ?_
    simp only [DI_int', DB_bool, DS_string, DP_pointer, DSl_slice, DM_map, DA_agg, DTup_tuple, DCons_cons, DNil_nil, NN_some, BIf_true, BIf_false, BIf_same, List.toList_toArray, Bool.not_true, Bool.not_false]
    by_cases h3 : dir < 0
    · exact BIf_dpos h3 (out (by rw [hc, if_pos (.inl h3)]))
    refine BIf_dneg h3 ?_
    refine hs.ldf 1 rfl rfl ?_
    simp only [DI_int', DB_bool, DS_string, DP_pointer, DSl_slice, DM_map, DA_agg, DTup_tuple, DCons_cons, DNil_nil, NN_some, BIf_true, BIf_false, BIf_same, List.toList_toArray, Bool.not_true, Bool.not_false]
    by_cases h4 : dir > 1
    · exact BIf_dpos h4 (out (by rw [hc, if_pos (.inr h4)]))
    refine BIf_dneg h4 ?_
    refine hs.ldf 1 rfl rfl ?_
    simp only [DI_int', DB_bool, DS_string, DP_pointer, DSl_slice, DM_map, DA_agg, DTup_tuple, DCons_cons, DNil_nil, NN_some, BIf_true, BIf_false, BIf_same, List.toList_toArray, Bool.not_true, Bool.not_false]
    by_cases h5 : tw < -1
    · exact BIf_dpos h5 (out (by rw [hc, if_neg (by omega), if_pos (.inl h5)]))
    refine BIf_dneg h5 ?_
    refine hs.ldf 1 rfl rfl ?_
    simp only [DI_int', DB_bool, DS_string, DP_pointer, DSl_slice, DM_map, DA_agg, DTup_tuple, DCons_cons, DNil_nil, NN_some, BIf_true, BIf_false, BIf_same, List.toList_toArray, Bool.not_true, Bool.not_false]
    by_cases h6 : tw > 32
    · exact BIf_dpos h6 (out (by rw [hc, if_neg (by omega), if_pos (.inr h6)]))
    refine BIf_dneg h6 (out (by rw [hc, if_neg (by omega), if_neg (by omega)])))
end

theorem TZu_ok (k : Nat) (hk : k < 64) (H : Hp) (hT : T64 H) : HCalls Tryz.prog 24 #[.int .u64 ((2 ^ k : Nat) : Int)] H (RetE (.int .i64 (k : Int)) H) := by
  apply W_math_bits_TrailingZeros.ok
  unfold W_math_bits_TrailingZeros
  refine HCalls.use (TZ_ok k hk H hT) ?_
  simp only [DI_int', DB_bool, DS_string, DP_pointer, DSl_slice, DM_map, DA_agg, DTup_tuple, DCons_cons, DNil_nil, NN_some, BIf_true, BIf_false, BIf_same, List.toList_toArray, Bool.not_true, Bool.not_false]
  exact RetE.mk _ _

end Go.Proofs.YtbnhfcdagoigkaaGreatDoor.Pas

end
section
/-! PasD -/
/- pass: Run. -/
set_option maxRecDepth 100000
set_option linter.unusedSimpArgs false
set_option linter.unusedVariables false
set_option linter.unnecessarySimpa false
set_option linter.unusedSectionVars false
namespace Go.Proofs.YtbnhfcdagoigkaaGreatDoor.Pas
open Go Go.Hw Go.Crc Go.Form Go.Proofs.YtbnhfcdagoigkaaGreatDoor.W Go.Proofs.YtbnhfcdagoigkaaGreatDoor.Shp Go.Proofs.YtbnhfcdagoigkaaGreatDoor.Gol Go.Proofs.YtbnhfcdagoigkaaGreatDoor.Fft Go.Proofs.YtbnhfcdagoigkaaGreatDoor.Ker Go.Proofs.YtbnhfcdagoigkaaGreatDoor.Str Go.Proofs.YtbnhfcdagoigkaaGreatDoor.Dsk Go.Proofs.YtbnhfcdagoigkaaGreatDoor.Are Go.Proofs.YtbnhfcdagoigkaaGreatDoor.Trn

/-- The first m rows behind a pass. -/
def rowsU (j : J) (d : D) (x : X) (m : Nat) : List UInt64 := (List.range m).flatMap fun q => rowP j q (pws d x (q * 2 ^ j.eb) (2 ^ j.eb))
theorem rowsU_len (j : J) (d : D) (x : X) : ∀ m, (rowsU j d x m).length = m * 2 ^ j.eb
  | 0 => by simp [rowsU]
  | m + 1 => by
    unfold rowsU
    rw [List.range_succ, List.flatMap_append, List.length_append]
    have := rowsU_len j d x m
    unfold rowsU at this
    rw [this, Nat.succ_mul]
    simp [rowP_len]
theorem pws_part {d : D} {x : X} {fr n a c : Nat} (h : a + c ≤ n) : ((pws d x fr n).drop a).take c = pws d x (fr + a) c := by
  apply List.ext_getElem?
  intro i
  rw [List.getElem?_take]
  by_cases hi : i < c
  · rw [if_pos hi, List.getElem?_drop, pws_get (by omega), pws_get hi, Nat.add_assoc]
  · rw [if_neg hi, List.getElem?_eq_none (by rw [pws_len]; omega)]
theorem pws_eq {d d' : D} {x : X} {fr n : Nat} (h : ∀ k, fr ≤ k → k < fr + n → pw d' x k = pw d x k) : pws d' x fr n = pws d x fr n := by
  unfold pws
  apply List.map_congr_left
  intro k hk
  have := List.mem_range.1 hk
  exact h _ (by omega) (by omega)
theorem rowsU_add {j : J} {d d' : D} {x : X} (a b : Nat) (h : ∀ k, k < x.w → pw d' x k = pw d x k) (hw : (a + b) * 2 ^ j.eb ≤ x.w) :
    rowsU j d x (a + b) = rowsU j d x a ++ batF j a (pws d' x (a * 2 ^ j.eb) (b * 2 ^ j.eb)) b := by
  unfold rowsU batF
  rw [List.range_add, List.flatMap_append, List.flatMap_map]
  congr 1
  have : ∀ (l : List Nat), (∀ q, q ∈ l → q < b) → l.flatMap (fun q => rowP j (a + q) (pws d x ((a + q) * 2 ^ j.eb) (2 ^ j.eb))) = l.flatMap fun q => rowP j (a + q) (((pws d' x (a * 2 ^ j.eb) (b * 2 ^ j.eb)).drop (q * 2 ^ j.eb)).take (2 ^ j.eb)) := fun l => by
    induction l with
    | nil => intro _; rfl
    | cons q l ih =>
      intro hq
      have hqb := hq q (by simp)
      have h1 : (q + 1) * 2 ^ j.eb ≤ b * 2 ^ j.eb := Nat.mul_le_mul_right _ (by omega)
      have h2 : (a + q + 1) * 2 ^ j.eb ≤ (a + b) * 2 ^ j.eb := Nat.mul_le_mul_right _ (by omega)
      rw [Nat.succ_mul] at h1 h2
      rw [List.flatMap_cons, List.flatMap_cons, ih fun q' h' => hq q' (by simp [h']), pws_part h1, ← Nat.add_mul, pws_eq (d := d) (d' := d') (fr := (a + q) * 2 ^ j.eb) (n := 2 ^ j.eb) fun k h3 h4 => h k (by omega)]
  exact this _ fun q hq => List.mem_range.1 hq

/-- The reads and the writes of the first m batches of n words. -/
def rP (per f f' n m : Nat) : Nat := ((List.range m).map fun i => (pcs per f n (i * n) n).length + pcsR per f' n (i * n) n).sum
def wP (per f' n m : Nat) : Nat := ((List.range m).map fun i => (pcs per f' n (i * n) n).length).sum
theorem rP_succ (per f f' n m : Nat) : rP per f f' n (m + 1) = rP per f f' n m + ((pcs per f n (m * n) n).length + pcsR per f' n (m * n) n) := by
  unfold rP; rw [List.range_succ, List.map_append, List.sum_append]; simp
theorem wP_succ (per f' n m : Nat) : wP per f' n (m + 1) = wP per f' n m + (pcs per f' n (m * n) n).length := by
  unfold wP; rw [List.range_succ, List.map_append, List.sum_append]; simp
theorem rP_mono (per f f' n : Nat) {i j : Nat} (h : i ≤ j) : rP per f f' n i ≤ rP per f f' n j := by
  induction h with
  | refl => exact Nat.le_refl _
  | step h ih => rw [rP_succ]; omega
theorem wP_mono (per f' n : Nat) {i j : Nat} (h : i ≤ j) : wP per f' n i ≤ wP per f' n j := by
  induction h with
  | refl => exact Nat.le_refl _
  | step h ih => rw [wP_succ]; omega
theorem rP_le (per f f' n : Nat) : ∀ m, rP per f f' n m ≤ m * (2 * n)
  | 0 => by simp [rP]
  | m + 1 => by
    rw [rP_succ, Nat.succ_mul]
    have h1 := rP_le per f f' n m
    have h2 := pcs_len per f n (m * n) n
    have h3 := pcs_len per f' n (m * n) n
    have h4 : pcsR per f' n (m * n) n ≤ (pcs per f' n (m * n) n).length := List.length_filter_le _ _
    omega
theorem wP_le (per f' n : Nat) : ∀ m, wP per f' n m ≤ m * n
  | 0 => by simp [wP]
  | m + 1 => by
    rw [wP_succ, Nat.succ_mul]
    have h1 := wP_le per f' n m
    have h3 := pcs_len per f' n (m * n) n
    omega

/-- So many batches are done. -/
structure PasI (d d' : D) (x y : X) (j : J) (b m : Nat) : Prop where
  pg : Prog (inX y) d d' (rP (D.per d) x.f y.f (b * 2 ^ j.eb) m) (wP (D.per d) y.f (b * 2 ^ j.eb) m)
  src : ∀ k, k < x.w → pw d' x k = pw d x k
  dst : ∀ k, k < m * b * 2 ^ j.eb → pw d' y k = ((rowsU j d x (m * b))[k]?).getD 0

/-- What a pass leaves. -/
def passP (p q dp ap : Nat) (d : D) (x y : X) (j : J) (b : Nat) (cap peak : Int) (bufs : List (Nat × Nat × Option Addr)) (v : Value) (M : List As) : Prop :=
  (∃ d', PasI d d' x y j b (2 ^ j.ea / b) ∧ v = .tuple #[.int .u32 ((sum (form (rowsU j d x (2 ^ j.ea)))).toNat : Int), .int .i64 0] ∧
    M = [pts p (pipO dp ap x), pts q (pipO dp ap y), Dk dp d', Ar ap cap (mx peak (sumB bufs + (b * 2 ^ j.eb : Nat) + (2 ^ j.eb : Nat) + D.per d)) bufs]) ∨
  (∃ d', Dead (inX y) d d' ∧ d.fuse ≤ rP (D.per d) x.f y.f (b * 2 ^ j.eb) (2 ^ j.ea / b) + wP (D.per d) y.f (b * 2 ^ j.eb) (2 ^ j.ea / b) ∧ v = .tuple #[.int .u32 0, .int .i64 8] ∧
    M = [pts p (pipO dp ap x), pts q (pipO dp ap y), Dk dp d', Ar ap cap (mx peak (sumB bufs + (b * 2 ^ j.eb : Nat) + (2 ^ j.eb : Nat) + D.per d)) bufs])

section
variable {p q dp ap rn bn bb bn2 bb2 sb v2 v3 kp : Nat} {x y : X} {cap peak : Int} {bufs : List (Nat × Nat × Option Addr)} {TT : As} {j : J} {mb : Nat}

def bufs1 (bufs : List (Nat × Nat × Option Addr)) (bn n : Nat) (bb : Nat) : List (Nat × Nat × Option Addr) := bufs ++ [(bn, n, some ⟨bb, 0, none⟩)]

def passL (rn p q dp ap bn bb bn2 bb2 sb v2 v3 kp : Nat) (d0 d' : D) (x y : X) (j : J) (b m : Nat) (cap pk : Int) (bufs : List (Nat × Nat × Option Addr)) (ws : List UInt64) (mb : Nat) (TT : As) : List As :=
  [pts sb (.obj (.cells j.a 27)), pts rn (runO (sum (form (rowsU j d0 x (m * b)))) (8 * (m * b * 2 ^ j.eb)) j kp), pts bb (.row (wordVals ws) 25 mb),
    pts p (pipO dp ap x), pts q (pipO dp ap y), Dk dp d', Ar ap cap pk (bufs1 (bufs1 bufs bn (b * 2 ^ j.eb) bb) bn2 (2 ^ j.eb) bb2), pts v2 (.row [.pointer (some ⟨bn, 0, none⟩)] 64 1), pts v3 (.row [.pointer (some ⟨bn2, 0, none⟩)] 64 1), Kn kp j.eb, TT]

set_option maxHeartbeats 1000000 in
theorem run_loop (K : Value → Hp → Prop) {d : D} {b : Nat} (hT : ∀ H, TT H → T64 H) (hok : Ok d) (hx : On d x) (hy : On d y) (ho : d.rd ≤ 2000000000000000000 ∧ d.wr ≤ 2000000000000000000) (hab : j.ea + j.eb ≤ 32) (hb20 : j.eb ≤ 20) (htw : j.tw ≤ 32) (hxw : x.w = 2 ^ j.ea * 2 ^ j.eb) (hyw : y.w = 2 ^ j.ea * 2 ^ j.eb) (hdis : x.f + x.s ≤ y.f ∨ y.f + y.s ≤ x.f) (hb1 : 1 ≤ b) (hbd : 2 ^ j.ea = 2 ^ j.ea / b * b)
    (hcap : (D.per d : Int) ≤ cap - sumB (bufs1 (bufs1 bufs bn (b * 2 ^ j.eb) bb) bn2 (2 ^ j.eb) bb2)) (hbm : ∀ z ∈ bufs, z.1 ≠ bn) (hbm2 : ∀ z ∈ bufs1 bufs bn (b * 2 ^ j.eb) bb, z.1 ≠ bn2)
    {P1 : Int} (hP1 : P1 = mx peak (sumB (bufs1 (bufs1 bufs bn (b * 2 ^ j.eb) bb) bn2 (2 ^ j.eb) bb2) + D.per d))
    (hK : ∀ d' H, PasI d d' x y j b (2 ^ j.ea / b) → Sep [pts p (pipO dp ap x), pts q (pipO dp ap y), Dk dp d', Ar ap cap P1 bufs, TT] H → K (.tuple #[.int .u32 ((sum (form (rowsU j d x (2 ^ j.ea)))).toNat : Int), .int .i64 0]) H)
    (hK8 : ∀ d' H, Dead (inX y) d d' → d.fuse ≤ rP (D.per d) x.f y.f (b * 2 ^ j.eb) (2 ^ j.ea / b) + wP (D.per d) y.f (b * 2 ^ j.eb) (2 ^ j.ea / b) → Sep [pts p (pipO dp ap x), pts q (pipO dp ap y), Dk dp d', Ar ap cap P1 bufs, TT] H → K (.tuple #[.int .u32 0, .int .i64 8]) H) :
    ∀ (t m : Nat) (z : Int) (d' : D) (pk : Int) (ws : List UInt64) (H : Hp), z = ((m * b : Nat) : Int) → m + t = 2 ^ j.ea / b → PasI d d' x y j b m → ws.length = b * 2 ^ j.eb → mx pk (sumB (bufs1 (bufs1 bufs bn (b * 2 ^ j.eb) bb) bn2 (2 ^ j.eb) bb2) + D.per d) = P1 → (m = 0 ∨ pk = P1) → Sep (passL rn p q dp ap bn bb bn2 bb2 sb v2 v3 kp d d' x y j b m cap pk bufs ws mb TT) H →
      W_pass_Run.l17 K (t + 1) (some ⟨p, 0, none⟩) (some ⟨q, 0, none⟩) ⟨sb, 0, none⟩ (b : Int) (some ⟨bn, 0, none⟩) ⟨rn, 0, none⟩ z (some ⟨ap, 0, none⟩) (some ⟨v3, 0, none⟩) 1 1 (some ⟨ap, 0, none⟩) (some ⟨v2, 0, none⟩) 1 1 H := fun t => by
  have hp := Ok.per_le hok
  have hsz := size_le hab
  have hr1 := pow_pos j.ea
  have hc1 := pow_pos j.eb
  have hnb : 2 ^ j.ea / b ≤ 2 ^ j.ea := Nat.div_le_self _ _
  have hn1 : 1 ≤ 2 ^ j.ea / b := by
    have : 2 ^ j.ea / b ≠ 0 := fun h0 => by rw [h0, Nat.zero_mul] at hbd; omega
    exact Nat.pos_of_ne_zero this
  have hcc : 2 ^ j.ea / b * (b * 2 ^ j.eb) = 2 ^ j.ea * 2 ^ j.eb := by rw [← Nat.mul_assoc, ← hbd]
  have hbr : b * 2 ^ j.eb ≤ 2 ^ j.ea * 2 ^ j.eb := by rw [← hcc]; exact Nat.le_mul_of_pos_left _ hn1
  have hbb : b ≤ 2 ^ j.ea := by
    have : 1 * b ≤ 2 ^ j.ea / b * b := Nat.mul_le_mul_right b hn1
    omega
  have hbc1 : 1 * 2 ^ j.eb ≤ b * 2 ^ j.eb := Nat.mul_le_mul_right _ hb1
  have hr32 := pow_le (show j.ea ≤ 32 by omega)
  have cnt : ∀ m, m ≤ 2 ^ j.ea / b → m * (2 * (b * 2 ^ j.eb)) ≤ 2 * (2 ^ j.ea * 2 ^ j.eb) ∧ m * (b * 2 ^ j.eb) ≤ 2 ^ j.ea * 2 ^ j.eb := fun m hm => by
    have : m * (b * 2 ^ j.eb) ≤ 2 ^ j.ea * 2 ^ j.eb := by rw [← hcc]; exact Nat.mul_le_mul_right _ hm
    refine ⟨?_, this⟩
    rw [Nat.mul_left_comm]; omega
  have gives : ∀ {d' : D} {H : Hp} {K' : Hp → Prop}, Sep [Ar ap cap P1 (bufs1 (bufs1 bufs bn (b * 2 ^ j.eb) bb) bn2 (2 ^ j.eb) bb2), pts v3 (.row [.pointer (some ⟨bn2, 0, none⟩)] 64 1), pts v2 (.row [.pointer (some ⟨bn, 0, none⟩)] 64 1), pts p (pipO dp ap x), pts q (pipO dp ap y), Dk dp d', TT] H →
      (∀ H, Sep [pts p (pipO dp ap x), pts q (pipO dp ap y), Dk dp d', Ar ap cap P1 bufs, TT] H → K' H) →
      HCallsD Tryz.prog 22 #[.pointer (some ⟨ap, 0, none⟩), .slice (some ⟨v3, 0, none⟩) 1 1] H fun _ H => HCallsD Tryz.prog 22 #[.pointer (some ⟨ap, 0, none⟩), .slice (some ⟨v2, 0, none⟩) 1 1] H fun _ H => K' H := fun hs k => by
    refine (Give_oneD v3 bn2 (2 ^ j.eb) (some ⟨bb2, 0, none⟩) hbm2).use hs [0, 1] rfl rfl ?_
    rintro _ _ H ⟨rfl, rfl⟩ hs
    refine (Give_oneD v2 bn (b * 2 ^ j.eb) (some ⟨bb, 0, none⟩) hbm).use hs [0, 1] rfl rfl ?_
    rintro _ _ H ⟨rfl, rfl⟩ hs
    exact k H (hs.re [1, 2, 3, 0, 4] rfl)
  induction t with
  | zero =>
    rintro m _ d' pk ws H rfl hm hI hws hpk hip hs
    have hme : m = 2 ^ j.ea / b := by omega
    subst hme
    unfold passL at hs
    unfold W_pass_Run.l17
    rw [show ((⟨sb, 0, none⟩ : Addr).add 0).add 0 = ⟨sb, 0, none⟩ from rfl]
    refine hs.ld 0 rfl rfl ?_
    simp only [DI_int', DB_bool, DS_string, DP_pointer, DSl_slice, DM_map, DA_agg, DTup_tuple, DCons_cons, DNil_nil, NN_some, BIf_true, BIf_false, BIf_same, List.toList_toArray, Bool.not_true, Bool.not_false]
    rw [← hbd]
    refine BIf_dneg (Int.lt_irrefl _) ?_
    rw [Addr.add_zero]
    refine HCalls.use (CrcP.CSumG_s hs 1 rfl) ?_
    try simp only [DI_int', DB_bool, DS_string, DP_pointer, DSl_slice, DM_map, DA_agg, DTup_tuple, DCons_cons, DNil_nil, NN_some, BIf_true, BIf_false, BIf_same, List.toList_toArray, Bool.not_true, Bool.not_false]
    rw [← hbd]
    rw [hip.resolve_left (by omega)] at hs
    exact gives (hs.re [6, 8, 7, 3, 4, 5, 10] rfl) fun H hs => hK d' H hI hs
  | succ t ih =>
    rintro m _ d' pk ws H rfl hm hI hws hpk hip hs
    have hmlt : m < 2 ^ j.ea / b := by omega
    have hmb : (m + 1) * b ≤ 2 ^ j.ea := by
      have h1 : (m + 1) * b ≤ 2 ^ j.ea / b * b := Nat.mul_le_mul_right b hmlt
      omega
    have hmb' := hmb
    rw [Nat.succ_mul] at hmb'
    have hper : D.per d' = D.per d := hI.pg.per
    have hxd := hx.prog hI.pg
    have hyd := hy.prog hI.pg
    have hrt := rP_le (D.per d) x.f y.f (b * 2 ^ j.eb) m
    have hwt := wP_le (D.per d) y.f (b * 2 ^ j.eb) m
    have hcnt := cnt m (by omega)
    have hrd := hI.pg.rd
    have hwr := hI.pg.wr
    have hmr : (m * b + b) * 2 ^ j.eb ≤ 2 ^ j.ea * 2 ^ j.eb := Nat.mul_le_mul_right _ hmb'
    have hmr' := hmr
    rw [Nat.add_mul] at hmr
    unfold passL at hs
    unfold W_pass_Run.l17
    rw [show ((⟨sb, 0, none⟩ : Addr).add 0).add 0 = ⟨sb, 0, none⟩ from rfl]
    refine hs.ld 0 rfl rfl ?_
    simp only [DI_int', DB_bool, DS_string, DP_pointer, DSl_slice, DM_map, DA_agg, DTup_tuple, DCons_cons, DNil_nil, NN_some, BIf_true, BIf_false, BIf_same, List.toList_toArray, Bool.not_true, Bool.not_false]
    refine BIf_dpos (by omega) ?_
    refine HCalls.use (Words_s hs 6 rfl (b := bn) (n := b * 2 ^ j.eb) (A := some ⟨bb, 0, none⟩) (by simp [bufs1])) ?_
    try simp only [DI_int', DB_bool, DS_string, DP_pointer, DSl_slice, DM_map, DA_agg, DTup_tuple, DCons_cons, DNil_nil, NN_some, BIf_true, BIf_false, BIf_same, List.toList_toArray, Bool.not_true, Bool.not_false]
    refine (batch_tr (rn := rn) (p := p) (q := q) (dp := dp) (ap := ap) (kp := kp) (bb := bb) (mb := mb) (s := sum (form (rowsU j d x (m * b)))) (sk := 8 * (m * b * 2 ^ j.eb)) (j := j) (x := x) (y := y) (cap := cap) (peak := pk) (bufs := bufs1 (bufs1 bufs bn (b * 2 ^ j.eb) bb) bn2 (2 ^ j.eb) bb2) (d := d') (r := m * b) (nb := b) hT hI.pg.ok hI.pg.down hxd hyd (by omega) hb20 htw hb1 (by omega) (by omega) (by rw [hxw]; exact hmr) (by rw [hyw]; exact hmr) (by omega) (by omega) (by rw [hper]; exact hcap) ws hws).use hs [1, 2, 3, 4, 5, 6, 9, 10] rfl rfl ?_
    rintro v M H hQ hs
    unfold batP at hQ
    rw [hper] at hQ
    simp only at hQ
    have hPP : mx P1 (sumB (bufs1 (bufs1 bufs bn (b * 2 ^ j.eb) bb) bn2 (2 ^ j.eb) bb2) + D.per d) = P1 := by rw [hP1, mx_mx]
    have hma : m * (b * 2 ^ j.eb) = m * b * 2 ^ j.eb := (Nat.mul_assoc _ _ _).symm
    have hrs := rP_succ (D.per d) x.f y.f (b * 2 ^ j.eb) m
    have hws' := wP_succ (D.per d) y.f (b * 2 ^ j.eb) m
    rw [hma] at hrs hws'
    rcases hQ with ⟨hpg2, rfl, rfl⟩ | ⟨d2, hdd, hfu, rfl, rfl⟩
    case inr =>
      simp only [DI_int', DB_bool, DS_string, DP_pointer, DSl_slice, DM_map, DA_agg, DTup_tuple, DCons_cons, DNil_nil, NN_some, BIf_true, BIf_false, BIf_same, List.toList_toArray, Bool.not_true, Bool.not_false]
      refine BIf_bnep (by decide) ?_
      rw [hpk] at hs
      refine gives (hs.re [3, 7, 6, 0, 1, 2, 4] rfl) fun H hs => hK8 d2 H (hI.pg.dead hdd) ?_ hs
      have z1 := hI.pg.fuse; have z2 := hI.pg.go
      have z3 := rP_mono (D.per d) x.f y.f (b * 2 ^ j.eb) (show m + 1 ≤ 2 ^ j.ea / b by omega)
      have z4 := wP_mono (D.per d) y.f (b * 2 ^ j.eb) (show m + 1 ≤ 2 ^ j.ea / b by omega)
      omega
    simp only [DI_int', DB_bool, DS_string, DP_pointer, DSl_slice, DM_map, DA_agg, DTup_tuple, DCons_cons, DNil_nil, NN_some, BIf_true, BIf_false, BIf_same, List.toList_toArray, Bool.not_true, Bool.not_false]
    refine BIf_bnen rfl ?_
    generalize ht0 : (pcs (D.per d) x.f (b * 2 ^ j.eb) (m * b * 2 ^ j.eb) (b * 2 ^ j.eb)).length = t0 at *
    have hok1 : Ok (D.rdG d' t0) := Ok.rdG hI.pg.ok t0
    have hU := rowsU_add (j := j) (d := d) (d' := d') (x := x) (m * b) b hI.src (by rw [hxw]; exact hmr')
    have hul : (batF j (m * b) (pws d' x (m * b * 2 ^ j.eb) (b * 2 ^ j.eb)) b).length = b * 2 ^ j.eb := batF_len _ _ _ _
    generalize hus : batF j (m * b) (pws d' x (m * b * 2 ^ j.eb) (b * 2 ^ j.eb)) b = us at *
    have hpw := fun k => wrsG_pw y hok1 (m * b * 2 ^ j.eb) us k
    rw [hul] at hpw
    have hpg3 := hI.pg.trans hpg2
    rw [← hrs, ← hws'] at hpg3
    have htk : m * b + b = (m + 1) * b := (Nat.succ_mul m b).symm
    rw [htk] at hU
    have hUl := rowsU_len j d x (m * b)
    have hI2 : PasI d (wrsG (D.rdG d' t0) y (b * 2 ^ j.eb) (m * b * 2 ^ j.eb) us) x y j b (m + 1) := by
      refine ⟨hpg3, fun k hk => hpg3.pw hok hx (fun i hi => ?_) hk, fun k hk => ?_⟩
      · unfold inX at hi; omega
      · rw [hpw k]
        have hk2 : k < m * b * 2 ^ j.eb + b * 2 ^ j.eb := by
          rw [← htk, Nat.add_mul] at hk; exact hk
        rw [hU]
        by_cases h1 : m * b * 2 ^ j.eb ≤ k
        · rw [if_pos ⟨h1, hk2⟩, List.getElem?_append_right (by omega), hUl]
        · rw [if_neg (by omega), List.getElem?_append_left (by omega)]
          exact hI.dst k (by omega)
    have hcs : more (sum (form (rowsU j d x (m * b)))) (form us) = sum (form (rowsU j d x ((m + 1) * b))) := by
      rw [hU, form_append]
      unfold sum
      rw [more_append]
    have hsk : 8 * (m * b * 2 ^ j.eb) + 8 * (b * 2 ^ j.eb) = 8 * ((m + 1) * b * 2 ^ j.eb) := by rw [← htk, Nat.add_mul]; omega
    rw [hcs, hsk, hpk] at hs
    refine ih (m + 1) _ _ P1 us H ?_ (by omega) hI2 hul hPP (.inr rfl) ?_
    · rw [← Int.natCast_add, htk, i64n (by omega)]
    · exact hs.re [8, 0, 1, 2, 3, 4, 5, 9, 10, 6, 7] rfl
end

end Go.Proofs.YtbnhfcdagoigkaaGreatDoor.Pas

end
section
/-! PasE -/
/- pass: Run, whole; where it can't. -/
set_option maxRecDepth 100000
set_option linter.unusedSimpArgs false
set_option linter.unusedVariables false
set_option linter.unnecessarySimpa false
set_option linter.unusedSectionVars false
namespace Go.Proofs.YtbnhfcdagoigkaaGreatDoor.Pas
open Go Go.Hw Go.Crc Go.Form Go.Proofs.YtbnhfcdagoigkaaGreatDoor.W Go.Proofs.YtbnhfcdagoigkaaGreatDoor.Shp Go.Proofs.YtbnhfcdagoigkaaGreatDoor.Gol Go.Proofs.YtbnhfcdagoigkaaGreatDoor.Fft Go.Proofs.YtbnhfcdagoigkaaGreatDoor.Ker Go.Proofs.YtbnhfcdagoigkaaGreatDoor.Str Go.Proofs.YtbnhfcdagoigkaaGreatDoor.Dsk Go.Proofs.YtbnhfcdagoigkaaGreatDoor.Are Go.Proofs.YtbnhfcdagoigkaaGreatDoor.Trn

theorem mx3 (p a b c : Int) (h1 : a ≤ b) (h2 : b ≤ c) : mx (mx (mx p a) b) c = mx p c := by
  have key : ∀ p a b : Int, a ≤ b → mx (mx p a) b = mx p b := fun p a b h => by
    unfold mx
    by_cases h1 : a > p
    · rw [if_pos h1]
      by_cases h2 : b > a
      · rw [if_pos h2, if_pos (by omega)]
      · rw [if_neg h2, if_pos (by omega)]; omega
    · rw [if_neg h1]
  rw [key p a b h1, key p b c h2]

theorem Run_nil (p1 p2 : Nat) (r c dir tw sh x3 : Int) (H : Hp) : HCalls Tryz.prog 6 #[.pointer (some ⟨p1, 0, none⟩), .pointer (some ⟨p2, 0, none⟩), .agg #[.int .i64 r, .int .i64 c, .int .i64 dir, .int .i64 tw, .int .u64 sh], .pointer none, .int .i64 x3] H (RetE (.tuple #[.int .u32 0, .int .i64 1]) H) := HCalls.ret (by
  apply W_pass_Run.ok
  unfold W_pass_Run
  refine (Sep.start H).nw fun b1 H1 hs => ?_
  refine hs.ldw 1 rfl rfl ?_
  have hc : HCalls Tryz.prog 18 #[.pointer (some ⟨p1, 0, none⟩), .pointer (some ⟨p2, 0, none⟩), .agg #[.int .i64 r, .int .i64 c, .int .i64 dir, .int .i64 tw, .int .u64 sh], .pointer none] H1 (RetE (.int .i64 1) H1) := HCalls.ret (by
    apply W_pass_check.ok
    unfold W_pass_check
    refine (Sep.start H1).nw fun b2 H2 hs2 => BIf_neg rfl (BIf_neg rfl (BIf_pos rfl (hs2.fin 0 rfl _))))
  refine HCalls.use hc ?_
  simp only [DI_int', DB_bool, DS_string, DP_pointer, DSl_slice, DM_map, DA_agg, DTup_tuple, DCons_cons, DNil_nil, NN_some, BIf_true, BIf_false, BIf_same, List.toList_toArray, Bool.not_true, Bool.not_false]
  exact BIf_bnep (by decide) (hs.fin 0 rfl _))

section
variable {p q dp ap : Nat} {x y : X} {cap peak : Int} {bufs : List (Nat × Nat × Option Addr)} {L : List As} {H : Hp} {TT : As} {j : J}

theorem Run_bad (hs : Sep L H) (hT : T64 H) (i k : Nat) (hi : L[i]? = some (pts p (pipO dp ap x))) (hk : L[k]? = some (pts q (pipO dp ap y))) (ap' : Nat) (r c dir tw sh x3 : Int) (hno : checkV r c dir tw x.w y.w ≠ 0) :
    HCalls Tryz.prog 6 #[.pointer (some ⟨p, 0, none⟩), .pointer (some ⟨q, 0, none⟩), .agg #[.int .i64 r, .int .i64 c, .int .i64 dir, .int .i64 tw, .int .u64 sh], .pointer (some ⟨ap', 0, none⟩), .int .i64 x3] H (RetE (.tuple #[.int .u32 0, .int .i64 (checkV r c dir tw x.w y.w)]) H) := HCalls.ret (by
  have hlt := (List.getElem?_eq_some_iff.1 hi).1
  have hlt2 := (List.getElem?_eq_some_iff.1 hk).1
  apply W_pass_Run.ok
  unfold W_pass_Run
  intro b1 hb
  have hs1 := hs.new hb (.obj (.cells #[.int .i64 r, .int .i64 c, .int .i64 dir, .int .i64 tw, .int .u64 sh] 27))
  have hle : H.le (H.set b1 (.obj (.cells #[.int .i64 r, .int .i64 c, .int .i64 dir, .int .i64 tw, .int .u64 sh] 27))) := Hp.le_set hb
  generalize hH : H.set b1 (.obj (.cells #[.int .i64 r, .int .i64 c, .int .i64 dir, .int .i64 tw, .int .u64 sh] 27)) = H1 at *
  refine hs1.ldw L.length (b := b1) (n := 5) (c := #[.int .i64 r, .int .i64 c, .int .i64 dir, .int .i64 tw, .int .u64 sh]) (e := 27) (by simp) rfl ?_
  refine HCalls.use (check_s (ap' := ap') hs1 i (by rw [List.getElem?_append_left hlt]; exact hi) k (by rw [List.getElem?_append_left hlt2]; exact hk) (hT.le hle) r c dir tw sh) ?_
  simp only [DI_int', DB_bool, DS_string, DP_pointer, DSl_slice, DM_map, DA_agg, DTup_tuple, DCons_cons, DNil_nil, NN_some, BIf_true, BIf_false, BIf_same, List.toList_toArray, Bool.not_true, Bool.not_false]
  exact BIf_bnep hno ⟨rfl, hle⟩)

theorem Run_full (hs : Sep L H) (hT : T64 H) (i k n : Nat) (hi : L[i]? = some (pts p (pipO dp ap x))) (hk : L[k]? = some (pts q (pipO dp ap y))) (hn : L[n]? = some (Ar ap cap peak bufs)) (r c dir tw sh per : Int) (hper : -9223372036854775808 ≤ per ∧ per ≤ 9223372036854775807) (hcap : cap - sumB bufs ≤ 9223372036854775807)
    (h0 : checkV r c dir tw x.w y.w = 0) (hno : ¬ batC r c per (cap - sumB bufs)) :
    HCalls Tryz.prog 6 #[.pointer (some ⟨p, 0, none⟩), .pointer (some ⟨q, 0, none⟩), .agg #[.int .i64 r, .int .i64 c, .int .i64 dir, .int .i64 tw, .int .u64 sh], .pointer (some ⟨ap, 0, none⟩), .int .i64 per] H (RetE (.tuple #[.int .u32 0, .int .i64 6]) H) := HCalls.ret (by
  have hlt := (List.getElem?_eq_some_iff.1 hi).1
  have hlt2 := (List.getElem?_eq_some_iff.1 hk).1
  have hlt3 := (List.getElem?_eq_some_iff.1 hn).1
  apply W_pass_Run.ok
  unfold W_pass_Run
  intro b1 hb
  have hs1 := hs.new hb (.obj (.cells #[.int .i64 r, .int .i64 c, .int .i64 dir, .int .i64 tw, .int .u64 sh] 27))
  have hle : H.le (H.set b1 (.obj (.cells #[.int .i64 r, .int .i64 c, .int .i64 dir, .int .i64 tw, .int .u64 sh] 27))) := Hp.le_set hb
  generalize hH : H.set b1 (.obj (.cells #[.int .i64 r, .int .i64 c, .int .i64 dir, .int .i64 tw, .int .u64 sh] 27)) = H1 at *
  refine hs1.ldw L.length (b := b1) (n := 5) (c := #[.int .i64 r, .int .i64 c, .int .i64 dir, .int .i64 tw, .int .u64 sh]) (e := 27) (by simp) rfl ?_
  refine HCalls.use (check_s (ap' := ap) hs1 i (by rw [List.getElem?_append_left hlt]; exact hi) k (by rw [List.getElem?_append_left hlt2]; exact hk) (hT.le hle) r c dir tw sh) ?_
  rw [h0]
  simp only [DI_int', DB_bool, DS_string, DP_pointer, DSl_slice, DM_map, DA_agg, DTup_tuple, DCons_cons, DNil_nil, NN_some, BIf_true, BIf_false, BIf_same, List.toList_toArray, Bool.not_true, Bool.not_false]
  refine BIf_bnen rfl ?_
  simp only [Addr.add_zero]
  refine hs1.lda L.length (b := b1) (off := 0) (c := #[.int .i64 r, .int .i64 c, .int .i64 dir, .int .i64 tw, .int .u64 sh]) (e := 27) (by simp) (show 0 + 2 ≤ 5 by omega) ?_
  refine QCall.use (free_s hs1 n (by rw [List.getElem?_append_left hlt3]; exact hn)) ?_
  simp only [DI_int', DB_bool, DS_string, DP_pointer, DSl_slice, DM_map, DA_agg, DTup_tuple, DCons_cons, DNil_nil, NN_some, BIf_true, BIf_false, BIf_same, List.toList_toArray, Bool.not_true, Bool.not_false]
  refine QCall.use (Batch_no r c per (cap - sumB bufs) hper hcap H1 (hT.le hle) hno) ?_
  simp only [DI_int', DB_bool, DS_string, DP_pointer, DSl_slice, DM_map, DA_agg, DTup_tuple, DCons_cons, DNil_nil, NN_some, BIf_true, BIf_false, BIf_same, List.toList_toArray, Bool.not_true, Bool.not_false]
  exact ⟨rfl, hle⟩)

theorem check_zero (hab : j.ea + j.eb ≤ 32) (htw : -1 ≤ j.tw ∧ j.tw ≤ 32) (hxw : x.w = 2 ^ j.ea * 2 ^ j.eb) (hyw : y.w = 2 ^ j.ea * 2 ^ j.eb) : checkV ((2 ^ j.ea : Nat) : Int) ((2 ^ j.eb : Nat) : Int) (if j.d = true then 1 else 0) j.tw x.w y.w = 0 := by
  unfold checkV
  rw [if_pos ⟨goodS_pow hab, by rw [hxw, Int.natCast_mul], by rw [hyw, Int.natCast_mul]⟩, if_neg (by cases j.d <;> decide), if_neg (by omega)]

set_option maxHeartbeats 1000000 in
theorem Run_tr {d : D} {jb : Nat} (hT : ∀ H, TT H → T64 H) (hok : Ok d) (hl : d.down = false) (hx : On d x) (hy : On d y) (ho : d.rd ≤ 2000000000000000000 ∧ d.wr ≤ 2000000000000000000) (hab : j.ea + j.eb ≤ 32) (hb20 : j.eb ≤ 20) (htw : -1 ≤ j.tw ∧ j.tw ≤ 32) (hxw : x.w = 2 ^ j.ea * 2 ^ j.eb) (hyw : y.w = 2 ^ j.ea * 2 ^ j.eb) (hdis : x.f + x.s ≤ y.f ∨ y.f + y.s ≤ x.f)
    (hper : perB (D.per d : Int) = true) (hcap : cap ≤ 1000000000000) (hsum : 0 ≤ sumB bufs) (hfr : (D.per d : Int) + 2 * (2 ^ j.eb : Nat) ≤ cap - sumB bufs) (hj : BatIs j.ea ((cap - sumB bufs - D.per d).toNat / 2 ^ j.eb) jb) :
    Tr Tryz.prog 6 #[.pointer (some ⟨p, 0, none⟩), .pointer (some ⟨q, 0, none⟩), .agg j.a, .pointer (some ⟨ap, 0, none⟩), .int .i64 (D.per d : Int)]
      [pts p (pipO dp ap x), pts q (pipO dp ap y), Dk dp d, Ar ap cap peak bufs, TT] fun v M => ∃ M0, passP p q dp ap d x y j (2 ^ jb) cap peak bufs v M0 ∧ M = M0 ++ [TT] := fun H hs => by
  have hp := Ok.per_le hok
  have hsz := size_le hab
  have hr1 := pow_pos j.ea
  have hc1 := pow_pos j.eb
  have hc20 := pow_le hb20
  have hb1 := pow_pos jb
  have hjb := hj.le
  have hfit := hj.fit
  have hbsz : 2 ^ jb * 2 ^ j.eb ≤ 2 ^ j.ea * 2 ^ j.eb := Nat.mul_le_mul_right _ (pow_le hjb)
  have hbc : 1 * 2 ^ j.eb ≤ 2 ^ jb * 2 ^ j.eb := Nat.mul_le_mul_right _ hb1
  have hroom : 2 ^ jb * 2 ^ j.eb + 2 ^ j.eb ≤ (cap - sumB bufs - D.per d).toNat := by
    rw [Nat.le_div_iff_mul_le (by omega), Nat.add_mul, Nat.one_mul] at hfit
    exact hfit
  have hroom' : ((2 ^ jb * 2 ^ j.eb : Nat) : Int) + ((2 ^ j.eb : Nat) : Int) ≤ cap - sumB bufs - D.per d := by omega
  apply W_pass_Run.ok
  unfold W_pass_Run
  refine hs.nw fun sb H hs => ?_
  have hs : Sep [pts p (pipO dp ap x), pts q (pipO dp ap y), Dk dp d, Ar ap cap peak bufs, TT, pts sb (.obj (.cells j.a 27))] H := hs
  refine hs.ldw 5 rfl rfl ?_
  refine HCalls.use (check_s (ap' := ap) hs 0 rfl 1 rfl (see_T hT hs 4 rfl) _ _ _ _ _) ?_
  rw [check_zero hab htw hxw hyw]
  simp only [DI_int', DB_bool, DS_string, DP_pointer, DSl_slice, DM_map, DA_agg, DTup_tuple, DCons_cons, DNil_nil, NN_some, BIf_true, BIf_false, BIf_same, List.toList_toArray, Bool.not_true, Bool.not_false]
  refine BIf_bnen rfl ?_
  simp only [Addr.add_zero]
  refine hs.lda 5 rfl (show 0 + 2 ≤ 5 by omega) ?_
  refine QCall.use (free_s hs 3 rfl) ?_
  simp only [DI_int', DB_bool, DS_string, DP_pointer, DSl_slice, DM_map, DA_agg, DTup_tuple, DCons_cons, DNil_nil, NN_some, BIf_true, BIf_false, BIf_same, List.toList_toArray, Bool.not_true, Bool.not_false]
  refine QCall.use (Batch_is (ea := j.ea) (eb := j.eb) (D.per d) (cap - sumB bufs) ⟨by omega, by omega⟩ (by omega) H (see_T hT hs 4 rfl) hab ⟨goodS_pow hab, by omega, hper, by omega, by omega⟩ hj) ?_
  simp only [DI_int', DB_bool, DS_string, DP_pointer, DSl_slice, DM_map, DA_agg, DTup_tuple, DCons_cons, DNil_nil, NN_some, BIf_true, BIf_false, BIf_same, List.toList_toArray, Bool.not_true, Bool.not_false]
  refine hs.ldf 5 rfl rfl ?_
  simp only [DI_int', DB_bool, DS_string, DP_pointer, DSl_slice, DM_map, DA_agg, DTup_tuple, DCons_cons, DNil_nil, NN_some, BIf_true, BIf_false, BIf_same, List.toList_toArray, Bool.not_true, Bool.not_false]
  rw [← Int.natCast_mul, i64n (by omega)]
  refine (Take_tr (a := ap) (cap := cap) (peak := peak) (bufs := bufs) (n := 2 ^ jb * 2 ^ j.eb) (by omega) (by omega)).use hs [3] rfl rfl ?_
  rintro _ _ H ⟨bn, bb, rfl, rfl⟩ hs
  simp only [DI_int', DB_bool, DS_string, DP_pointer, DSl_slice, DM_map, DA_agg, DTup_tuple, DCons_cons, DNil_nil, NN_some, BIf_true, BIf_false, BIf_same, List.toList_toArray, Bool.not_true, Bool.not_false]
  refine BIf_bnen rfl ?_
  have fresh : ∀ {L : List As} {H : Hp} {bufs : List (Nat × Nat × Option Addr)} {pk : Int} (b n rb : Nat), Sep L H → L[0]? = some (Ar ap cap pk (bufs ++ [(b, n, some ⟨rb, 0, none⟩)])) → ∀ z ∈ bufs, z.1 ≠ b := fun {L H bufs pk} b n rb hs h0 z hz e => by
    obtain ⟨mp, cl, tk, hA⟩ := Sep.ar hs 0 h0
    have := hA.bn
    rw [List.map_append, List.nodup_append] at this
    exact this.2.2 z.1 (List.mem_map_of_mem hz) b (by simp) e
  have hbm : ∀ z ∈ bufs, z.1 ≠ bn := fresh bn _ bb hs rfl
  refine hs.nw fun v2 H hs => ?_
  refine hs.ldf 6 rfl rfl ?_
  simp only [DI_int', DB_bool, DS_string, DP_pointer, DSl_slice, DM_map, DA_agg, DTup_tuple, DCons_cons, DNil_nil, NN_some, BIf_true, BIf_false, BIf_same, List.toList_toArray, Bool.not_true, Bool.not_false]
  have hsb1 : sumB (bufs ++ [(bn, 2 ^ jb * 2 ^ j.eb, some ⟨bb, 0, none⟩)]) = sumB bufs + ((2 ^ jb * 2 ^ j.eb : Nat) : Int) := by
    rw [sumB_append]; simp [sumB]
  refine (Take_tr (a := ap) (cap := cap) (bufs := bufs ++ [(bn, 2 ^ jb * 2 ^ j.eb, some ⟨bb, 0, none⟩)]) (n := 2 ^ j.eb) (by omega) (by omega)).use hs [0] rfl rfl ?_
  rintro _ _ H ⟨bn2, bb2, rfl, rfl⟩ hs
  simp only [DI_int', DB_bool, DS_string, DP_pointer, DSl_slice, DM_map, DA_agg, DTup_tuple, DCons_cons, DNil_nil, NN_some, BIf_true, BIf_false, BIf_same, List.toList_toArray, Bool.not_true, Bool.not_false]
  refine BIf_bnen rfl ?_
  have hbm2 : ∀ z ∈ bufs1 bufs bn (2 ^ jb * 2 ^ j.eb) bb, z.1 ≠ bn2 := fresh bn2 _ bb2 hs rfl
  refine hs.nw fun v3 H hs => ?_
  have hsb2 : sumB (bufs1 (bufs1 bufs bn (2 ^ jb * 2 ^ j.eb) bb) bn2 (2 ^ j.eb) bb2) = sumB bufs + ((2 ^ jb * 2 ^ j.eb : Nat) : Int) + ((2 ^ j.eb : Nat) : Int) := by
    unfold bufs1
    rw [sumB_append, hsb1]; simp [sumB]
  -- what is known from here on
  have hpk : mx (mx (mx peak (sumB bufs + ((2 ^ jb * 2 ^ j.eb : Nat) : Int))) (sumB bufs + ((2 ^ jb * 2 ^ j.eb : Nat) : Int) + ((2 ^ j.eb : Nat) : Int))) (sumB (bufs1 (bufs1 bufs bn (2 ^ jb * 2 ^ j.eb) bb) bn2 (2 ^ j.eb) bb2) + D.per d) = mx peak (sumB bufs + ((2 ^ jb * 2 ^ j.eb : Nat) : Int) + ((2 ^ j.eb : Nat) : Int) + D.per d) := by
    rw [hsb2]
    exact mx3 _ _ _ _ (by omega) (by omega)
  rw [hsb1] at hs
  have hs : Sep [Ar ap cap (mx (mx peak (sumB bufs + ((2 ^ jb * 2 ^ j.eb : Nat) : Int))) (sumB bufs + ((2 ^ jb * 2 ^ j.eb : Nat) : Int) + ((2 ^ j.eb : Nat) : Int))) (bufs1 (bufs1 bufs bn (2 ^ jb * 2 ^ j.eb) bb) bn2 (2 ^ j.eb) bb2), pts bb2 (.row (zerosU64 (2 ^ j.eb)) 25 (2 ^ j.eb)), pts bb (.row (zerosU64 (2 ^ jb * 2 ^ j.eb)) 25 (2 ^ jb * 2 ^ j.eb)),
    pts p (pipO dp ap x), pts q (pipO dp ap y), Dk dp d, TT, pts sb (.obj (.cells j.a 27)), pts v2 (.row [.pointer (some ⟨bn, 0, none⟩)] 64 1), pts v3 (.row [.pointer (some ⟨bn2, 0, none⟩)] 64 1)] H := hs
  have hz : zerosU64 (2 ^ jb * 2 ^ j.eb) = wordVals (List.replicate (2 ^ jb * 2 ^ j.eb) 0) := by
    unfold zerosU64
    rw [zeroRow_one]
    unfold wordVals
    rw [List.map_replicate]; rfl
  rw [hz] at hs
  have fin : ∀ (kp : Nat) (H : Hp), Sep [Kn kp j.eb, Ar ap cap (mx (mx peak (sumB bufs + ((2 ^ jb * 2 ^ j.eb : Nat) : Int))) (sumB bufs + ((2 ^ jb * 2 ^ j.eb : Nat) : Int) + ((2 ^ j.eb : Nat) : Int))) (bufs1 (bufs1 bufs bn (2 ^ jb * 2 ^ j.eb) bb) bn2 (2 ^ j.eb) bb2), pts bb2 (.row (zerosU64 (2 ^ j.eb)) 25 (2 ^ j.eb)), pts bb (.row (wordVals (List.replicate (2 ^ jb * 2 ^ j.eb) 0)) 25 (2 ^ jb * 2 ^ j.eb)),
      pts p (pipO dp ap x), pts q (pipO dp ap y), Dk dp d, TT, pts sb (.obj (.cells j.a 27)), pts v2 (.row [.pointer (some ⟨bn, 0, none⟩)] 64 1), pts v3 (.row [.pointer (some ⟨bn2, 0, none⟩)] 64 1)] H →
      Nw H (.obj (.cells #[.int .u32 0, .int .i64 0, .int .i64 ((2 ^ j.ea : Nat) : Int), .int .i64 ((2 ^ j.eb : Nat) : Int), .int .i64 (if j.d = true then 1 else 0), .int .i64 j.tw, .int .u64 (j.sh.toNat : Int), .pointer (some ⟨kp, 0, none⟩)] 76)) fun b4 H9 =>
        W_pass_Run.j16 (fun v H' => ∃ M, (∃ M0, passP p q dp ap d x y j (2 ^ jb) cap peak bufs v M0 ∧ M = M0 ++ [TT]) ∧ Sep M H') (some ⟨p, 0, none⟩) (some ⟨q, 0, none⟩) ⟨sb, 0, none⟩ ((2 ^ jb : Nat) : Int) (some ⟨bn, 0, none⟩) ⟨b4, 0, none⟩ (some ⟨ap, 0, none⟩) (some ⟨v3, 0, none⟩) 1 1 (some ⟨ap, 0, none⟩) (some ⟨v2, 0, none⟩) 1 1 H9 := fun kp H hs => by
    refine hs.nw fun rn H hs => ?_
    unfold W_pass_Run.j16
    refine ⟨2 ^ j.ea / 2 ^ jb + 1, ?_⟩
    have out : ∀ {v : Value} {d' : D} {H : Hp}, (∀ {M}, M = [pts p (pipO dp ap x), pts q (pipO dp ap y), Dk dp d', Ar ap cap (mx peak (sumB bufs + ((2 ^ jb * 2 ^ j.eb : Nat) : Int) + ((2 ^ j.eb : Nat) : Int) + D.per d)) bufs] → passP p q dp ap d x y j (2 ^ jb) cap peak bufs v M) →
        Sep [pts p (pipO dp ap x), pts q (pipO dp ap y), Dk dp d', Ar ap cap (mx peak (sumB bufs + ((2 ^ jb * 2 ^ j.eb : Nat) : Int) + ((2 ^ j.eb : Nat) : Int) + D.per d)) bufs, TT] H → ∃ M, (∃ M0, passP p q dp ap d x y j (2 ^ jb) cap peak bufs v M0 ∧ M = M0 ++ [TT]) ∧ Sep M H := fun h hs => ⟨_, ⟨_, h rfl, rfl⟩, hs⟩
    refine run_loop (p := p) (q := q) (dp := dp) (ap := ap) (rn := rn) (bn := bn) (bb := bb) (bn2 := bn2) (bb2 := bb2) (sb := sb) (v2 := v2) (v3 := v3) (kp := kp) (x := x) (y := y) (cap := cap) (bufs := bufs) (TT := TT) (j := j) (mb := 2 ^ jb * 2 ^ j.eb) (peak := mx (mx peak (sumB bufs + ((2 ^ jb * 2 ^ j.eb : Nat) : Int))) (sumB bufs + ((2 ^ jb * 2 ^ j.eb : Nat) : Int) + ((2 ^ j.eb : Nat) : Int))) _ hT hok hx hy ho hab hb20 htw.2 hxw hyw hdis hb1 (div_pow hjb) (by rw [hsb2]; omega) hbm hbm2 hpk.symm
      (fun d' H hI hs => out (fun e => .inl ⟨d', hI, rfl, e⟩) hs) (fun d' H hd hfu hs => out (fun e => .inr ⟨d', hd, hfu, rfl, e⟩) hs) (2 ^ j.ea / 2 ^ jb) 0 0 d _ (List.replicate (2 ^ jb * 2 ^ j.eb) 0) H (by rw [Nat.zero_mul]; rfl) (by omega)
      ⟨by simpa [rP, wP] using Prog.refl (inX y) hok hl, fun _ _ => rfl, fun k hk => by simp at hk⟩ (by simp) hpk (.inl rfl) ?_
    have hs := hs.re [8, 11, 3, 4, 5, 6, 1, 9, 10, 0, 7] rfl
    unfold passL
    simp only [Nat.zero_mul, Nat.mul_zero]
    have e0 : sum (form (rowsU j d x 0)) = 0#32 := by
      show sum (form []) = 0#32
      decide
    rw [e0]
    exact hs
  have tz : ∀ H, T64 H → HCalls Tryz.prog 24 #[.int .u64 (IntKind.u64.wrap ((2 ^ j.eb : Nat) : Int))] H (RetE (.int .i64 (j.eb : Int)) H) := fun H hT => by
    rw [u64n (by omega)]
    exact TZu_ok j.eb (by omega) H hT
  refine ⟨?_, ?_⟩
  · refine hs.ldw 7 rfl rfl ?_
    refine hs.ldf 7 rfl rfl ?_
    simp only [DI_int', DB_bool, DS_string, DP_pointer, DSl_slice, DM_map, DA_agg, DTup_tuple, DCons_cons, DNil_nil, NN_some, BIf_true, BIf_false, BIf_same, List.toList_toArray, Bool.not_true, Bool.not_false]
    refine HCalls.use (tz H (see_T hT hs 6 rfl)) ?_
    simp only [DI_int', DB_bool, DS_string, DP_pointer, DSl_slice, DM_map, DA_agg, DTup_tuple, DCons_cons, DNil_nil, NN_some, BIf_true, BIf_false, BIf_same, List.toList_toArray, Bool.not_true, Bool.not_false]
    refine (New_tr j.eb hb20).use hs [] rfl rfl ?_
    rintro _ _ H ⟨kp, rfl, rfl⟩ hs
    simp only [DI_int', DB_bool, DS_string, DP_pointer, DSl_slice, DM_map, DA_agg, DTup_tuple, DCons_cons, DNil_nil, NN_some, BIf_true, BIf_false, BIf_same, List.toList_toArray, Bool.not_true, Bool.not_false]
    exact fin kp H hs
  refine hs.ldf 7 rfl rfl ?_
  simp only [DI_int', DB_bool, DS_string, DP_pointer, DSl_slice, DM_map, DA_agg, DTup_tuple, DCons_cons, DNil_nil, NN_some, BIf_true, BIf_false, BIf_same, List.toList_toArray, Bool.not_true, Bool.not_false]
  refine ⟨?_, ?_, ?_⟩
  · refine hs.ldw 7 rfl rfl ?_
    refine HCalls.use (tz H (see_T hT hs 6 rfl)) ?_
    simp only [DI_int', DB_bool, DS_string, DP_pointer, DSl_slice, DM_map, DA_agg, DTup_tuple, DCons_cons, DNil_nil, NN_some, BIf_true, BIf_false, BIf_same, List.toList_toArray, Bool.not_true, Bool.not_false]
    refine (New_tr j.eb hb20).use hs [] rfl rfl ?_
    rintro _ _ H ⟨kp, rfl, rfl⟩ hs
    simp only [DI_int', DB_bool, DS_string, DP_pointer, DSl_slice, DM_map, DA_agg, DTup_tuple, DCons_cons, DNil_nil, NN_some, BIf_true, BIf_false, BIf_same, List.toList_toArray, Bool.not_true, Bool.not_false]
    exact fin kp H hs
  · refine hs.ldw 7 rfl rfl ?_
    refine HCalls.use (tz H (see_T hT hs 6 rfl)) ?_
    simp only [DI_int', DB_bool, DS_string, DP_pointer, DSl_slice, DM_map, DA_agg, DTup_tuple, DCons_cons, DNil_nil, NN_some, BIf_true, BIf_false, BIf_same, List.toList_toArray, Bool.not_true, Bool.not_false]
    refine (New_tr j.eb hb20).use hs [] rfl rfl ?_
    rintro _ _ H ⟨kp, rfl, rfl⟩ hs
    simp only [DI_int', DB_bool, DS_string, DP_pointer, DSl_slice, DM_map, DA_agg, DTup_tuple, DCons_cons, DNil_nil, NN_some, BIf_true, BIf_false, BIf_same, List.toList_toArray, Bool.not_true, Bool.not_false]
    exact fin kp H hs
  refine HCalls.use (tz H (see_T hT hs 6 rfl)) ?_
  simp only [DI_int', DB_bool, DS_string, DP_pointer, DSl_slice, DM_map, DA_agg, DTup_tuple, DCons_cons, DNil_nil, NN_some, BIf_true, BIf_false, BIf_same, List.toList_toArray, Bool.not_true, Bool.not_false]
  refine ⟨?_, ?_⟩
  · refine hs.ldw 7 rfl rfl ?_
    refine (New_tr j.eb hb20).use hs [] rfl rfl ?_
    rintro _ _ H ⟨kp, rfl, rfl⟩ hs
    simp only [DI_int', DB_bool, DS_string, DP_pointer, DSl_slice, DM_map, DA_agg, DTup_tuple, DCons_cons, DNil_nil, NN_some, BIf_true, BIf_false, BIf_same, List.toList_toArray, Bool.not_true, Bool.not_false]
    exact fin kp H hs
  · refine (New_tr j.eb hb20).use hs [] rfl rfl ?_
    rintro _ _ H ⟨kp, rfl, rfl⟩ hs
    simp only [DI_int', DB_bool, DS_string, DP_pointer, DSl_slice, DM_map, DA_agg, DTup_tuple, DCons_cons, DNil_nil, NN_some, BIf_true, BIf_false, BIf_same, List.toList_toArray, Bool.not_true, Bool.not_false]
    refine hs.ldw 8 rfl rfl ?_
    exact fin kp H hs
end

end Go.Proofs.YtbnhfcdagoigkaaGreatDoor.Pas

end
section
/-! StrF -/
/- The law StreamCosts. -/
set_option maxRecDepth 100000
set_option linter.unusedSimpArgs false
set_option linter.unusedVariables false
set_option linter.unnecessarySimpa false
set_option linter.unusedSectionVars false

namespace Go.Proofs.YtbnhfcdagoigkaaGreatDoor.Str
open Go Go.Hw Go.Form Go.Proofs.YtbnhfcdagoigkaaGreatDoor.W Go.Proofs.YtbnhfcdagoigkaaGreatDoor.Dsk Go.Proofs.YtbnhfcdagoigkaaGreatDoor.Are

theorem p_ops : plain64 Tryz.prog 93 3 := ⟨by kernel_rfl, by kernel_rfl, by kernel_rfl, by kernel_rfl⟩

theorem fresh_ok {sec : Nat} (h1 : 1 ≤ sec ∧ sec ≤ 1000) : Ok (D.fresh sec 32) := Ok.fresh ⟨h1.1, by omega⟩ (by decide) (by omega)
theorem fresh_calm (sec : Nat) : Calm (D.fresh sec 32) := ⟨rfl, rfl⟩
theorem fresh_per (sec : Nat) : D.per (D.fresh sec 32) = 4 := by show 32 / 8 = 4; decide
theorem fresh_on {sec f w : Nat} (h1 : 1 ≤ w) (h2 : f + (w + 3) / 4 ≤ sec) : On (D.fresh sec 32) ⟨f, (w + 3) / 4, w⟩ := ⟨h1, by show 1 ≤ (w + 3) / 4; omega, h2, by rw [fresh_per]; show w ≤ (w + 3) / 4 * 4; omega⟩

/-- How many sectors are written in part. -/
def part1 (a k : Nat) : Nat := if a % 4 ≠ 0 ∨ (a / 4 = (a + k - 1) / 4 ∧ k < 4) then 1 else 0
def partN (a k : Nat) : Nat := part1 a k + (if (a + k - 1) / 4 > a / 4 ∧ (a + k) % 4 ≠ 0 then 1 else 0)
set_option maxRecDepth 100000 in
theorem costs4 : ∀ a < 40, ∀ k < 41, 1 ≤ k → a + k ≤ 40 → (pcs 4 2 k a k).length = (a + k - 1) / 4 - a / 4 + 1 ∧ ((pcs 4 2 k a k).filter (fun p => decide (p.2.2 < 4))).length = partN a k := by
  decide +kernel

end Go.Proofs.YtbnhfcdagoigkaaGreatDoor.Str

end
section
/-! Wabacistlaw22 -/
/- Formulas of functions, printed by wip/tools/hwp.py. -/
set_option maxRecDepth 100000
set_option linter.unusedVariables false
namespace Go.Proofs.YtbnhfcdagoigkaaGreatDoor.W
open Go Go.Hw

theorem mixWabacistlaw22 : Tryz.prog.follows .mixedOrders = true := by kernel_rfl
-- abacistlaw22.Make
def W_abacistlaw22_Make (A1 : Option Addr) (n1 : Nat) (m1 : Nat) (x1 : Int) (H : Hp) (K : Value → Hp → Prop) : Prop :=
  Nw H (.obj (.cells #[.pointer none, .pointer none, .pointer none, .pointer none] 34)) fun b1 H1 => ((4 : Int) ≠ 0 ∧ IntKind.i64 = IntKind.i64 ∧ HCalls Tryz.prog 14 #[.int .i64 (IntKind.i64.wrap ((IntKind.i64.wrap ((2 : Int) * (IntKind.i64.wrap (Int.tdiv (IntKind.i64.wrap (((n1 : Nat) : Int) + (3 : Int))) (4 : Int))))) + (1 : Int))), .int .i64 (32 : Int)] H1 fun v1 H2 => DP v1 fun p1 => HCalls Tryz.prog 15 #[.int .i64 x1] H2 fun v2 H3 => DP v2 fun p2 => HCalls Tryz.prog 15 #[.int .i64 (4 : Int)] H3 fun v3 H4 => DP v3 fun p3 => Nw H4 (.obj (.cells #[.pointer none, .pointer none, .pointer none, .pointer none] 34)) fun b2 H5 => StA H5 (⟨b2, 0, none⟩ : Addr) #[.pointer p1, .pointer p2, .pointer none, .pointer none] 4 fun H6 => BIf p1.isNone (LdA H6 (⟨b2, 0, none⟩ : Addr) 4 fun l1 => StA H6 (⟨b1, 0, none⟩ : Addr) l1.toArray 4 fun H7 => LdA H7 (⟨b1, 0, none⟩ : Addr) 4 fun l18 => K (.tuple #[.agg l18.toArray, .bool false]) H7) (BIf p2.isNone (LdA H6 (⟨b2, 0, none⟩ : Addr) 4 fun l2 => StA H6 (⟨b1, 0, none⟩ : Addr) l2.toArray 4 fun H8 => LdA H8 (⟨b1, 0, none⟩ : Addr) 4 fun l19 => K (.tuple #[.agg l19.toArray, .bool false]) H8) (BIf p3.isNone (LdA H6 (⟨b2, 0, none⟩ : Addr) 4 fun l3 => StA H6 (⟨b1, 0, none⟩ : Addr) l3.toArray 4 fun H9 => LdA H9 (⟨b1, 0, none⟩ : Addr) 4 fun l20 => K (.tuple #[.agg l20.toArray, .bool false]) H9) (HCalls Tryz.prog 16 #[.pointer p1, .pointer p3, .agg #[.int .i64 (1 : Int), .int .i64 (IntKind.i64.wrap (Int.tdiv (IntKind.i64.wrap (((n1 : Nat) : Int) + (3 : Int))) (4 : Int))), .int .i64 ((n1 : Nat) : Int)]] H6 fun v4 H10 => DTup v4 fun l4 => DCons l4 fun v5 l5 => DP v5 fun p4 => DCons l5 fun v6 l6 => DI .i64 v6 fun x2 => DNil l6 (HCalls Tryz.prog 16 #[.pointer p1, .pointer p2, .agg #[.int .i64 (1 : Int), .int .i64 (IntKind.i64.wrap (Int.tdiv (IntKind.i64.wrap (((n1 : Nat) : Int) + (3 : Int))) (4 : Int))), .int .i64 ((n1 : Nat) : Int)]] H10 fun v7 H11 => DTup v7 fun l7 => DCons l7 fun v8 l8 => DP v8 fun p5 => DCons l8 fun v9 l9 => DI .i64 v9 fun x3 => DNil l9 (HCalls Tryz.prog 16 #[.pointer p1, .pointer p2, .agg #[.int .i64 (IntKind.i64.wrap ((IntKind.i64.wrap (Int.tdiv (IntKind.i64.wrap (((n1 : Nat) : Int) + (3 : Int))) (4 : Int))) + (1 : Int))), .int .i64 (IntKind.i64.wrap (Int.tdiv (IntKind.i64.wrap (((n1 : Nat) : Int) + (3 : Int))) (4 : Int))), .int .i64 ((n1 : Nat) : Int)]] H11 fun v10 H12 => DTup v10 fun l10 => DCons l10 fun v11 l11 => DP v11 fun p6 => DCons l11 fun v12 l12 => DI .i64 v12 fun x4 => DNil l12 (BIf (x2 != (0 : Int)) (LdA H12 (⟨b2, 0, none⟩ : Addr) 4 fun l13 => StA H12 (⟨b1, 0, none⟩ : Addr) l13.toArray 4 fun H14 => LdA H14 (⟨b1, 0, none⟩ : Addr) 4 fun l21 => K (.tuple #[.agg l21.toArray, .bool false]) H14) (BIf (x3 != (0 : Int)) (LdA H12 (⟨b2, 0, none⟩ : Addr) 4 fun l14 => StA H12 (⟨b1, 0, none⟩ : Addr) l14.toArray 4 fun H15 => LdA H15 (⟨b1, 0, none⟩ : Addr) 4 fun l22 => K (.tuple #[.agg l22.toArray, .bool false]) H15) (BIf (x4 != (0 : Int)) (LdA H12 (⟨b2, 0, none⟩ : Addr) 4 fun l15 => StA H12 (⟨b1, 0, none⟩ : Addr) l15.toArray 4 fun H16 => LdA H16 (⟨b1, 0, none⟩ : Addr) 4 fun l23 => K (.tuple #[.agg l23.toArray, .bool false]) H16) (HCalls Tryz.prog 17 #[.pointer p4, .int .i64 (0 : Int), .slice A1 n1 m1] H12 fun v13 H13 => DI .i64 v13 fun x5 => BIf (x5 != (0 : Int)) (LdA H13 (⟨b2, 0, none⟩ : Addr) 4 fun l16 => StA H13 (⟨b1, 0, none⟩ : Addr) l16.toArray 4 fun H17 => LdA H17 (⟨b1, 0, none⟩ : Addr) 4 fun l24 => K (.tuple #[.agg l24.toArray, .bool false]) H17) (St H13 (((⟨b2, 0, none⟩ : Addr).add 2).add 0) (.pointer p5) fun H18 => St H18 (((⟨b2, 0, none⟩ : Addr).add 3).add 0) (.pointer p6) fun H19 => LdA H19 (⟨b2, 0, none⟩ : Addr) 4 fun l17 => StA H19 (⟨b1, 0, none⟩ : Addr) l17.toArray 4 fun H20 => LdA H20 (⟨b1, 0, none⟩ : Addr) 4 fun l25 => K (.tuple #[.agg l25.toArray, .bool true]) H20)))))))))))
def W_abacistlaw22_Make.Λ (_ : Value → Hp → Prop) : Cuts := Cuts.none (fun _ => none)
theorem W_abacistlaw22_Make.ok (A1 : Option Addr) (n1 : Nat) (m1 : Nat) (x1 : Int) (H : Hp) (K : Value → Hp → Prop) (h : W_abacistlaw22_Make A1 n1 m1 x1 H K) : HCalls Tryz.prog 5 #[.slice A1 n1 m1, .int .i64 x1] H K :=
  hcalls Tryz.func5 rfl (Nat.le_of_ble_eq_true rfl) (hw_safe (Λ := Cuts.none (fun _ => none)) mixWabacistlaw22 _ _ _ _ _ (Eq.mp (by kernel_rfl) h) (obs_none _ _ _ _ _))

-- abacistlaw22.Words
def W_abacistlaw22_Words (p1 : Option Addr) (x1 : Int) (x2 : Int) (H : Hp) (K : Value → Hp → Prop) : Prop :=
  HCalls Tryz.prog 15 #[.int .i64 (4 : Int)] H fun v1 H1 => DP v1 fun p2 => ((4 : Int) ≠ 0 ∧ IntKind.i64 = IntKind.i64 ∧ HCalls Tryz.prog 16 #[.pointer p1, .pointer p2, .agg #[.int .i64 x1, .int .i64 (IntKind.i64.wrap (Int.tdiv (IntKind.i64.wrap (x2 + (3 : Int))) (4 : Int))), .int .i64 x2]] H1 fun v2 H2 => DTup v2 fun l1 => DCons l1 fun v3 l2 => DP v3 fun p3 => DCons l2 fun v4 l3 => DI .i64 v4 fun x3 => DNil l3 (MkS Tryz.prog 25 x2 x2 H2 fun v5 H3 => DSl v5 fun A1 n1 m1 => BIf (x3 != (0 : Int)) (K (.tuple #[.slice none 0 0, .bool false]) H3) (HCalls Tryz.prog 29 #[.pointer p3, .int .i64 (0 : Int), .slice A1 n1 m1] H3 fun v6 H4 => DI .i64 v6 fun x4 => BIf (x4 != (0 : Int)) (K (.tuple #[.slice none 0 0, .bool false]) H4) (K (.tuple #[.slice A1 n1 m1, .bool true]) H4))))
def W_abacistlaw22_Words.Λ (_ : Value → Hp → Prop) : Cuts := Cuts.none (fun _ => none)
theorem W_abacistlaw22_Words.ok (p1 : Option Addr) (x1 : Int) (x2 : Int) (H : Hp) (K : Value → Hp → Prop) (h : W_abacistlaw22_Words p1 x1 x2 H K) : HCalls Tryz.prog 10 #[.pointer p1, .int .i64 x1, .int .i64 x2] H K :=
  hcalls Tryz.func10 rfl (Nat.le_of_ble_eq_true rfl) (hw_safe (Λ := Cuts.none (fun _ => none)) mixWabacistlaw22 _ _ _ _ _ (Eq.mp (by kernel_rfl) h) (obs_none _ _ _ _ _))

end Go.Proofs.YtbnhfcdagoigkaaGreatDoor.W

end
section
/-! TrnE -/
/- Law 22: a pair of pipes, a pipe's words, and the law's first look. -/
set_option maxRecDepth 100000
set_option linter.unusedSimpArgs false
set_option linter.unusedVariables false
set_option linter.unnecessarySimpa false
set_option linter.unusedSectionVars false
namespace Go.Proofs.YtbnhfcdagoigkaaGreatDoor.Trn
open Go Go.Hw Go.Crc Go.Form Go.Proofs.YtbnhfcdagoigkaaGreatDoor.W Go.Proofs.YtbnhfcdagoigkaaGreatDoor.Shp Go.Proofs.YtbnhfcdagoigkaaGreatDoor.Str Go.Proofs.YtbnhfcdagoigkaaGreatDoor.Dsk Go.Proofs.YtbnhfcdagoigkaaGreatDoor.Are

theorem Same_loop (H : Hp) (A B : Option Addr) (n m m' : Nat) (ws : List UInt64) (hn : n = ws.length) (hl : n ≤ 1000000000) (ha : Cells H A (wordVals ws)) (hb : Cells H B (wordVals ws)) :
    ∀ (t i : Nat), i + t = n → W_abacistref04_Same.l4 (RetE (.bool true) H) (t + 1) A n m B n m' (i : Int) H
  | 0, i, h => by
    unfold W_abacistref04_Same.l4
    exact BIf_dneg (by omega) (RetE.mk _ _)
  | t + 1, i, h => by
    unfold W_abacistref04_Same.l4
    refine BIf_dpos (by omega) ?_
    have hg : (wordVals ws)[i]? = some (.int .u64 ((ws[i]'(by omega)).toNat : Int)) := by
      rw [wordVals_get, List.getElem?_eq_getElem (by omega)]; rfl
    refine ha.read hg rfl (by rw [wordVals_length]; omega) ?_
    simp only [DI_int', DB_bool, DS_string, DP_pointer, DSl_slice, DM_map, DA_agg, DTup_tuple, DCons_cons, DNil_nil, NN_some, BIf_true, BIf_false, BIf_same, List.toList_toArray, Bool.not_true, Bool.not_false]
    refine hb.read hg rfl (by rw [wordVals_length]; omega) ?_
    simp only [DI_int', DB_bool, DS_string, DP_pointer, DSl_slice, DM_map, DA_agg, DTup_tuple, DCons_cons, DNil_nil, NN_some, BIf_true, BIf_false, BIf_same, List.toList_toArray, Bool.not_true, Bool.not_false]
    refine BIf_bnen rfl ?_
    rw [i64w (x := (i : Int) + 1) (by omega) (by omega)]
    exact Same_loop H A B n m m' ws hn hl ha hb t (i + 1) (by omega)
theorem Same_ok (A B : Option Addr) (n m m' : Nat) (ws : List UInt64) (hn : n = ws.length) (hl : n ≤ 1000000000) (H : Hp) (ha : Cells H A (wordVals ws)) (hb : Cells H B (wordVals ws)) :
    HCalls Tryz.prog 12 #[.slice A n m, .slice B n m'] H (RetE (.bool true) H) := by
  apply W_abacistref04_Same.ok
  unfold W_abacistref04_Same
  refine BIf_bnen rfl ⟨n + 1, ?_⟩
  exact Same_loop H A B n m m' ws hn hl ha hb n 0 (by omega)

theorem zeros_u64 (n : Nat) : zeroRow [Value.int .u64 0] n = wordVals (List.replicate n 0) := by
  rw [zeroRow_one]
  unfold wordVals
  rw [List.map_replicate]; rfl
theorem zeros_set (n : Nat) (ws : List UInt64) (h : ws.length = n) : setAt (wordVals (List.replicate n 0)) 0 (wordVals ws) = wordVals ws := by
  rw [setW_vals]
  unfold setW
  rw [List.take_zero, List.nil_append, List.drop_eq_nil_of_le (by simp; omega), List.append_nil]

/-- A pair's disk. -/
structure MadeD (d : D) (k n : Nat) : Prop where
  ok : Ok d
  down : d.down = false
  fuse : d.fuse = 0
  cnt : d.rd ≤ 100000000 ∧ d.wr ≤ 100000000
  sec : d.sec = 2 * k + 1
  size : d.size = 32
theorem MadeD.per {d : D} {k n : Nat} (h : MadeD d k n) : D.per d = 4 := by unfold D.per; rw [h.size]
theorem MadeD.calm {d : D} {k n : Nat} (h : MadeD d k n) : Str.Calm d := ⟨h.down, h.fuse⟩

def xP (n : Nat) : X := ⟨1, (n + 3) / 4, n⟩
def xQ (n : Nat) : X := ⟨(n + 3) / 4 + 1, (n + 3) / 4, n⟩
theorem MadeD.onP {d : D} {n : Nat} (h : MadeD d ((n + 3) / 4) n) (h1 : 1 ≤ n) : On d (xP n) :=
  ⟨h1, by show 1 ≤ (n + 3) / 4; omega, by rw [h.sec]; show 1 + (n + 3) / 4 ≤ _; omega, by rw [h.per]; show n ≤ (n + 3) / 4 * 4; omega⟩
theorem MadeD.onQ {d : D} {n : Nat} (h : MadeD d ((n + 3) / 4) n) (h1 : 1 ≤ n) : On d (xQ n) :=
  ⟨h1, by show 1 ≤ (n + 3) / 4; omega, by rw [h.sec]; show (n + 3) / 4 + 1 + (n + 3) / 4 ≤ _; omega, by rw [h.per]; show n ≤ (n + 3) / 4 * 4; omega⟩

theorem MadeD.prog {S : Int → Prop} {d d' : D} {k n r w : Nat} (h : MadeD d k n) (hp : Prog S d d' r w) (hc : d'.rd ≤ 100000000 ∧ d'.wr ≤ 100000000) : MadeD d' k n :=
  ⟨hp.ok, hp.down, by rw [hp.fuse, h.fuse]; omega, hc, by rw [hp.sec, h.sec], by rw [hp.size, h.size]⟩
theorem MadeD.rdN {d : D} {k n : Nat} (h : MadeD d k n) (t : Nat) (hc : d.rd + t ≤ 100000000) : MadeD (D.rdN d t) k n :=
  ⟨Ok.rdN h.ok t, h.down, h.fuse, ⟨hc, h.cnt.2⟩, h.sec, h.size⟩

section
variable {A : Option Addr} {n m : Nat} {R : As}

theorem Make_tr (l : List UInt64) (hn : n = l.length) (h1 : 1 ≤ n) (h2 : n ≤ 1000) (hm : n ≤ m) (room : Nat) (hr : 1 ≤ room ∧ room ≤ 1000) (hR : ∀ H, R H → Cells H A (wordVals l)) :
    Tr Tryz.prog 5 #[.slice A n m, .int .i64 (room : Int)] [R] fun v M =>
      ∃ dp ap p q d, v = .tuple #[.agg #[.pointer (some ⟨dp, 0, none⟩), .pointer (some ⟨ap, 0, none⟩), .pointer (some ⟨p, 0, none⟩), .pointer (some ⟨q, 0, none⟩)], .bool true] ∧
        MadeD d ((n + 3) / 4) n ∧ d.rd ≤ n ∧ d.wr ≤ n ∧ (∀ j, j < n → pw d (xP n) j = (l[j]?).getD 0) ∧
        M = [pts p (pipO dp ap (xP n)), pts q (pipO dp ap (xQ n)), Dk dp d, Ar ap room 0 [], R] := fun H hs => by
  apply W_abacistlaw22_Make.ok
  unfold W_abacistlaw22_Make
  have eL : IntKind.i64.wrap (Int.tdiv (IntKind.i64.wrap ((n : Int) + 3)) 4) = (((n + 3) / 4 : Nat) : Int) := by
    rw [i64w (x := (n : Int) + 3) (by omega) (by omega), show (n : Int) + 3 = ((n + 3 : Nat) : Int) by omega, show Int.tdiv ((n + 3 : Nat) : Int) 4 = (((n + 3) / 4 : Nat) : Int) from rfl, i64n (by omega)]
  simp only [eL]
  have e2 : IntKind.i64.wrap (IntKind.i64.wrap ((2 : Int) * (((n + 3) / 4 : Nat) : Int)) + 1) = ((2 * ((n + 3) / 4) + 1 : Nat) : Int) := by
    rw [i64w (x := 2 * (((n + 3) / 4 : Nat) : Int)) (by omega) (by omega), i64w (by omega) (by omega)]; omega
  have e3 : IntKind.i64.wrap ((((n + 3) / 4 : Nat) : Int) + 1) = (((n + 3) / 4 + 1 : Nat) : Int) := by
    rw [i64w (by omega) (by omega)]; omega
  simp only [e2, e3]
  have hokF : Ok (D.fresh (2 * ((n + 3) / 4) + 1) 32) := fresh_ok (by omega)
  have hMF : MadeD (D.fresh (2 * ((n + 3) / 4) + 1) 32) ((n + 3) / 4) n := ⟨hokF, rfl, rfl, ⟨Nat.zero_le _, Nat.zero_le _⟩, rfl, rfl⟩
  have hx := hMF.onP h1
  have hy := hMF.onQ h1
  refine hs.nw fun b1 H hs => ⟨by decide, by simp, ?_⟩
  refine (Dsk.New_tr (2 * ((n + 3) / 4) + 1) 32 (by omega) (by decide) (by omega)).use hs [] rfl rfl ?_
  rintro _ _ H ⟨dp, rfl, rfl⟩ hs
  simp only [DI_int', DB_bool, DS_string, DP_pointer, DSl_slice, DM_map, DA_agg, DTup_tuple, DCons_cons, DNil_nil, NN_some, BIf_true, BIf_false, BIf_same, List.toList_toArray, Bool.not_true, Bool.not_false]
  refine (Are.New_tr (room : Int) (by omega)).use hs [] rfl rfl ?_
  rintro _ _ H ⟨ap, rfl, rfl⟩ hs
  simp only [DI_int', DB_bool, DS_string, DP_pointer, DSl_slice, DM_map, DA_agg, DTup_tuple, DCons_cons, DNil_nil, NN_some, BIf_true, BIf_false, BIf_same, List.toList_toArray, Bool.not_true, Bool.not_false]
  refine (Are.New_tr 4 (by omega)).use hs [] rfl rfl ?_
  rintro _ _ H ⟨bp, rfl, rfl⟩ hs
  simp only [DI_int', DB_bool, DS_string, DP_pointer, DSl_slice, DM_map, DA_agg, DTup_tuple, DCons_cons, DNil_nil, NN_some, BIf_true, BIf_false, BIf_same, List.toList_toArray, Bool.not_true, Bool.not_false]
  refine hs.nw fun b2 H hs => ?_
  refine hs.stw 5 rfl rfl rfl rfl fun H hs => ?_
  refine BIf_neg rfl (BIf_neg rfl (BIf_neg rfl ?_))
  refine (New_tr (dp := dp) (ap := bp) hokF (xP n) hx).use hs [2] rfl rfl ?_
  rintro _ _ H ⟨o, rfl, rfl⟩ hs
  simp only [DI_int', DB_bool, DS_string, DP_pointer, DSl_slice, DM_map, DA_agg, DTup_tuple, DCons_cons, DNil_nil, NN_some, BIf_true, BIf_false, BIf_same, List.toList_toArray, Bool.not_true, Bool.not_false]
  refine (New_tr (dp := dp) (ap := ap) hokF (xP n) hx).use hs [0] rfl rfl ?_
  rintro _ _ H ⟨p, rfl, rfl⟩ hs
  simp only [DI_int', DB_bool, DS_string, DP_pointer, DSl_slice, DM_map, DA_agg, DTup_tuple, DCons_cons, DNil_nil, NN_some, BIf_true, BIf_false, BIf_same, List.toList_toArray, Bool.not_true, Bool.not_false]
  refine (New_tr (dp := dp) (ap := ap) hokF (xQ n) hy).use hs [0] rfl rfl ?_
  rintro _ _ H ⟨q, rfl, rfl⟩ hs
  simp only [DI_int', DB_bool, DS_string, DP_pointer, DSl_slice, DM_map, DA_agg, DTup_tuple, DCons_cons, DNil_nil, NN_some, BIf_true, BIf_false, BIf_same, List.toList_toArray, Bool.not_true, Bool.not_false]
  refine BIf_bnen rfl (BIf_bnen rfl (BIf_bnen rfl ?_))
  refine (Write_tr (p := o) (dp := dp) (ap := bp) (d := D.fresh (2 * ((n + 3) / 4) + 1) 32) (x := xP n) (cap := 4) (peak := 0) (bufs := []) (R := R) (A := A) (n := n) (m := m) (src := l) hokF (fresh_calm _) hx ⟨Nat.zero_le _, Nat.zero_le _⟩ 0 hn (by omega) (by show 0 + n ≤ n; omega) hm (by rw [fresh_per, sumB_nil]; omega) hR).use hs [3, 0, 4, 6] rfl rfl ?_
  rintro _ _ H ⟨rfl, rfl⟩ hs
  simp only [DI_int', DB_bool, DS_string, DP_pointer, DSl_slice, DM_map, DA_agg, DTup_tuple, DCons_cons, DNil_nil, NN_some, BIf_true, BIf_false, BIf_same, List.toList_toArray, Bool.not_true, Bool.not_false]
  refine BIf_bnen rfl ?_
  have W := wrs_wrote (xP n) n 0 (D.fresh (2 * ((n + 3) / 4) + 1) 32) l hokF (by omega)
  have hpl := pcs_len (D.per (D.fresh (2 * ((n + 3) / 4) + 1) 32)) (xP n).f n 0 l.length
  have hcl := List.length_filter_le (fun p : Nat × Nat × Nat => decide (p.2.2 < D.per (D.fresh (2 * ((n + 3) / 4) + 1) 32))) (pcs (D.per (D.fresh (2 * ((n + 3) / 4) + 1) 32)) (xP n).f n 0 l.length)
  have hrd : (wrs (D.fresh (2 * ((n + 3) / 4) + 1) 32) (xP n) n 0 l).rd ≤ n := by
    rw [W.rd]
    exact Nat.le_trans (Nat.add_le_add_left hcl _) (by show 0 + (pcs (D.per (D.fresh (2 * ((n + 3) / 4) + 1) 32)) (xP n).f n 0 l.length).length ≤ _; omega)
  have hwr : (wrs (D.fresh (2 * ((n + 3) / 4) + 1) 32) (xP n) n 0 l).wr ≤ n := by
    rw [W.wr]; show 0 + (pcs (D.per (D.fresh (2 * ((n + 3) / 4) + 1) 32)) (xP n).f n 0 l.length).length ≤ _; omega
  have hM : MadeD (wrs (D.fresh (2 * ((n + 3) / 4) + 1) 32) (xP n) n 0 l) ((n + 3) / 4) n :=
    ⟨W.ok, (W.calm (fresh_calm _)).down, (W.calm (fresh_calm _)).fuse, ⟨by omega, by omega⟩, W.sec, W.size⟩
  have hpw := W.pw
  clear W hcl hpl
  generalize wrs (D.fresh (2 * ((n + 3) / 4) + 1) 32) (xP n) n 0 l = d at *
  refine hs.stf 8 rfl (Nat.lt_of_sub_eq_succ rfl) rfl fun H hs => ?_
  refine hs.stf 8 rfl (Nat.lt_of_sub_eq_succ rfl) rfl fun H hs => ?_
  refine hs.ldw 8 rfl rfl ?_
  refine hs.stw 7 rfl rfl rfl rfl fun H hs => ?_
  refine hs.ldw 7 rfl rfl ?_
  refine ⟨_, ⟨dp, ap, p, q, d, rfl, hM, hrd, hwr, fun j hj => ?_, rfl⟩, hs.re [5, 4, 1, 6, 3] rfl⟩
  rw [hpw j, if_pos ⟨by omega, by omega⟩, Nat.sub_zero]

/-- A pipe's words. -/
theorem Words_tr {dp : Nat} {d : D} (f w : Nat) (hok : Ok d) (hc : Str.Calm d) (hx : On d ⟨f, (w + 3) / 4, w⟩) (hper : D.per d = 4) (ho : d.rd ≤ 100000000) :
    Tr Tryz.prog 10 #[.pointer (some ⟨dp, 0, none⟩), .int .i64 (f : Int), .int .i64 (w : Int)] [Dk dp d] fun v M =>
      ∃ b t, t ≤ w ∧ v = .tuple #[.slice (some ⟨b, 0, none⟩) w w, .bool true] ∧ M = [Dk dp (D.rdN d t), pts b (.row (wordVals (pws d ⟨f, (w + 3) / 4, w⟩ 0 w)) 25 (w * 1))] := fun H hs => by
  have hsec := hok.sec
  have hw1 : 1 ≤ w := hx.w1
  have hfit : f + (w + 3) / 4 ≤ d.sec := hx.fit
  apply W_abacistlaw22_Words.ok
  unfold W_abacistlaw22_Words
  have eL : IntKind.i64.wrap (Int.tdiv (IntKind.i64.wrap ((w : Int) + 3)) 4) = (((w + 3) / 4 : Nat) : Int) := by
    rw [i64w (x := (w : Int) + 3) (by omega) (by omega), show (w : Int) + 3 = ((w + 3 : Nat) : Int) by omega, show Int.tdiv ((w + 3 : Nat) : Int) 4 = (((w + 3) / 4 : Nat) : Int) from rfl, i64n (by omega)]
  simp only [eL]
  refine (Are.New_tr 4 (by omega)).use hs [] rfl rfl ?_
  rintro _ _ H ⟨ap, rfl, rfl⟩ hs
  simp only [DI_int', DB_bool, DS_string, DP_pointer, DSl_slice, DM_map, DA_agg, DTup_tuple, DCons_cons, DNil_nil, NN_some, BIf_true, BIf_false, BIf_same, List.toList_toArray, Bool.not_true, Bool.not_false]
  refine ⟨by decide, by simp, ?_⟩
  refine (New_tr (dp := dp) (ap := ap) hok ⟨f, (w + 3) / 4, w⟩ hx).use hs [1] rfl rfl ?_
  rintro _ _ H ⟨p, rfl, rfl⟩ hs
  simp only [DI_int', DB_bool, DS_string, DP_pointer, DSl_slice, DM_map, DA_agg, DTup_tuple, DCons_cons, DNil_nil, NN_some, BIf_true, BIf_false, BIf_same, List.toList_toArray, Bool.not_true, Bool.not_false]
  refine hs.mks cell_u64 rfl (n := w) (m := w) rfl rfl (Nat.le_refl _) (by omega) (by omega) fun b H hs => ?_
  simp only [DI_int', DB_bool, DS_string, DP_pointer, DSl_slice, DM_map, DA_agg, DTup_tuple, DCons_cons, DNil_nil, NN_some, BIf_true, BIf_false, BIf_same, List.toList_toArray, Bool.not_true, Bool.not_false]
  refine BIf_bnen rfl ?_
  have hs : Sep [Dk dp d, pts p (pipO dp ap ⟨f, (w + 3) / 4, w⟩), Ar ap 4 0 [], pts b (.row (wordVals (List.replicate w 0)) 25 (w * 1))] H := by rw [← zeros_u64]; exact hs
  refine (Read_tr (p := p) (dp := dp) (ap := ap) (d := d) (x := ⟨f, (w + 3) / 4, w⟩) (cap := 4) (bufs := []) (rl := b) (off := 0) (mm := w * 1) (xs := wordVals (List.replicate w 0)) hok hc hx (by omega) 0 w w (by omega) (by show 0 + w ≤ w; omega) (Nat.le_refl _) (by rw [wordVals_length, List.length_replicate]; omega) (by rw [hper, sumB_nil]; omega)).use hs [1, 0, 2, 3] rfl rfl ?_
  rintro _ _ H ⟨rfl, rfl⟩ hs
  simp only [DI_int', DB_bool, DS_string, DP_pointer, DSl_slice, DM_map, DA_agg, DTup_tuple, DCons_cons, DNil_nil, NN_some, BIf_true, BIf_false, BIf_same, List.toList_toArray, Bool.not_true, Bool.not_false]
  refine BIf_bnen rfl ?_
  rw [zeros_set w _ (pws_len _ _ _ _)] at hs
  exact ⟨_, ⟨b, (pcs (D.per d) f w 0 w).length, pcs_len _ _ _ _ _, rfl, rfl⟩, hs.re [1, 3] rfl⟩
end

end Go.Proofs.YtbnhfcdagoigkaaGreatDoor.Trn

end
section
/-! TrnF -/
/- Law 22: a turn of a pair, and the law's first look. -/
set_option maxRecDepth 100000
set_option linter.unusedSimpArgs false
set_option linter.unusedVariables false
set_option linter.unnecessarySimpa false
set_option linter.unusedSectionVars false
namespace Go.Proofs.YtbnhfcdagoigkaaGreatDoor.Trn
open Go Go.Hw Go.Crc Go.Form Go.Proofs.YtbnhfcdagoigkaaGreatDoor.W Go.Proofs.YtbnhfcdagoigkaaGreatDoor.Shp Go.Proofs.YtbnhfcdagoigkaaGreatDoor.Str Go.Proofs.YtbnhfcdagoigkaaGreatDoor.Dsk Go.Proofs.YtbnhfcdagoigkaaGreatDoor.Are

theorem Dead.calm {S : Int → Prop} {d d' : D} (h : Dead S d d') (hf : d.fuse = 0) : False := by
  have h1 := h.cnt; have h2 := h.rd; have h3 := h.wr
  omega

theorem pws_map {d : D} {x : X} {n : Nat} {f : Nat → UInt64} (h : ∀ j, j < n → pw d x j = f j) : pws d x 0 n = (List.range n).map f := by
  unfold pws
  apply List.map_congr_left
  intro j hj
  rw [Nat.zero_add]
  exact h j (List.mem_range.1 hj)
theorem range_get (l : List UInt64) : (List.range l.length).map (fun j => (l[j]?).getD 0) = l := by
  apply List.ext_getElem?
  intro j
  rw [List.getElem?_map]
  by_cases hj : j < l.length
  · rw [List.getElem?_range hj, Option.map_some, List.getElem?_eq_getElem hj]; rfl
  · rw [List.getElem?_eq_none (by simp; omega), List.getElem?_eq_none (by omega)]; rfl

section
variable {p q dp ap : Nat} {x y : X} {cap peak : Int} {TT : As}

end

end Go.Proofs.YtbnhfcdagoigkaaGreatDoor.Trn

end
section
/-! TrnH -/
/- turn.Run where it can't; the reference's Transpose. -/
set_option maxRecDepth 100000
set_option linter.unusedSimpArgs false
set_option linter.unusedVariables false
set_option linter.unnecessarySimpa false
set_option linter.unusedSectionVars false
namespace Go.Proofs.YtbnhfcdagoigkaaGreatDoor.Trn
open Go Go.Hw Go.Crc Go.Form Go.Proofs.YtbnhfcdagoigkaaGreatDoor.W Go.Proofs.YtbnhfcdagoigkaaGreatDoor.Shp Go.Proofs.YtbnhfcdagoigkaaGreatDoor.Str Go.Proofs.YtbnhfcdagoigkaaGreatDoor.Dsk Go.Proofs.YtbnhfcdagoigkaaGreatDoor.Are

section
variable {p q dp ap : Nat} {x y : X} {cap peak : Int} {bufs : List (Nat × Nat × Option Addr)} {L : List As} {H : Hp}

end

/-! ## Transpose -/

/-- The words, column by column. -/
def trL (l : List UInt64) (rows cols : Nat) : List UInt64 := (List.range (rows * cols)).map fun k => (l[k % rows * cols + k / rows]?).getD 0
theorem trL_len (l : List UInt64) (rows cols : Nat) : (trL l rows cols).length = rows * cols := by simp [trL]

end Go.Proofs.YtbnhfcdagoigkaaGreatDoor.Trn

end
section
/-! TrnJ -/
/- turn.Cost: so many reads, so many writes. -/
set_option maxRecDepth 100000
set_option linter.unusedSimpArgs false
set_option linter.unusedVariables false
set_option linter.unnecessarySimpa false
set_option linter.unusedSectionVars false
namespace Go.Proofs.YtbnhfcdagoigkaaGreatDoor.Trn
open Go Go.Hw Go.Crc Go.Form Go.Proofs.YtbnhfcdagoigkaaGreatDoor.W Go.Proofs.YtbnhfcdagoigkaaGreatDoor.Shp Go.Proofs.YtbnhfcdagoigkaaGreatDoor.Str Go.Proofs.YtbnhfcdagoigkaaGreatDoor.Dsk Go.Proofs.YtbnhfcdagoigkaaGreatDoor.Are

theorem pcs_one {per f k fr n : Nat} (hn : 1 ≤ n) (hk : 1 ≤ k) (h : fr % per + n ≤ per) : pcs per f k fr n = [(f + fr / per, fr % per, n)] := by
  obtain ⟨k, rfl⟩ : ∃ k', k = k' + 1 := ⟨k - 1, by omega⟩
  have hc : cN per fr n = n := by unfold cN; split <;> omega
  show (if n = 0 then [] else (f + fr / per, fr % per, cN per fr n) :: pcs per f k (fr + cN per fr n) (n - cN per fr n)) = _
  rw [if_neg (by omega), hc, Nat.sub_self]
  have e : pcs per f k (fr + n) 0 = [] := by cases k <;> simp [pcs]
  rw [e]

theorem pcs_al {per f : Nat} (hp : 0 < per) : ∀ (q k fr : Nat), q * per ≤ k → fr % per = 0 → (pcs per f k fr (q * per)).length = q ∧ ∀ p ∈ pcs per f k fr (q * per), p.2.2 = per
  | 0, k, fr, _, _ => by
    have e : pcs per f k fr (0 * per) = [] := by rw [Nat.zero_mul]; cases k <;> simp [pcs]
    rw [e]; simp
  | q + 1, k, fr, hk, hf => by
    rw [Nat.succ_mul] at hk
    obtain ⟨k, rfl⟩ : ∃ k', k = k' + 1 := ⟨k - 1, by omega⟩
    have hc : cN per fr ((q + 1) * per) = per := by
      unfold cN
      rw [hf, Nat.sub_zero, Nat.succ_mul]
      split
      · rfl
      · omega
    have e : pcs per f (k + 1) fr ((q + 1) * per) = (f + fr / per, fr % per, per) :: pcs per f k (fr + per) (q * per) := by
      show (if (q + 1) * per = 0 then [] else (f + fr / per, fr % per, cN per fr ((q + 1) * per)) :: pcs per f k (fr + cN per fr ((q + 1) * per)) ((q + 1) * per - cN per fr ((q + 1) * per))) = _
      rw [hc, if_neg (by rw [Nat.succ_mul]; omega), Nat.succ_mul, Nat.add_sub_cancel]
    obtain ⟨h1, h2⟩ := pcs_al (f := f) hp q k (fr + per) (by omega) (by rw [Nat.add_mod_right]; exact hf)
    rw [e]
    refine ⟨by rw [List.length_cons, h1], fun p hp' => ?_⟩
    rcases List.mem_cons.1 hp' with rfl | h
    · rfl
    · exact h2 p h

def m1 (q : Nat) : Nat := if 1 < q then q else 1
theorem unit_cnt (j f fr : Nat) (hd : 2 ^ j ∣ fr) : (pcs 4 f (2 ^ j) fr (2 ^ j)).length = m1 (2 ^ j / 4) ∧ pcsR 4 f (2 ^ j) fr (2 ^ j) = if 2 ^ j < 4 then 1 else 0 := by
  match j, hd with
  | 0, _ =>
    have e := pcs_one (per := 4) (f := f) (k := 2 ^ 0) (fr := fr) (n := 2 ^ 0) (by decide) (by decide) (by rw [Nat.pow_zero]; omega)
    unfold pcsR
    rw [e]; exact ⟨rfl, rfl⟩
  | 1, hd =>
    have e := pcs_one (per := 4) (f := f) (k := 2 ^ 1) (fr := fr) (n := 2 ^ 1) (by decide) (by decide) (by
      obtain ⟨t, rfl⟩ := hd
      rw [Nat.pow_one]; omega)
    unfold pcsR
    rw [e]; exact ⟨rfl, rfl⟩
  | j + 2, hd =>
    have e4 : 2 ^ (j + 2) = 2 ^ j * 4 := by rw [Nat.pow_succ, Nat.pow_succ]; omega
    have hj := pow_pos j
    have hf : fr % 4 = 0 := by
      obtain ⟨t, rfl⟩ := hd
      rw [e4, Nat.mul_assoc, Nat.mul_left_comm]
      exact Nat.mul_mod_right 4 _
    obtain ⟨h1, h2⟩ := pcs_al (per := 4) (f := f) (by omega) (2 ^ j) (2 ^ (j + 2)) fr (by rw [e4]; exact Nat.le_refl _) hf
    rw [← e4] at h1 h2
    refine ⟨?_, ?_⟩
    · rw [h1, e4, Nat.mul_div_cancel _ (by omega)]
      unfold m1
      split <;> omega
    · unfold pcsR
      rw [if_neg (by omega), List.length_eq_zero_iff, List.filter_eq_nil_iff]
      intro p hp
      rw [h2 p hp]; simp

theorem gR_is (ea eb j f m : Nat) (hj : j ≤ eb) : ∀ i, gR 4 f (2 ^ eb) (m * 2 ^ j) (2 ^ j) i = i * m1 (2 ^ j / 4)
  | 0 => by simp [gR]
  | i + 1 => by
    rw [gR_succ, gR_is ea eb j f m hj i, Nat.succ_mul, (unit_cnt j f (i * 2 ^ eb + m * 2 ^ j) (Nat.dvd_add (Nat.dvd_mul_left_of_dvd (Nat.pow_dvd_pow 2 hj) i) (Nat.dvd_mul_left _ _))).1]
theorem rT_is (ea eb j f f' : Nat) (hj : j ≤ eb) : ∀ m, rT 4 f f' (2 ^ ea) (2 ^ eb) (2 ^ j) m = m * (2 ^ ea * m1 (2 ^ j / 4)) + (if 2 ^ j * 2 ^ ea < 4 then m else 0)
  | 0 => by simp [rT]
  | m + 1 => by
    rw [rT_succ, rT_is ea eb j f f' hj m, gR_is ea eb j f m hj, Nat.succ_mul]
    have h := (unit_cnt (j + ea) f' (m * 2 ^ (j + ea)) (Nat.dvd_mul_left _ _)).2
    rw [Nat.mul_assoc, ← Nat.pow_add, h]
    split <;> omega
theorem wT_is (ea j f' : Nat) : ∀ m, wT 4 f' (2 ^ ea) (2 ^ j) m = m * m1 (2 ^ j * 2 ^ ea / 4)
  | 0 => by simp [wT]
  | m + 1 => by
    rw [wT_succ, wT_is ea j f' m, Nat.succ_mul]
    have h := (unit_cnt (j + ea) f' (m * 2 ^ (j + ea)) (Nat.dvd_mul_left _ _)).1
    rw [Nat.mul_assoc, ← Nat.pow_add, h]

theorem m1_le {q : Nat} (h : 1 ≤ q) : m1 (q / 4) ≤ q := by unfold m1; split <;> omega
theorem m1_if (q : Nat) : (if ((q : Nat) : Int) > 1 then ((q : Nat) : Int) else 1) = ((m1 q : Nat) : Int) := by
  unfold m1
  split <;> split <;> omega

def opO (r w : Int) : AO := .obj (.cells #[.int .i64 r, .int .i64 w, .int .i64 0] 93)
end Go.Proofs.YtbnhfcdagoigkaaGreatDoor.Trn

end
section
/-! Wabacistlaw23 -/
/- Formulas of functions, printed by wip/tools/hwp.py. -/
set_option maxRecDepth 100000
set_option linter.unusedVariables false
namespace Go.Proofs.YtbnhfcdagoigkaaGreatDoor.W
open Go Go.Hw

theorem mixWabacistlaw23 : Tryz.prog.follows .mixedOrders = true := by kernel_rfl
-- abacistlaw23.PassRuns
def W_abacistlaw23_PassRuns (A1 : Option Addr) (n1 : Nat) (m1 : Nat) (x1 : Int) (x2 : Int) (x3 : Int) (x4 : Int) (x5 : Int) (x6 : Int) (H : Hp) (K : Value → Hp → Prop) : Prop :=
  Nw H (.obj (.cells #[.int .i64 x1, .int .i64 x2, .int .i64 x3, .int .i64 x4, .int .u64 x5] 27)) fun b1 H1 => HCalls Tryz.prog 4 #[] H1 fun v1 H2 => DB v1 fun c1 => BIf (!c1) (K (.bool false) H2) (BIf (((n1 : Nat) : Int) == (0 : Int)) (K (.bool true) H2) (BIf (decide (((n1 : Nat) : Int) > (128 : Int))) (K (.bool true) H2) (((600 : Int) ≠ 0 ∧ IntKind.i64 = IntKind.i64 ∧ HCalls Tryz.prog 5 #[.slice A1 n1 m1, .int .i64 (IntKind.i64.wrap ((1 : Int) + (Int.tmod (IntKind.i64.wrap x6) (600 : Int))))] H2 fun v2 H3 => DTup v2 fun l1 => DCons l1 fun v3 l2 => DA v3 fun y1 => DCons l2 fun v4 l3 => DB v4 fun c2 => DNil l3 (Nw H3 (.obj (.cells #[.pointer none, .pointer none, .pointer none, .pointer none] 34)) fun b2 H4 => StA H4 (⟨b2, 0, none⟩ : Addr) y1 4 fun H5 => BIf (!c2) (K (.bool false) H5) (Ld H5 ((⟨b2, 0, none⟩ : Addr).add 2) fun v5 => DP v5 fun p1 => Ld H5 ((⟨b2, 0, none⟩ : Addr).add 3) fun v6 => DP v6 fun p2 => LdA H5 (⟨b1, 0, none⟩ : Addr) 5 fun l4 => Ld H5 ((⟨b2, 0, none⟩ : Addr).add 1) fun v7 => DP v7 fun p3 => HCalls Tryz.prog 6 #[.pointer p1, .pointer p2, .agg l4.toArray, .pointer p3, .int .i64 (4 : Int)] H5 fun v8 H6 => DTup v8 fun l5 => DCons l5 fun v9 l6 => DI .u32 v9 fun x7 => DCons l6 fun v10 l7 => DI .i64 v10 fun x8 => DNil l7 (Ld H6 ((⟨b2, 0, none⟩ : Addr).add 2) fun v11 => DP v11 fun p4 => Ld H6 ((⟨b2, 0, none⟩ : Addr).add 3) fun v12 => DP v12 fun p5 => LdA H6 (⟨b1, 0, none⟩ : Addr) 5 fun l8 => HCalls Tryz.prog 6 #[.pointer p4, .pointer p5, .agg l8.toArray, .pointer none, .int .i64 (4 : Int)] H6 fun v13 H7 => DTup v13 fun l9 => DCons l9 fun v14 l10 => DI .u32 v14 fun x9 => DCons l10 fun v15 l11 => DI .i64 v15 fun x10 => DNil l11 (BIf (x10 != (1 : Int)) (K (.bool false) H7) (Ld H7 ((⟨b2, 0, none⟩ : Addr).add 1) fun v16 => DP v16 fun p6 => NN p6 fun a1 => HCalls Tryz.prog 7 #[.pointer (some (a1.add 0))] H7 fun v17 H8 => DI .i64 v17 fun x11 => BIf (x11 != (0 : Int)) (K (.bool false) H8) (Ld H8 ((⟨b2, 0, none⟩ : Addr).add 1) fun v18 => DP v18 fun p7 => NN p7 fun a2 => HCalls Tryz.prog 8 #[.pointer (some (a2.add 0))] H8 fun v19 H9 => DI .i64 v19 fun x12 => BIf (decide (x12 > (IntKind.i64.wrap ((1 : Int) + (Int.tmod (IntKind.i64.wrap x6) (600 : Int)))))) (K (.bool false) H9) (LdA H9 (⟨b1, 0, none⟩ : Addr) 5 fun l12 => HCalls Tryz.prog 9 #[.int .i64 ((n1 : Nat) : Int), .agg l12.toArray] H9 fun v20 H10 => DI .i64 v20 fun x13 => BIf (x13 != (0 : Int)) (BIf (x8 == x13) (K (.bool (x7 == (0 : Int))) H10) (K (.bool false) H10)) (Ld H10 (((⟨b1, 0, none⟩ : Addr).add 0).add 1) fun v21 => DI .i64 v21 fun x14 => BIf (decide ((IntKind.i64.wrap ((1 : Int) + (Int.tmod (IntKind.i64.wrap x6) (600 : Int)))) < (IntKind.i64.wrap ((IntKind.i64.wrap ((2 : Int) * x14)) + (4 : Int))))) (BIf (x8 == (6 : Int)) (K (.bool (x7 == (0 : Int))) H10) (K (.bool false) H10)) (Ld H10 ((⟨b2, 0, none⟩ : Addr).add 0) fun v22 => DP v22 fun p8 => HCalls Tryz.prog 10 #[.pointer p8, .int .i64 (1 : Int), .int .i64 ((n1 : Nat) : Int)] H10 fun v23 H11 => DTup v23 fun l13 => DCons l13 fun v24 l14 => DSl v24 fun A2 n2 m2 => DCons l14 fun v25 l15 => DB v25 fun c3 => DNil l15 (Ld H11 ((⟨b2, 0, none⟩ : Addr).add 0) fun v26 => DP v26 fun p9 => ((4 : Int) ≠ 0 ∧ IntKind.i64 = IntKind.i64 ∧ HCalls Tryz.prog 10 #[.pointer p9, .int .i64 (IntKind.i64.wrap ((IntKind.i64.wrap (Int.tdiv (IntKind.i64.wrap (((n1 : Nat) : Int) + (3 : Int))) (4 : Int))) + (1 : Int))), .int .i64 ((n1 : Nat) : Int)] H11 fun v27 H12 => DTup v27 fun l16 => DCons l16 fun v28 l17 => DSl v28 fun A3 n3 m3 => DCons l17 fun v29 l18 => DB v29 fun c4 => DNil l18 (LdA H12 (⟨b1, 0, none⟩ : Addr) 5 fun l19 => HCalls Tryz.prog 11 #[.slice A1 n1 m1, .agg l19.toArray] H12 fun v30 H13 => DSl v30 fun A4 n4 m4 => BIf (x8 == (0 : Int)) (BIf c3 (BIf c4 (HCalls Tryz.prog 12 #[.slice A2 n2 m2, .slice A1 n1 m1] H13 fun v31 H14 => DB v31 fun c5 => BIf c5 (HCalls Tryz.prog 12 #[.slice A3 n3 m3, .slice A4 n4 m4] H14 fun v32 H15 => DB v32 fun c6 => BIf c6 (HCalls Tryz.prog 13 #[.slice A4 n4 m4] H15 fun v33 H16 => DI .u32 v33 fun x15 => K (.bool (x7 == x15)) H16) (K (.bool false) H15)) (K (.bool false) H14)) (K (.bool false) H13)) (K (.bool false) H13)) (K (.bool false) H13)))))))))))))))))
def W_abacistlaw23_PassRuns.Λ (_ : Value → Hp → Prop) : Cuts := Cuts.none (fun _ => none)
theorem W_abacistlaw23_PassRuns.ok (A1 : Option Addr) (n1 : Nat) (m1 : Nat) (x1 : Int) (x2 : Int) (x3 : Int) (x4 : Int) (x5 : Int) (x6 : Int) (H : Hp) (K : Value → Hp → Prop) (h : W_abacistlaw23_PassRuns A1 n1 m1 x1 x2 x3 x4 x5 x6 H K) : HCalls Tryz.prog 3 #[.slice A1 n1 m1, .agg #[.int .i64 x1, .int .i64 x2, .int .i64 x3, .int .i64 x4, .int .u64 x5], .int .u16 x6] H K :=
  hcalls Tryz.func3 rfl (Nat.le_of_ble_eq_true rfl) (hw_safe (Λ := Cuts.none (fun _ => none)) mixWabacistlaw23 _ _ _ _ _ (Eq.mp (by kernel_rfl) h) (obs_none _ _ _ _ _))

-- abacistlaw23.awake
def W_abacistlaw23_awake (H : Hp) (K : Value → Hp → Prop) : Prop :=
  Nw H (.row [.int .u64 (1 : Int), .int .u64 (0 : Int), .int .u64 (0 : Int), .int .u64 (0 : Int)] 25 4) fun b1 H1 => HCalls Tryz.prog 5 #[.slice (some ⟨b1, 0, none⟩) 4 4, .int .i64 (40 : Int)] H1 fun v1 H2 => DTup v1 fun l1 => DCons l1 fun v2 l2 => DA v2 fun y1 => DCons l2 fun v3 l3 => DB v3 fun c1 => DNil l3 (Nw H2 (.obj (.cells #[.pointer none, .pointer none, .pointer none, .pointer none] 34)) fun b2 H3 => StA H3 (⟨b2, 0, none⟩ : Addr) y1 4 fun H4 => BIf (!c1) (K (.bool false) H4) (Ld H4 ((⟨b2, 0, none⟩ : Addr).add 2) fun v4 => DP v4 fun p1 => Ld H4 ((⟨b2, 0, none⟩ : Addr).add 3) fun v5 => DP v5 fun p2 => Ld H4 ((⟨b2, 0, none⟩ : Addr).add 1) fun v6 => DP v6 fun p3 => HCalls Tryz.prog 6 #[.pointer p1, .pointer p2, .agg #[.int .i64 (1 : Int), .int .i64 (4 : Int), .int .i64 (0 : Int), .int .i64 (-1 : Int), .int .u64 (3 : Int)], .pointer p3, .int .i64 (4 : Int)] H4 fun v7 H5 => DTup v7 fun l4 => DCons l4 fun v8 l5 => DI .u32 v8 fun x1 => DCons l5 fun v9 l6 => DI .i64 v9 fun x2 => DNil l6 (Ld H5 ((⟨b2, 0, none⟩ : Addr).add 0) fun v10 => DP v10 fun p4 => HCalls Tryz.prog 10 #[.pointer p4, .int .i64 (2 : Int), .int .i64 (4 : Int)] H5 fun v11 H6 => DTup v11 fun l7 => DCons l7 fun v12 l8 => DSl v12 fun A1 n1 m1 => DCons l8 fun v13 l9 => DB v13 fun c2 => DNil l9 (BIf (x2 == (0 : Int)) (BIf c2 (Nw H6 (.row [.int .u64 (3 : Int), .int .u64 (3 : Int), .int .u64 (3 : Int), .int .u64 (3 : Int)] 25 4) fun b3 H7 => HCalls Tryz.prog 12 #[.slice A1 n1 m1, .slice (some ⟨b3, 0, none⟩) 4 4] H7 fun v14 H8 => DB v14 fun c3 => K (.bool c3) H8) (K (.bool false) H6)) (K (.bool false) H6)))))
def W_abacistlaw23_awake.Λ (_ : Value → Hp → Prop) : Cuts := Cuts.none (fun _ => none)
theorem W_abacistlaw23_awake.ok (H : Hp) (K : Value → Hp → Prop) (h : W_abacistlaw23_awake H K) : HCalls Tryz.prog 4 #[] H K :=
  hcalls Tryz.func4 rfl (Nat.le_of_ble_eq_true rfl) (hw_safe (Λ := Cuts.none (fun _ => none)) mixWabacistlaw23 _ _ _ _ _ (Eq.mp (by kernel_rfl) h) (obs_none _ _ _ _ _))

-- abacistlaw23.wrong
def W_abacistlaw23_wrong.j5 (K : Value → Hp → Prop) (a1 : Addr) (H : Hp) : Prop :=
  Ld H (a1.add 3) fun v6 => DI .i64 v6 fun x11 => BIf (decide (x11 < (-1 : Int))) (K (.int .i64 (2 : Int)) H) (Ld H (a1.add 3) fun v7 => DI .i64 v7 fun x12 => BIf (decide (x12 > (32 : Int))) (K (.int .i64 (2 : Int)) H) (K (.int .i64 (0 : Int)) H))
def W_abacistlaw23_wrong (x1 : Int) (x2 : Int) (x3 : Int) (x4 : Int) (x5 : Int) (x6 : Int) (H : Hp) (K : Value → Hp → Prop) : Prop :=
  Nw H (.obj (.cells #[.int .i64 x2, .int .i64 x3, .int .i64 x4, .int .i64 x5, .int .u64 x6] 27)) fun b1 H1 => LdA H1 ((⟨b1, 0, none⟩ : Addr).add 0) 2 fun l1 => HCalls Tryz.prog 28 #[.agg l1.toArray] H1 fun v1 H2 => DB v1 fun c1 => BIf (!c1) (K (.int .i64 (19 : Int)) H2) (Ld H2 (((⟨b1, 0, none⟩ : Addr).add 0).add 0) fun v2 => DI .i64 v2 fun x7 => Ld H2 (((⟨b1, 0, none⟩ : Addr).add 0).add 1) fun v3 => DI .i64 v3 fun x8 => BIf ((IntKind.i64.wrap (x7 * x8)) != x1) (K (.int .i64 (19 : Int)) H2) (Ld H2 ((⟨b1, 0, none⟩ : Addr).add 2) fun v4 => DI .i64 v4 fun x9 => BIf (x9 != (0 : Int)) (Ld H2 ((⟨b1, 0, none⟩ : Addr).add 2) fun v5 => DI .i64 v5 fun x10 => BIf (x10 != (1 : Int)) (K (.int .i64 (18 : Int)) H2) (W_abacistlaw23_wrong.j5 K (⟨b1, 0, none⟩ : Addr) H2)) (W_abacistlaw23_wrong.j5 K (⟨b1, 0, none⟩ : Addr) H2)))
def W_abacistlaw23_wrong.Λ (K : Value → Hp → Prop) : Cuts := ⟨fun i => match Nat.beq i 5 with | true => some (fun E D H => DG (E.get? 3) fun w3 => DP w3 fun pw3 => NN pw3 fun a1 => DNilD D (W_abacistlaw23_wrong.j5 K a1 H)) | false => none, fun i => none, (fun _ => none)⟩
theorem W_abacistlaw23_wrong.ok (x1 : Int) (x2 : Int) (x3 : Int) (x4 : Int) (x5 : Int) (x6 : Int) (H : Hp) (K : Value → Hp → Prop) (h : W_abacistlaw23_wrong x1 x2 x3 x4 x5 x6 H K) : HCalls Tryz.prog 9 #[.int .i64 x1, .agg #[.int .i64 x2, .int .i64 x3, .int .i64 x4, .int .i64 x5, .int .u64 x6]] H K :=
  hcalls Tryz.func9 rfl (Nat.le_of_ble_eq_true rfl) (hw_safe (Λ := (W_abacistlaw23_wrong.Λ K)) mixWabacistlaw23 _ _ _ _ _ (Eq.mp (by kernel_rfl) h) (obs_seq obs_region rfl (obs_seq (obs_seq obs_region rfl (obs_cond (obs_seq obs_region rfl obs_ret) obs_skip)) rfl (obs_seqc (obs_seq obs_region rfl (obs_cond (obs_seq obs_region rfl obs_ret) obs_skip)) rfl (fun E D H h => by
      obtain ⟨w3, e3, g1⟩ := DG.out h
      obtain ⟨pw3, rfl, g2⟩ := DP.out g1
      obtain ⟨a1, rfl, g3⟩ := NN.out g2
      obtain ⟨rfl, h'⟩ := DNilD.out g3
      exact (hw_safe (Λ := (W_abacistlaw23_wrong.Λ K)) mixWabacistlaw23 _ _ [(3, .pointer (some a1))] [] H (Eq.mp (by kernel_rfl) h') (obs_seq (obs_seq obs_region rfl (obs_cond (obs_seq obs_region rfl obs_ret) obs_skip)) rfl (obs_seq obs_region rfl obs_ret))).weaken (EnvLe.cons e3 (EnvLe.nil _)) (Hp.le_refl _))))))

-- abacistlaw23.want
def W_abacistlaw23_want.l8 (K : Value → Hp → Prop) (R4 : Option Addr → Nat → Nat → Addr → Option Addr → Nat → Nat → Int → Int → Hp → Prop) : Nat → Option Addr → Nat → Nat → Addr → Option Addr → Nat → Nat → Int → Int → Option Addr → Nat → Nat → Int → Hp → Prop
  | 0, _, _, _, _, _, _, _, _, _, _, _, _, _, _ => False
  | k + 1, A5, n7, m5, a2, A6, n8, m6, x14, x15, A7, n9, m7, x16, H =>
    let R8 := W_abacistlaw23_want.l8 K R4 k
    BIf (decide (x16 < ((n9 : Nat) : Int))) (ixI x16 n9 (NN A7 fun a3 => Ld H (a3.add (x16.toNat * 1)) fun v8 => DI .u64 v8 fun x17 => Ld H (a2.add 4) fun v9 => DI .u64 v9 fun x18 => QCall Tryz.prog 32 #[.int .u64 x17, .int .u64 x18] H fun v10 => DI .u64 v10 fun x19 => Ld H (a2.add 3) fun v11 => DI .i64 v11 fun x20 => BIf (decide (x20 ≥ (0 : Int))) (Ld H (a2.add 3) fun v12 => DI .i64 v12 fun x21 => Ld H (a2.add 2) fun v13 => DI .i64 v13 fun x22 => HCalls Tryz.prog 34 #[.int .i64 x21, .int .i64 x22] H fun v14 H4 => DI .u64 v14 fun x23 => HCalls Tryz.prog 33 #[.int .u64 x23, .int .u64 (IntKind.u64.wrap (IntKind.i64.wrap (x15 * x16)))] H4 fun v15 H5 => DI .u64 v15 fun x24 => HCalls Tryz.prog 32 #[.int .u64 x19, .int .u64 x24] H5 fun v16 H6 => DI .u64 v16 fun x25 => Nw H6 (.row [.int .u64 x25] 25 1) fun b2 H7 => AppK Tryz.prog 25 (.slice A6 n8 m6) (.slice (some ⟨b2, 0, none⟩) 1 1) H7 fun v17 H9 => DSl v17 fun A8 n10 m8 => R8 A5 n7 m5 a2 A8 n10 m8 x14 x15 A7 n9 m7 (IntKind.i64.wrap (x16 + (1 : Int))) H9) (Nw H (.row [.int .u64 x19] 25 1) fun b3 H8 => AppK Tryz.prog 25 (.slice A6 n8 m6) (.slice (some ⟨b3, 0, none⟩) 1 1) H8 fun v18 H10 => DSl v18 fun A9 n11 m9 => R8 A5 n7 m5 a2 A9 n11 m9 x14 x15 A7 n9 m7 (IntKind.i64.wrap (x16 + (1 : Int))) H10))) (R4 A5 n7 m5 a2 A6 n8 m6 x14 (IntKind.i64.wrap (x15 + (1 : Int))) H)
def W_abacistlaw23_want.l4 (K : Value → Hp → Prop) : Nat → Option Addr → Nat → Nat → Addr → Option Addr → Nat → Nat → Int → Int → Hp → Prop
  | 0, _, _, _, _, _, _, _, _, _, _ => False
  | k + 1, A2, n2, m2, a1, A3, n3, m3, x8, x9, H =>
    let R4 := W_abacistlaw23_want.l4 K k
    Ld H ((a1.add 0).add 0) fun v3 => DI .i64 v3 fun x10 => BIf (decide (x9 < x10)) (Ld H ((a1.add 0).add 1) fun v4 => DI .i64 v4 fun x11 => Ld H ((a1.add 0).add 1) fun v5 => DI .i64 v5 fun x12 => slB n2 m2 (some (IntKind.i64.wrap (x9 * x11))) (some (IntKind.i64.wrap ((IntKind.i64.wrap (x9 + (1 : Int))) * x12))) fun n4 n5 => Ld H (a1.add 2) fun v6 => DI .i64 v6 fun x13 => HCalls Tryz.prog 31 #[.slice (slA A2 m2 n4 1) (n5 - n4) (m2 - n4), .int .i64 x8, .int .i64 x13] H fun v7 H3 => DSl v7 fun A4 n6 m4 => (∃ k, W_abacistlaw23_want.l8 K R4 k A2 n2 m2 a1 A3 n3 m3 x8 x9 A4 n6 m4 (0 : Int) H3)) (K (.slice A3 n3 m3) H)
def W_abacistlaw23_want (A1 : Option Addr) (n1 : Nat) (m1 : Nat) (x1 : Int) (x2 : Int) (x3 : Int) (x4 : Int) (x5 : Int) (H : Hp) (K : Value → Hp → Prop) : Prop :=
  Nw H (.obj (.cells #[.int .i64 x1, .int .i64 x2, .int .i64 x3, .int .i64 x4, .int .u64 x5] 27)) fun b1 H1 => Ld H1 (((⟨b1, 0, none⟩ : Addr).add 0).add 1) fun v1 => DI .i64 v1 fun x6 => HCalls Tryz.prog 30 #[.int .i64 x6] H1 fun v2 H2 => DI .i64 v2 fun x7 => (∃ k, W_abacistlaw23_want.l4 K k A1 n1 m1 (⟨b1, 0, none⟩ : Addr) none 0 0 x7 (0 : Int) H2)
def W_abacistlaw23_want.l4.L (K : Value → Hp → Prop) (k : Nat) : Mid := fun E D H =>
  DG (E.get? 0) fun w0 => DSl w0 fun A2 n2 m2 => DG (E.get? 3) fun w3 => DP w3 fun pw3 => NN pw3 fun a1 => DG (E.get? 5) fun w5 => DSl w5 fun A3 n3 m3 => DG (E.get? 6) fun w6 => DI .i64 w6 fun x8 => DG (E.get? 7) fun w7 => DI .i64 w7 fun x9 => DNilD D (W_abacistlaw23_want.l4 K k A2 n2 m2 a1 A3 n3 m3 x8 x9 H)
def W_abacistlaw23_want.l8.L (K : Value → Hp → Prop) (R4 : Option Addr → Nat → Nat → Addr → Option Addr → Nat → Nat → Int → Int → Hp → Prop) (k : Nat) : Mid := fun E D H =>
  DG (E.get? 0) fun w0 => DSl w0 fun A5 n7 m5 => DG (E.get? 3) fun w3 => DP w3 fun pw3 => NN pw3 fun a2 => DG (E.get? 5) fun w5 => DSl w5 fun A6 n8 m6 => DG (E.get? 6) fun w6 => DI .i64 w6 fun x14 => DG (E.get? 7) fun w7 => DI .i64 w7 fun x15 => DG (E.get? 8) fun w8 => DSl w8 fun A7 n9 m7 => DG (E.get? 9) fun w9 => DI .i64 w9 fun x16 => DNilD D (W_abacistlaw23_want.l8 K R4 k A5 n7 m5 a2 A6 n8 m6 x14 x15 A7 n9 m7 x16 H)
def W_abacistlaw23_want.Λ8 (_ : Value → Hp → Prop) (_R4 : Option Addr → Nat → Nat → Addr → Option Addr → Nat → Nat → Int → Int → Hp → Prop) (_R8 : Option Addr → Nat → Nat → Addr → Option Addr → Nat → Nat → Int → Int → Option Addr → Nat → Nat → Int → Hp → Prop) : Cuts := Cuts.none (fun i => match Nat.beq i 6 with | true => some ([], [0, 1, 2, 3, 4, 5, 6, 7, 8, 9, 10, 11, 12, 13, 14, 15], 16) | false => none)
def W_abacistlaw23_want.Λ4 (K : Value → Hp → Prop) (R4 : Option Addr → Nat → Nat → Addr → Option Addr → Nat → Nat → Int → Int → Hp → Prop) : Cuts := ⟨fun i => none, fun i => match Nat.beq i 8 with | true => some (fun E D H => ∃ k, W_abacistlaw23_want.l8.L K R4 k E D H) | false => none, (fun i => match Nat.beq i 6 with | true => some ([], [0, 1, 2, 3, 4, 5, 6, 7, 8, 9, 10, 11, 12, 13, 14, 15], 16) | false => none)⟩
def W_abacistlaw23_want.Λ (K : Value → Hp → Prop) : Cuts := ⟨fun i => none, fun i => match Nat.beq i 4 with | true => some (fun E D H => ∃ k, W_abacistlaw23_want.l4.L K k E D H) | false => none, (fun i => match Nat.beq i 6 with | true => some ([], [0, 1, 2, 3, 4, 5, 6, 7, 8, 9, 10, 11, 12, 13, 14, 15], 16) | false => none)⟩
theorem W_abacistlaw23_want.ok (A1 : Option Addr) (n1 : Nat) (m1 : Nat) (x1 : Int) (x2 : Int) (x3 : Int) (x4 : Int) (x5 : Int) (H : Hp) (K : Value → Hp → Prop) (h : W_abacistlaw23_want A1 n1 m1 x1 x2 x3 x4 x5 H K) : HCalls Tryz.prog 11 #[.slice A1 n1 m1, .agg #[.int .i64 x1, .int .i64 x2, .int .i64 x3, .int .i64 x4, .int .u64 x5]] H K :=
  hcalls Tryz.func11 rfl (Nat.le_of_ble_eq_true rfl) (hw_safe (Λ := (W_abacistlaw23_want.Λ K)) mixWabacistlaw23 _ _ _ _ _ (Eq.mp (by kernel_rfl) h) (obs_seq obs_region rfl (obs_seq obs_region rfl (obs_seq obs_region rfl (obs_seq (obs_seq obs_region rfl (obs_block (obs_loop rfl (fun E D H h => by
      refine Safe.loop' (W_abacistlaw23_want.l4.L K) (fun E D H h => ?_) (fun k E D H h => ?_) E D H h
      · obtain ⟨w0, e0, g1⟩ := DG.out h; obtain ⟨A2, n2, m2, rfl, g2⟩ := DSl.out g1; obtain ⟨w3, e3, g3⟩ := DG.out g2; obtain ⟨pw3, rfl, g4⟩ := DP.out g3; obtain ⟨a1, rfl, g5⟩ := NN.out g4; obtain ⟨w5, e5, g6⟩ := DG.out g5; obtain ⟨A3, n3, m3, rfl, g7⟩ := DSl.out g6; obtain ⟨w6, e6, g8⟩ := DG.out g7; obtain ⟨x8, rfl, g9⟩ := DI.out g8; obtain ⟨w7, e7, g10⟩ := DG.out g9; obtain ⟨x9, rfl, g11⟩ := DI.out g10; obtain ⟨rfl, h'⟩ := DNilD.out g11; exact h'
      · obtain ⟨w0, e0, g1⟩ := DG.out h
        obtain ⟨A2, n2, m2, rfl, g2⟩ := DSl.out g1
        obtain ⟨w3, e3, g3⟩ := DG.out g2
        obtain ⟨pw3, rfl, g4⟩ := DP.out g3
        obtain ⟨a1, rfl, g5⟩ := NN.out g4
        obtain ⟨w5, e5, g6⟩ := DG.out g5
        obtain ⟨A3, n3, m3, rfl, g7⟩ := DSl.out g6
        obtain ⟨w6, e6, g8⟩ := DG.out g7
        obtain ⟨x8, rfl, g9⟩ := DI.out g8
        obtain ⟨w7, e7, g10⟩ := DG.out g9
        obtain ⟨x9, rfl, g11⟩ := DI.out g10
        obtain ⟨rfl, h'⟩ := DNilD.out g11
        exact (hw_safe (Λ := (W_abacistlaw23_want.Λ4 K (W_abacistlaw23_want.l4 K k))) mixWabacistlaw23 _ _ [(0, .slice A2 n2 m2), (3, .pointer (some a1)), (5, .slice A3 n3 m3), (6, .int .i64 x8), (7, .int .i64 x9)] [] H (Eq.mp (by kernel_rfl) h') (obs_seq (obs_seq obs_region rfl (obs_cond obs_skip obs_exit)) rfl (obs_seq (obs_block (obs_seq obs_region rfl (obs_seq obs_region rfl (obs_block (obs_loop rfl (fun E D H h => by
            refine Safe.loop' (W_abacistlaw23_want.l8.L K (W_abacistlaw23_want.l4 K k)) (fun E D H h => ?_) (fun k E D H h => ?_) E D H h
            · obtain ⟨w0, e0, g1⟩ := DG.out h; obtain ⟨A5, n7, m5, rfl, g2⟩ := DSl.out g1; obtain ⟨w3, e3, g3⟩ := DG.out g2; obtain ⟨pw3, rfl, g4⟩ := DP.out g3; obtain ⟨a2, rfl, g5⟩ := NN.out g4; obtain ⟨w5, e5, g6⟩ := DG.out g5; obtain ⟨A6, n8, m6, rfl, g7⟩ := DSl.out g6; obtain ⟨w6, e6, g8⟩ := DG.out g7; obtain ⟨x14, rfl, g9⟩ := DI.out g8; obtain ⟨w7, e7, g10⟩ := DG.out g9; obtain ⟨x15, rfl, g11⟩ := DI.out g10; obtain ⟨w8, e8, g12⟩ := DG.out g11; obtain ⟨A7, n9, m7, rfl, g13⟩ := DSl.out g12; obtain ⟨w9, e9, g14⟩ := DG.out g13; obtain ⟨x16, rfl, g15⟩ := DI.out g14; obtain ⟨rfl, h'⟩ := DNilD.out g15; exact h'
            · obtain ⟨w0, e0, g1⟩ := DG.out h
              obtain ⟨A5, n7, m5, rfl, g2⟩ := DSl.out g1
              obtain ⟨w3, e3, g3⟩ := DG.out g2
              obtain ⟨pw3, rfl, g4⟩ := DP.out g3
              obtain ⟨a2, rfl, g5⟩ := NN.out g4
              obtain ⟨w5, e5, g6⟩ := DG.out g5
              obtain ⟨A6, n8, m6, rfl, g7⟩ := DSl.out g6
              obtain ⟨w6, e6, g8⟩ := DG.out g7
              obtain ⟨x14, rfl, g9⟩ := DI.out g8
              obtain ⟨w7, e7, g10⟩ := DG.out g9
              obtain ⟨x15, rfl, g11⟩ := DI.out g10
              obtain ⟨w8, e8, g12⟩ := DG.out g11
              obtain ⟨A7, n9, m7, rfl, g13⟩ := DSl.out g12
              obtain ⟨w9, e9, g14⟩ := DG.out g13
              obtain ⟨x16, rfl, g15⟩ := DI.out g14
              obtain ⟨rfl, h'⟩ := DNilD.out g15
              exact (hw_safe (Λ := (W_abacistlaw23_want.Λ8 K (W_abacistlaw23_want.l4 K k) (W_abacistlaw23_want.l8 K (W_abacistlaw23_want.l4 K k) k))) mixWabacistlaw23 _ _ [(0, .slice A5 n7 m5), (3, .pointer (some a2)), (5, .slice A6 n8 m6), (6, .int .i64 x14), (7, .int .i64 x15), (8, .slice A7 n9 m7), (9, .int .i64 x16)] [] H (Eq.mp (by kernel_rfl) h') (obs_seq (obs_seq obs_region rfl (obs_cond obs_skip obs_exit)) rfl (obs_seq (obs_block (obs_seq obs_region rfl (obs_seq (obs_seq obs_region rfl (obs_cond obs_region obs_skip)) rfl obs_region))) rfl obs_region))).weaken (EnvLe.cons e0 (EnvLe.cons e3 (EnvLe.cons e5 (EnvLe.cons e6 (EnvLe.cons e7 (EnvLe.cons e8 (EnvLe.cons e9 (EnvLe.nil _)))))))) (Hp.le_refl _))))))) rfl obs_region))).weaken (EnvLe.cons e0 (EnvLe.cons e3 (EnvLe.cons e5 (EnvLe.cons e6 (EnvLe.cons e7 (EnvLe.nil _)))))) (Hp.le_refl _))))) rfl (obs_seq obs_region rfl obs_ret))))))

end Go.Proofs.YtbnhfcdagoigkaaGreatDoor.W

end
section
/-! PasF -/
/- pass: Cost; a pass of a pair; the law's first look. -/
set_option maxRecDepth 100000
set_option linter.unusedSimpArgs false
set_option linter.unusedVariables false
set_option linter.unnecessarySimpa false
set_option linter.unusedSectionVars false
namespace Go.Proofs.YtbnhfcdagoigkaaGreatDoor.Pas
open Go Go.Hw Go.Crc Go.Form Go.Proofs.YtbnhfcdagoigkaaGreatDoor.W Go.Proofs.YtbnhfcdagoigkaaGreatDoor.Shp Go.Proofs.YtbnhfcdagoigkaaGreatDoor.Gol Go.Proofs.YtbnhfcdagoigkaaGreatDoor.Fft Go.Proofs.YtbnhfcdagoigkaaGreatDoor.Ker Go.Proofs.YtbnhfcdagoigkaaGreatDoor.Str Go.Proofs.YtbnhfcdagoigkaaGreatDoor.Dsk Go.Proofs.YtbnhfcdagoigkaaGreatDoor.Are Go.Proofs.YtbnhfcdagoigkaaGreatDoor.Trn

/-- The sectors of a part of a power of two, at a place that it divides. -/
theorem part_cnt (e j f fr : Nat) (hd : 2 ^ j ∣ fr) : (pcs (2 ^ e) f (2 ^ j) fr (2 ^ j)).length = m1 (2 ^ j / 2 ^ e) ∧ pcsR (2 ^ e) f (2 ^ j) fr (2 ^ j) = if 2 ^ j < 2 ^ e then 1 else 0 := by
  have hj := pow_pos j
  have he := pow_pos e
  by_cases h : j < e
  · have hlt : 2 ^ j < 2 ^ e := Nat.pow_lt_pow_right (by omega) h
    have hfit : fr % 2 ^ e + 2 ^ j ≤ 2 ^ e := by
      obtain ⟨t, rfl⟩ := hd
      have e1 : 2 ^ e = 2 ^ j * 2 ^ (e - j) := by rw [← Nat.pow_add]; congr 1; omega
      rw [e1, Nat.mul_mod_mul_left]
      have h1 := Nat.mod_lt t (pow_pos (e - j))
      have h2 : 2 ^ j * (t % 2 ^ (e - j) + 1) ≤ 2 ^ j * 2 ^ (e - j) := Nat.mul_le_mul_left _ h1
      rw [Nat.mul_add, Nat.mul_one] at h2
      exact h2
    have e1 := pcs_one (per := 2 ^ e) (f := f) (k := 2 ^ j) (fr := fr) (n := 2 ^ j) hj hj hfit
    unfold pcsR
    rw [e1, if_pos hlt, Nat.div_eq_of_lt hlt]
    refine ⟨rfl, ?_⟩
    simp [hlt]
  · have e4 : 2 ^ j = 2 ^ (j - e) * 2 ^ e := by rw [← Nat.pow_add]; congr 1; omega
    have hjm := pow_pos (j - e)
    have hf : fr % 2 ^ e = 0 := by
      obtain ⟨t, rfl⟩ := hd
      rw [e4, Nat.mul_right_comm]
      exact Nat.mul_mod_left _ _
    obtain ⟨h1, h2⟩ := pcs_al (per := 2 ^ e) (f := f) (by omega) (2 ^ (j - e)) (2 ^ j) fr (by rw [← e4]; exact Nat.le_refl _) hf
    rw [← e4] at h1 h2
    have hle := pow_le (show e ≤ j by omega)
    refine ⟨?_, ?_⟩
    · rw [h1]
      have : 2 ^ j / 2 ^ e = 2 ^ (j - e) := by rw [e4, Nat.mul_div_cancel _ (by omega)]
      rw [this]
      unfold m1
      split <;> omega
    · unfold pcsR
      rw [if_neg (by omega), List.length_eq_zero_iff, List.filter_eq_nil_iff]
      intro p hp
      rw [h2 p hp]; simp

theorem rP_is (e f f' n : Nat) : ∀ m, rP (2 ^ e) f f' (2 ^ n) m = m * m1 (2 ^ n / 2 ^ e) + (if 2 ^ n < 2 ^ e then m else 0)
  | 0 => by simp [rP]
  | m + 1 => by
    rw [rP_succ, rP_is e f f' n m, (part_cnt e n f (m * 2 ^ n) (Nat.dvd_mul_left _ _)).1, (part_cnt e n f' (m * 2 ^ n) (Nat.dvd_mul_left _ _)).2, Nat.succ_mul]
    split <;> omega
theorem wP_is (e f' n : Nat) : ∀ m, wP (2 ^ e) f' (2 ^ n) m = m * m1 (2 ^ n / 2 ^ e)
  | 0 => by simp [wP]
  | m + 1 => by
    rw [wP_succ, wP_is e f' n m, (part_cnt e n f' (m * 2 ^ n) (Nat.dvd_mul_left _ _)).1, Nat.succ_mul]

theorem m1_le' {q p : Nat} (h : 1 ≤ q) (hp : 1 ≤ p) : m1 (q / p) ≤ q := by
  have := Nat.div_le_self q p
  unfold m1; split <;> omega
theorem m1_if' (q : Nat) : (if ((q : Nat) : Int) > 1 then ((q : Nat) : Int) else 1) = ((m1 q : Nat) : Int) := by
  unfold m1
  split <;> split <;> omega

def opsV (r w : Int) : Array Value := #[.int .i64 r, .int .i64 w, .int .i64 0]
/-- What a pass costs. -/
def cR (per n m : Nat) : Nat := m * m1 (n / per) + (if n < per then m else 0)
def cW (per n m : Nat) : Nat := m * m1 (n / per)
section
variable {p q dp ap : Nat} {x y : X} {cap peak : Int} {TT : As} {j : J}

theorem RunM_tr {d : D} {n jb : Nat} (hT : ∀ H, TT H → T64 H) (hM : MadeD d ((n + 3) / 4) n) (hx : On d x) (hy : On d y) (hc : d.rd ≤ 10000000 ∧ d.wr ≤ 10000000) (hn : n ≤ 1000) (hab : j.ea + j.eb ≤ 32) (htw : -1 ≤ j.tw ∧ j.tw ≤ 32) (hxw : x.w = 2 ^ j.ea * 2 ^ j.eb) (hyw : y.w = 2 ^ j.ea * 2 ^ j.eb) (hxn : x.w = n) (hdis : x.f + x.s ≤ y.f ∨ y.f + y.s ≤ x.f)
    (hcap : cap ≤ 1000000000000) (hfr : 4 + 2 * ((2 ^ j.eb : Nat) : Int) ≤ cap) (hj : BatIs j.ea ((cap - 4).toNat / 2 ^ j.eb) jb) :
    Tr Tryz.prog 6 #[.pointer (some ⟨p, 0, none⟩), .pointer (some ⟨q, 0, none⟩), .agg j.a, .pointer (some ⟨ap, 0, none⟩), .int .i64 4]
      [pts p (pipO dp ap x), pts q (pipO dp ap y), Dk dp d, Ar ap cap peak [], TT] fun v M => ∃ d', MadeD d' ((n + 3) / 4) n ∧ Prog (inX y) d d' (rP 4 x.f y.f (2 ^ jb * 2 ^ j.eb) (2 ^ j.ea / 2 ^ jb)) (wP 4 y.f (2 ^ jb * 2 ^ j.eb) (2 ^ j.ea / 2 ^ jb)) ∧ d'.rd ≤ d.rd + 2 * n ∧ d'.wr ≤ d.wr + n ∧
        pws d' x 0 n = pws d x 0 n ∧ pws d' y 0 n = rowsU j d x (2 ^ j.ea) ∧
        v = .tuple #[.int .u32 ((sum (form (rowsU j d x (2 ^ j.ea)))).toNat : Int), .int .i64 0] ∧
        M = [pts p (pipO dp ap x), pts q (pipO dp ap y), Dk dp d', Ar ap cap (mx peak ((2 ^ jb * 2 ^ j.eb : Nat) + (2 ^ j.eb : Nat) + 4)) [], TT] := fun H hs => by
  have hper := hM.per
  have e4 : ((D.per d : Nat) : Int) = 4 := by rw [hper]; rfl
  have hjb := hj.le
  have hb := div_pow hjb
  have he1 := pow_pos j.ea
  have he2 : 2 ^ j.eb ≤ n := by
    rw [← hxn, hxw]; exact Nat.le_mul_of_pos_left _ he1
  have hb20 : j.eb ≤ 20 := by
    apply Nat.le_of_not_lt
    intro h
    have := pow_le (show 21 ≤ j.eb from h)
    omega
  have R := Run_tr (p := p) (q := q) (dp := dp) (ap := ap) (peak := peak) (bufs := []) (TT := TT) (jb := jb) (cap := cap) hT hM.ok hM.down hx hy ⟨by omega, by omega⟩ hab hb20 htw hxw hyw hdis (by rw [e4]; decide) hcap (by rw [sumB_nil]; omega) (by rw [e4, sumB_nil]; omega) (by rw [e4, sumB_nil, Int.sub_zero]; exact hj) H hs
  rw [e4] at R
  refine R.mono ?_
  rintro v H' ⟨M, ⟨M0, hr | hr, rfl⟩, hM'⟩
  · obtain ⟨d', hI, rfl, rfl⟩ := hr
    have hpg := hI.pg
    rw [hper] at hpg
    have r1 := rP_le 4 x.f y.f (2 ^ jb * 2 ^ j.eb) (2 ^ j.ea / 2 ^ jb)
    have r2 := wP_le 4 y.f (2 ^ jb * 2 ^ j.eb) (2 ^ j.ea / 2 ^ jb)
    have e2 : 2 ^ j.ea / 2 ^ jb * (2 ^ jb * 2 ^ j.eb) = n := by rw [← Nat.mul_assoc, ← hb, ← hxn, hxw]
    have e1 : 2 ^ j.ea / 2 ^ jb * (2 * (2 ^ jb * 2 ^ j.eb)) = 2 * n := by rw [Nat.mul_left_comm, e2]
    have h1 := hpg.rd; have h2 := hpg.wr
    have hrd : d'.rd ≤ d.rd + 2 * n := by omega
    have hwr : d'.wr ≤ d.wr + n := by omega
    refine ⟨_, ⟨d', hM.prog hpg ⟨by omega, by omega⟩, hpg, hrd, hwr, ?_, ?_, rfl, rfl⟩, ?_⟩
    · rw [pws_map (f := pw d x) fun k hk => hI.src k (by omega), pws_map (f := pw d x) fun _ _ => rfl]
    · have hl : (rowsU j d x (2 ^ j.ea)).length = n := by rw [rowsU_len, ← hxn, hxw]
      rw [pws_map (f := fun k => ((rowsU j d x (2 ^ j.ea))[k]?).getD 0) fun k hk => by
        have := hI.dst k (by rw [← hb, ← hxw, hxn]; exact hk)
        rw [← hb] at this
        exact this]
      have := range_get (rowsU j d x (2 ^ j.ea))
      rw [hl] at this
      exact this
    · rw [sumB_nil, Int.zero_add, e4] at hM'
      exact hM'
  · obtain ⟨d', hd, _⟩ := hr
    exact (Dead.calm hd hM.fuse).elim
end

theorem one_row (w : Zp) (j : Nat) : dft w 4 (at' [1, 0, 0, 0]) j = 1 := by
  have h0 : at' [1, 0, 0, 0] 0 = 1 := by decide
  have h1 : at' [1, 0, 0, 0] 1 = 0 := by decide
  have h2 : at' [1, 0, 0, 0] 2 = 0 := by decide
  have h3 : at' [1, 0, 0, 0] 3 = 0 := by decide
  unfold dft
  show (((0 + at' [1, 0, 0, 0] 0 * Fft.pw w (0 * j)) + at' [1, 0, 0, 0] 1 * Fft.pw w (1 * j)) + at' [1, 0, 0, 0] 2 * Fft.pw w (2 * j)) + at' [1, 0, 0, 0] 3 * Fft.pw w (3 * j) = 1
  rw [h0, h1, h2, h3, Nat.zero_mul, show Fft.pw w 0 = 1 from rfl]
  grind

def jA : J := ⟨0, 2, false, -1, 3⟩
theorem rowP_awake : rowP jA 0 [1, 0, 0, 0] = [3, 3, 3, 3] := by
  have e1 : dftL false 2 [1, 0, 0, 0] = [1, 1, 1, 1] := by
    unfold dftL
    simp only [show (2 : Nat) ^ 2 = 4 from rfl, one_row]
    decide
  show sclL (zw 3) (twL jA 0 (dftL false 2 [1, 0, 0, 0])) = _
  rw [e1, show twL jA 0 [1, 1, 1, 1] = [1, 1, 1, 1] from rfl]
  decide

theorem awake_ok (H : Hp) (hT : T64 H) : HCalls Tryz.prog 4 #[] H (RetE (.bool true) H) := HCalls.ret (by
  apply W_abacistlaw23_awake.ok
  unfold W_abacistlaw23_awake
  refine (Sep.start H).nw fun b1 H1 hs => ?_
  have hs : Sep [own H, pts b1 (.row (wordVals [1, 0, 0, 0]) 25 4)] H1 := hs
  refine (Make_tr (A := some ⟨b1, 0, none⟩) (n := 4) (m := 4) (R := pts b1 (.row (wordVals [1, 0, 0, 0]) 25 4)) [1, 0, 0, 0] rfl (by omega) (by omega) (by omega) 40 (by omega) (fun H h => by
    have := Cells.row h 0 4
    exact this)).use hs [1] rfl rfl ?_
  rintro _ _ H1 ⟨dp, ap, p, q, d, rfl, hM, hrd, hwr, hw, rfl⟩ hs
  simp only [DI_int', DB_bool, DS_string, DP_pointer, DSl_slice, DM_map, DA_agg, DTup_tuple, DCons_cons, DNil_nil, NN_some, BIf_true, BIf_false, BIf_same, List.toList_toArray, Bool.not_true, Bool.not_false]
  refine hs.nw fun b2 H1 hs => ?_
  refine hs.stw 6 rfl rfl rfl rfl fun H1 hs => ?_
  first | refine hs.ldf 6 rfl rfl ?_ | refine hs.ldg 6 rfl rfl ?_
  try simp only [DI_int', DB_bool, DS_string, DP_pointer, DSl_slice, DM_map, DA_agg, DTup_tuple, DCons_cons, DNil_nil, NN_some, BIf_true, BIf_false, BIf_same, List.toList_toArray, Bool.not_true, Bool.not_false]
  first | refine hs.ldf 6 rfl rfl ?_ | refine hs.ldg 6 rfl rfl ?_
  try simp only [DI_int', DB_bool, DS_string, DP_pointer, DSl_slice, DM_map, DA_agg, DTup_tuple, DCons_cons, DNil_nil, NN_some, BIf_true, BIf_false, BIf_same, List.toList_toArray, Bool.not_true, Bool.not_false]
  first | refine hs.ldf 6 rfl rfl ?_ | refine hs.ldg 6 rfl rfl ?_
  try simp only [DI_int', DB_bool, DS_string, DP_pointer, DSl_slice, DM_map, DA_agg, DTup_tuple, DCons_cons, DNil_nil, NN_some, BIf_true, BIf_false, BIf_same, List.toList_toArray, Bool.not_true, Bool.not_false]
  refine (RunM_tr (p := p) (q := q) (dp := dp) (ap := ap) (x := xP 4) (y := xQ 4) (cap := 40) (peak := 0) (TT := own H) (d := d) (n := 4) (j := jA) (jb := 0) (fun H' h => hT.le h) hM (hM.onP (by omega)) (hM.onQ (by omega)) ⟨by omega, by omega⟩ (by omega) (by decide) (by decide) rfl rfl rfl (.inl (by decide)) (by omega) (by decide) ⟨by decide, by decide, .inl rfl⟩).use hs [0, 1, 2, 3, 5] rfl rfl ?_
  rintro _ _ H1 ⟨d1, hM1, hpg, hrd1, hwr1, hP, hQ, rfl, rfl⟩ hs
  simp only [DI_int', DB_bool, DS_string, DP_pointer, DSl_slice, DM_map, DA_agg, DTup_tuple, DCons_cons, DNil_nil, NN_some, BIf_true, BIf_false, BIf_same, List.toList_toArray, Bool.not_true, Bool.not_false]
  first | refine hs.ldf 6 rfl rfl ?_ | refine hs.ld 6 rfl rfl ?_
  simp only [DI_int', DB_bool, DS_string, DP_pointer, DSl_slice, DM_map, DA_agg, DTup_tuple, DCons_cons, DNil_nil, NN_some, BIf_true, BIf_false, BIf_same, List.toList_toArray, Bool.not_true, Bool.not_false]
  refine (Words_tr (dp := dp) (d := d1) 2 4 hM1.ok hM1.calm (hM1.onQ (by omega)) hM1.per (by omega)).use hs [2] rfl rfl ?_
  rintro _ _ H1 ⟨b3, t, ht, rfl, rfl⟩ hs
  simp only [DI_int', DB_bool, DS_string, DP_pointer, DSl_slice, DM_map, DA_agg, DTup_tuple, DCons_cons, DNil_nil, NN_some, BIf_true, BIf_false, BIf_same, List.toList_toArray, Bool.not_true, Bool.not_false]
  refine BIf_beqp rfl ?_
  have hT4 : rowsU jA d (xP 4) (2 ^ 0) = [3, 3, 3, 3] := by
    have e : rowsU jA d (xP 4) (2 ^ 0) = rowP jA 0 [pw d (xP 4) 0, pw d (xP 4) 1, pw d (xP 4) 2, pw d (xP 4) 3] ++ [] := rfl
    rw [e, hw 0 (by omega), hw 1 (by omega), hw 2 (by omega), hw 3 (by omega)]
    exact (List.append_nil _).trans rowP_awake
  have hQ : pws d1 ⟨2, (4 + 3) / 4, 4⟩ 0 4 = [3, 3, 3, 3] := hQ.trans hT4
  rw [hQ] at hs
  refine hs.nw fun b4 H1 hs => ?_
  have hc : Cells H1 (some ⟨b3, 0, none⟩) (wordVals [3, 3, 3, 3]) := by
    have := Cells.row (hs.get 1 rfl) 0 4
    exact this
  have hc2 : Cells H1 (some ⟨b4, 0, none⟩) (wordVals [3, 3, 3, 3]) := by
    have := Cells.row (hs.get 8 rfl) 0 4
    exact this
  refine HCalls.use (Same_ok (some ⟨b3, 0, none⟩) (some ⟨b4, 0, none⟩) 4 4 4 [3, 3, 3, 3] rfl (by omega) H1 hc hc2) ?_
  simp only [DI_int', DB_bool, DS_string, DP_pointer, DSl_slice, DM_map, DA_agg, DTup_tuple, DCons_cons, DNil_nil, NN_some, BIf_true, BIf_false, BIf_same, List.toList_toArray, Bool.not_true, Bool.not_false]
  exact hs.fin 5 rfl _)

end Go.Proofs.YtbnhfcdagoigkaaGreatDoor.Pas

end
section
/-! Wabacistref08 -/
/- Formulas of functions, printed by wip/tools/hwp.py. -/
set_option maxRecDepth 100000
set_option linter.unusedVariables false
namespace Go.Proofs.YtbnhfcdagoigkaaGreatDoor.W
open Go Go.Hw

theorem mixWabacistref08 : Tryz.prog.follows .mixedOrders = true := by kernel_rfl
-- abacistref08.Dft
def W_abacistref08_Dft.l10 (K : Value → Hp → Prop) (R5 : Option Addr → Nat → Nat → Int → Option Addr → Nat → Nat → Int → Int → Hp → Prop) : Nat → Option Addr → Nat → Nat → Int → Option Addr → Nat → Nat → Int → Int → Int → Int → Int → Hp → Prop
  | 0, _, _, _, _, _, _, _, _, _, _, _, _, _ => False
  | k + 1, A4, n4, m4, x7, A5, n5, m5, x8, x9, x10, x11, x12, H =>
    let R10 := W_abacistref08_Dft.l10 K R5 k
    BIf (decide (x12 < ((n4 : Nat) : Int))) (ixI x12 n4 (NN A4 fun a1 => Ld H (a1.add (x12.toNat * 1)) fun v2 => DI .u64 v2 fun x13 => HCalls Tryz.prog 32 #[.int .u64 x13, .int .u64 x11] H fun v3 H2 => DI .u64 v3 fun x14 => HCalls Tryz.prog 52 #[.int .u64 x10, .int .u64 x14] H2 fun v4 H3 => DI .u64 v4 fun x15 => HCalls Tryz.prog 32 #[.int .u64 x11, .int .u64 x8] H3 fun v5 H4 => DI .u64 v5 fun x16 => R10 A4 n4 m4 x7 A5 n5 m5 x8 x9 x15 x16 (IntKind.i64.wrap (x12 + (1 : Int))) H4)) (Nw H (.row [.int .u64 x10] 25 1) fun b1 H5 => AppK Tryz.prog 25 (.slice A5 n5 m5) (.slice (some ⟨b1, 0, none⟩) 1 1) H5 fun v6 H6 => DSl v6 fun A6 n6 m6 => HCalls Tryz.prog 32 #[.int .u64 x8, .int .u64 x7] H6 fun v7 H7 => DI .u64 v7 fun x17 => R5 A4 n4 m4 x7 A6 n6 m6 x17 (IntKind.i64.wrap (x9 + (1 : Int))) H7)
def W_abacistref08_Dft.l5 (K : Value → Hp → Prop) : Nat → Option Addr → Nat → Nat → Int → Option Addr → Nat → Nat → Int → Int → Hp → Prop
  | 0, _, _, _, _, _, _, _, _, _, _ => False
  | k + 1, A2, n2, m2, x4, A3, n3, m3, x5, x6, H =>
    let R5 := W_abacistref08_Dft.l5 K k
    BIf (decide (x6 < ((n2 : Nat) : Int))) ((∃ k, W_abacistref08_Dft.l10 K R5 k A2 n2 m2 x4 A3 n3 m3 x5 x6 (0 : Int) (1 : Int) (0 : Int) H)) (K (.slice A3 n3 m3) H)
def W_abacistref08_Dft (A1 : Option Addr) (n1 : Nat) (m1 : Nat) (x1 : Int) (x2 : Int) (H : Hp) (K : Value → Hp → Prop) : Prop :=
  HCalls Tryz.prog 34 #[.int .i64 x1, .int .i64 x2] H fun v1 H1 => DI .u64 v1 fun x3 => (∃ k, W_abacistref08_Dft.l5 K k A1 n1 m1 x3 none 0 0 (1 : Int) (0 : Int) H1)
def W_abacistref08_Dft.l5.L (K : Value → Hp → Prop) (k : Nat) : Mid := fun E D H =>
  DG (E.get? 0) fun w0 => DSl w0 fun A2 n2 m2 => DG (E.get? 7) fun w7 => DI .u64 w7 fun x4 => DG (E.get? 8) fun w8 => DSl w8 fun A3 n3 m3 => DG (E.get? 9) fun w9 => DI .u64 w9 fun x5 => DG (E.get? 10) fun w10 => DI .i64 w10 fun x6 => DNilD D (W_abacistref08_Dft.l5 K k A2 n2 m2 x4 A3 n3 m3 x5 x6 H)
def W_abacistref08_Dft.l10.L (K : Value → Hp → Prop) (R5 : Option Addr → Nat → Nat → Int → Option Addr → Nat → Nat → Int → Int → Hp → Prop) (k : Nat) : Mid := fun E D H =>
  DG (E.get? 0) fun w0 => DSl w0 fun A4 n4 m4 => DG (E.get? 7) fun w7 => DI .u64 w7 fun x7 => DG (E.get? 8) fun w8 => DSl w8 fun A5 n5 m5 => DG (E.get? 9) fun w9 => DI .u64 w9 fun x8 => DG (E.get? 10) fun w10 => DI .i64 w10 fun x9 => DG (E.get? 11) fun w11 => DI .u64 w11 fun x10 => DG (E.get? 12) fun w12 => DI .u64 w12 fun x11 => DG (E.get? 13) fun w13 => DI .i64 w13 fun x12 => DNilD D (W_abacistref08_Dft.l10 K R5 k A4 n4 m4 x7 A5 n5 m5 x8 x9 x10 x11 x12 H)
def W_abacistref08_Dft.Λ10 (_ : Value → Hp → Prop) (_R5 : Option Addr → Nat → Nat → Int → Option Addr → Nat → Nat → Int → Int → Hp → Prop) (_R10 : Option Addr → Nat → Nat → Int → Option Addr → Nat → Nat → Int → Int → Int → Int → Int → Hp → Prop) : Cuts := Cuts.none (fun _ => none)
def W_abacistref08_Dft.Λ5 (K : Value → Hp → Prop) (R5 : Option Addr → Nat → Nat → Int → Option Addr → Nat → Nat → Int → Int → Hp → Prop) : Cuts := ⟨fun i => none, fun i => match Nat.beq i 10 with | true => some (fun E D H => ∃ k, W_abacistref08_Dft.l10.L K R5 k E D H) | false => none, (fun _ => none)⟩
def W_abacistref08_Dft.Λ (K : Value → Hp → Prop) : Cuts := ⟨fun i => none, fun i => match Nat.beq i 5 with | true => some (fun E D H => ∃ k, W_abacistref08_Dft.l5.L K k E D H) | false => none, (fun _ => none)⟩
theorem W_abacistref08_Dft.ok (A1 : Option Addr) (n1 : Nat) (m1 : Nat) (x1 : Int) (x2 : Int) (H : Hp) (K : Value → Hp → Prop) (h : W_abacistref08_Dft A1 n1 m1 x1 x2 H K) : HCalls Tryz.prog 31 #[.slice A1 n1 m1, .int .i64 x1, .int .i64 x2] H K :=
  hcalls Tryz.func31 rfl (Nat.le_of_ble_eq_true rfl) (hw_safe (Λ := (W_abacistref08_Dft.Λ K)) mixWabacistref08 _ _ _ _ _ (Eq.mp (by kernel_rfl) h) (obs_seq obs_region rfl (obs_seq obs_region rfl (obs_seq obs_region rfl (obs_seq obs_region rfl (obs_seq (obs_seq obs_region rfl (obs_block (obs_loop rfl (fun E D H h => by
      refine Safe.loop' (W_abacistref08_Dft.l5.L K) (fun E D H h => ?_) (fun k E D H h => ?_) E D H h
      · obtain ⟨w0, e0, g1⟩ := DG.out h; obtain ⟨A2, n2, m2, rfl, g2⟩ := DSl.out g1; obtain ⟨w7, e7, g3⟩ := DG.out g2; obtain ⟨x4, rfl, g4⟩ := DI.out g3; obtain ⟨w8, e8, g5⟩ := DG.out g4; obtain ⟨A3, n3, m3, rfl, g6⟩ := DSl.out g5; obtain ⟨w9, e9, g7⟩ := DG.out g6; obtain ⟨x5, rfl, g8⟩ := DI.out g7; obtain ⟨w10, e10, g9⟩ := DG.out g8; obtain ⟨x6, rfl, g10⟩ := DI.out g9; obtain ⟨rfl, h'⟩ := DNilD.out g10; exact h'
      · obtain ⟨w0, e0, g1⟩ := DG.out h
        obtain ⟨A2, n2, m2, rfl, g2⟩ := DSl.out g1
        obtain ⟨w7, e7, g3⟩ := DG.out g2
        obtain ⟨x4, rfl, g4⟩ := DI.out g3
        obtain ⟨w8, e8, g5⟩ := DG.out g4
        obtain ⟨A3, n3, m3, rfl, g6⟩ := DSl.out g5
        obtain ⟨w9, e9, g7⟩ := DG.out g6
        obtain ⟨x5, rfl, g8⟩ := DI.out g7
        obtain ⟨w10, e10, g9⟩ := DG.out g8
        obtain ⟨x6, rfl, g10⟩ := DI.out g9
        obtain ⟨rfl, h'⟩ := DNilD.out g10
        exact (hw_safe (Λ := (W_abacistref08_Dft.Λ5 K (W_abacistref08_Dft.l5 K k))) mixWabacistref08 _ _ [(0, .slice A2 n2 m2), (7, .int .u64 x4), (8, .slice A3 n3 m3), (9, .int .u64 x5), (10, .int .i64 x6)] [] H (Eq.mp (by kernel_rfl) h') (obs_seq (obs_seq obs_region rfl (obs_cond obs_skip obs_exit)) rfl (obs_seq (obs_block (obs_seq obs_region rfl (obs_seq obs_region rfl (obs_seq (obs_seq obs_region rfl (obs_block (obs_loop rfl (fun E D H h => by
            refine Safe.loop' (W_abacistref08_Dft.l10.L K (W_abacistref08_Dft.l5 K k)) (fun E D H h => ?_) (fun k E D H h => ?_) E D H h
            · obtain ⟨w0, e0, g1⟩ := DG.out h; obtain ⟨A4, n4, m4, rfl, g2⟩ := DSl.out g1; obtain ⟨w7, e7, g3⟩ := DG.out g2; obtain ⟨x7, rfl, g4⟩ := DI.out g3; obtain ⟨w8, e8, g5⟩ := DG.out g4; obtain ⟨A5, n5, m5, rfl, g6⟩ := DSl.out g5; obtain ⟨w9, e9, g7⟩ := DG.out g6; obtain ⟨x8, rfl, g8⟩ := DI.out g7; obtain ⟨w10, e10, g9⟩ := DG.out g8; obtain ⟨x9, rfl, g10⟩ := DI.out g9; obtain ⟨w11, e11, g11⟩ := DG.out g10; obtain ⟨x10, rfl, g12⟩ := DI.out g11; obtain ⟨w12, e12, g13⟩ := DG.out g12; obtain ⟨x11, rfl, g14⟩ := DI.out g13; obtain ⟨w13, e13, g15⟩ := DG.out g14; obtain ⟨x12, rfl, g16⟩ := DI.out g15; obtain ⟨rfl, h'⟩ := DNilD.out g16; exact h'
            · obtain ⟨w0, e0, g1⟩ := DG.out h
              obtain ⟨A4, n4, m4, rfl, g2⟩ := DSl.out g1
              obtain ⟨w7, e7, g3⟩ := DG.out g2
              obtain ⟨x7, rfl, g4⟩ := DI.out g3
              obtain ⟨w8, e8, g5⟩ := DG.out g4
              obtain ⟨A5, n5, m5, rfl, g6⟩ := DSl.out g5
              obtain ⟨w9, e9, g7⟩ := DG.out g6
              obtain ⟨x8, rfl, g8⟩ := DI.out g7
              obtain ⟨w10, e10, g9⟩ := DG.out g8
              obtain ⟨x9, rfl, g10⟩ := DI.out g9
              obtain ⟨w11, e11, g11⟩ := DG.out g10
              obtain ⟨x10, rfl, g12⟩ := DI.out g11
              obtain ⟨w12, e12, g13⟩ := DG.out g12
              obtain ⟨x11, rfl, g14⟩ := DI.out g13
              obtain ⟨w13, e13, g15⟩ := DG.out g14
              obtain ⟨x12, rfl, g16⟩ := DI.out g15
              obtain ⟨rfl, h'⟩ := DNilD.out g16
              exact (hw_safe (Λ := (W_abacistref08_Dft.Λ10 K (W_abacistref08_Dft.l5 K k) (W_abacistref08_Dft.l10 K (W_abacistref08_Dft.l5 K k) k))) mixWabacistref08 _ _ [(0, .slice A4 n4 m4), (7, .int .u64 x7), (8, .slice A5 n5 m5), (9, .int .u64 x8), (10, .int .i64 x9), (11, .int .u64 x10), (12, .int .u64 x11), (13, .int .i64 x12)] [] H (Eq.mp (by kernel_rfl) h') (obs_seq (obs_seq obs_region rfl (obs_cond obs_skip obs_exit)) rfl (obs_seq (obs_block (obs_seq obs_region rfl obs_region)) rfl obs_region))).weaken (EnvLe.cons e0 (EnvLe.cons e7 (EnvLe.cons e8 (EnvLe.cons e9 (EnvLe.cons e10 (EnvLe.cons e11 (EnvLe.cons e12 (EnvLe.cons e13 (EnvLe.nil _))))))))) (Hp.le_refl _))))) rfl (obs_seq obs_region rfl obs_region))))) rfl obs_region))).weaken (EnvLe.cons e0 (EnvLe.cons e7 (EnvLe.cons e8 (EnvLe.cons e9 (EnvLe.cons e10 (EnvLe.nil _)))))) (Hp.le_refl _))))) rfl (obs_seq obs_region rfl obs_ret)))))))

-- abacistref08.Root
def W_abacistref08_Root.l6 (K : Value → Hp → Prop) : Nat → Int → Int → Int → Int → Hp → Prop
  | 0, _, _, _, _, _ => False
  | k + 1, x4, x5, x6, x7, H =>
    let R6 := W_abacistref08_Root.l6 K k
    BIf (decide (x7 < x4)) (R6 x4 x5 (IntKind.u64.wrap ((2 : Int) * x6)) (IntKind.i64.wrap (x7 + (1 : Int))) H) (HCalls Tryz.prog 33 #[.int .u64 x5, .int .u64 (IntKind.u64.wrap (x6 - (1 : Int)))] H fun v2 H2 => DI .u64 v2 fun x8 => K (.int .u64 x8) H2)
def W_abacistref08_Root (x1 : Int) (x2 : Int) (H : Hp) (K : Value → Hp → Prop) : Prop :=
  HCalls Tryz.prog 54 #[.int .i64 x1] H fun v1 H1 => DI .u64 v1 fun x3 => BIf (x2 == (0 : Int)) (K (.int .u64 x3) H1) ((∃ k, W_abacistref08_Root.l6 K k x1 x3 (1 : Int) (0 : Int) H1))
def W_abacistref08_Root.l6.L (K : Value → Hp → Prop) (k : Nat) : Mid := fun E D H =>
  DG (E.get? 0) fun w0 => DI .i64 w0 fun x4 => DG (E.get? 5) fun w5 => DI .u64 w5 fun x5 => DG (E.get? 6) fun w6 => DI .u64 w6 fun x6 => DG (E.get? 7) fun w7 => DI .i64 w7 fun x7 => DNilD D (W_abacistref08_Root.l6 K k x4 x5 x6 x7 H)
def W_abacistref08_Root.Λ6 (_ : Value → Hp → Prop) (_R6 : Int → Int → Int → Int → Hp → Prop) : Cuts := Cuts.none (fun _ => none)
def W_abacistref08_Root.Λ (K : Value → Hp → Prop) : Cuts := ⟨fun i => none, fun i => match Nat.beq i 6 with | true => some (fun E D H => ∃ k, W_abacistref08_Root.l6.L K k E D H) | false => none, (fun _ => none)⟩
theorem W_abacistref08_Root.ok (x1 : Int) (x2 : Int) (H : Hp) (K : Value → Hp → Prop) (h : W_abacistref08_Root x1 x2 H K) : HCalls Tryz.prog 34 #[.int .i64 x1, .int .i64 x2] H K :=
  hcalls Tryz.func34 rfl (Nat.le_of_ble_eq_true rfl) (hw_safe (Λ := (W_abacistref08_Root.Λ K)) mixWabacistref08 _ _ _ _ _ (Eq.mp (by kernel_rfl) h) (obs_seq obs_region rfl (obs_seq obs_region rfl (obs_seq (obs_seq obs_region rfl (obs_cond (obs_seq obs_region rfl obs_ret) obs_skip)) rfl (obs_seq obs_region rfl (obs_seq (obs_seq obs_region rfl (obs_block (obs_loop rfl (fun E D H h => by
      refine Safe.loop' (W_abacistref08_Root.l6.L K) (fun E D H h => ?_) (fun k E D H h => ?_) E D H h
      · obtain ⟨w0, e0, g1⟩ := DG.out h; obtain ⟨x4, rfl, g2⟩ := DI.out g1; obtain ⟨w5, e5, g3⟩ := DG.out g2; obtain ⟨x5, rfl, g4⟩ := DI.out g3; obtain ⟨w6, e6, g5⟩ := DG.out g4; obtain ⟨x6, rfl, g6⟩ := DI.out g5; obtain ⟨w7, e7, g7⟩ := DG.out g6; obtain ⟨x7, rfl, g8⟩ := DI.out g7; obtain ⟨rfl, h'⟩ := DNilD.out g8; exact h'
      · obtain ⟨w0, e0, g1⟩ := DG.out h
        obtain ⟨x4, rfl, g2⟩ := DI.out g1
        obtain ⟨w5, e5, g3⟩ := DG.out g2
        obtain ⟨x5, rfl, g4⟩ := DI.out g3
        obtain ⟨w6, e6, g5⟩ := DG.out g4
        obtain ⟨x6, rfl, g6⟩ := DI.out g5
        obtain ⟨w7, e7, g7⟩ := DG.out g6
        obtain ⟨x7, rfl, g8⟩ := DI.out g7
        obtain ⟨rfl, h'⟩ := DNilD.out g8
        exact (hw_safe (Λ := (W_abacistref08_Root.Λ6 K (W_abacistref08_Root.l6 K k))) mixWabacistref08 _ _ [(0, .int .i64 x4), (5, .int .u64 x5), (6, .int .u64 x6), (7, .int .i64 x7)] [] H (Eq.mp (by kernel_rfl) h') (obs_seq (obs_seq obs_region rfl (obs_cond obs_skip obs_exit)) rfl (obs_seq (obs_block obs_region) rfl obs_region))).weaken (EnvLe.cons e0 (EnvLe.cons e5 (EnvLe.cons e6 (EnvLe.cons e7 (EnvLe.nil _))))) (Hp.le_refl _))))) rfl (obs_seq obs_region rfl obs_ret)))))))

end Go.Proofs.YtbnhfcdagoigkaaGreatDoor.W

end
section
/-! PasH -/
/- The law PassBack. -/
set_option maxRecDepth 100000
set_option linter.unusedSimpArgs false
set_option linter.unusedVariables false
set_option linter.unnecessarySimpa false
set_option linter.unusedSectionVars false
namespace Go.Proofs.YtbnhfcdagoigkaaGreatDoor.Pas
open Go Go.Hw Go.Crc Go.Form Go.Proofs.YtbnhfcdagoigkaaGreatDoor.W Go.Proofs.YtbnhfcdagoigkaaGreatDoor.Shp Go.Proofs.YtbnhfcdagoigkaaGreatDoor.Gol Go.Proofs.YtbnhfcdagoigkaaGreatDoor.Fft Go.Proofs.YtbnhfcdagoigkaaGreatDoor.Ker Go.Proofs.YtbnhfcdagoigkaaGreatDoor.Str Go.Proofs.YtbnhfcdagoigkaaGreatDoor.Dsk Go.Proofs.YtbnhfcdagoigkaaGreatDoor.Are Go.Proofs.YtbnhfcdagoigkaaGreatDoor.Trn

/-! ## The reference's words -/

theorem mulr_val (x : UInt64) (y : Nat) : x.toNat * y % 18446744069414584321 = (zw x * zp y).val := by
  rw [← mul_val]
  show _ = x.toNat % 18446744069414584321 * (y % 18446744069414584321) % 18446744069414584321
  rw [← Nat.mul_mod]

theorem sclL_snoc {l : List UInt64} (z : Zp) {i : Nat} (hil : i < l.length) : wordVals (sclL z (l.take (i + 1))) = wordVals (sclL z (l.take i)) ++ [.int .u64 ((zw l[i] * z).val : Int)] := by
  have e : sclL z (l.take (i + 1)) = sclL z (l.take i) ++ [uw (zw l[i] * z)] := by
    unfold sclL
    rw [List.take_add_one, List.getElem?_eq_getElem hil, List.map_append]; rfl
  rw [e, ← uw_int]
  unfold wordVals
  rw [List.map_append]; rfl
theorem dftL_get (d : Bool) (k : Nat) (l : List UInt64) {i : Nat} (h : i < 2 ^ k) : (dftL d k l)[i]? = some (uw (dft (rtd d k) (2 ^ k) (at' l) i)) := by
  unfold dftL; rw [List.getElem?_map, List.getElem?_range h]; rfl
theorem sclL_get (z : Zp) {l : List UInt64} {i : Nat} {w : UInt64} (h : l[i]? = some w) : (sclL z l)[i]? = some (uw (zw w * z)) := by
  unfold sclL; rw [List.getElem?_map, h]; rfl
theorem at_some {l : List UInt64} {i : Nat} {w : UInt64} (h : l[i]? = some w) : at' l i = zw w := by
  unfold at'; rw [List.getD_eq_getElem?_getD, h]; rfl

section
variable {R : As} {A : Option Addr} {n m : Nat} {l : List UInt64}
end

/-! ## Forward and back -/

theorem rowsU_map {j : J} {d : D} {x : X} {m : Nat} {l : List UInt64} (h : pws d x 0 (m * 2 ^ j.eb) = l) :
    rowsU j d x m = (List.range m).flatMap fun q => rowP j q ((l.drop (q * 2 ^ j.eb)).take (2 ^ j.eb)) := by
  unfold rowsU
  have : ∀ (r : List Nat), (∀ q, q ∈ r → q < m) → r.flatMap (fun q => rowP j q (pws d x (q * 2 ^ j.eb) (2 ^ j.eb))) = r.flatMap fun q => rowP j q ((l.drop (q * 2 ^ j.eb)).take (2 ^ j.eb)) := fun r => by
    induction r with
    | nil => intro _; rfl
    | cons q r ih =>
      intro hq
      have hqb := hq q (by simp)
      have h1 : (q + 1) * 2 ^ j.eb ≤ m * 2 ^ j.eb := Nat.mul_le_mul_right _ (by omega)
      rw [Nat.succ_mul] at h1
      rw [List.flatMap_cons, List.flatMap_cons, ih fun q' h' => hq q' (by simp [h']), ← h, pws_part h1, Nat.zero_add]
  exact this _ fun q hq => List.mem_range.1 hq

/-- A part of rows put side by side. -/
theorem flat_part {f : Nat → List UInt64} {c : Nat} (hf : ∀ q, (f q).length = c) : ∀ (m q : Nat), q < m → (((List.range m).flatMap f).drop (q * c)).take c = f q
  | 0, q, h => by omega
  | m + 1, q, h => by
    have hl : ∀ m, ((List.range m).flatMap f).length = m * c := fun m => by
      induction m with
      | zero => simp
      | succ m ih => rw [List.range_succ, List.flatMap_append, List.length_append, ih, Nat.succ_mul]; simp [hf]
    rw [List.range_succ, List.flatMap_append]
    have hs : List.flatMap f [m] = f m := by simp
    rw [hs]
    by_cases e : q = m
    · subst e
      rw [List.drop_append, List.drop_eq_nil_of_le (by rw [hl]; exact Nat.le_refl _), hl, Nat.sub_self, List.drop_zero, List.nil_append, List.take_of_length_le (by rw [hf]; exact Nat.le_refl _)]
    · have h1 : (q + 1) * c ≤ m * c := Nat.mul_le_mul_right _ (by omega)
      rw [Nat.succ_mul] at h1
      rw [List.drop_append_of_le_length (by rw [hl]; omega), List.take_append_of_le_length (by rw [List.length_drop, hl]; omega)]
      exact flat_part hf m q (by omega)

theorem at_dftL (d : Bool) (k : Nat) (l : List UInt64) {i : Nat} (h : i < 2 ^ k) : at' (dftL d k l) i = dft (rtd d k) (2 ^ k) (at' l) i := by
  rw [at_some (dftL_get d k l h), zw_uw]

/-- A row forward, and back. -/
theorem row_back {ea eb : Nat} (heb : eb ≤ 32) (l : List UInt64) (hl : l.length = 2 ^ eb) (q q' : Nat) :
    rowP ⟨ea, eb, true, -1, uw (Fft.pw half eb)⟩ q (rowP ⟨ea, eb, false, -1, 1⟩ q' l) = l.map fun x => uw (zw x) := by
  have e1 : rowP ⟨ea, eb, false, -1, 1⟩ q' l = dftL false eb l := by
    show sclL (zw 1) (twL ⟨ea, eb, false, -1, 1⟩ q' (dftL false eb l)) = _
    have : twL ⟨ea, eb, false, -1, 1⟩ q' (dftL false eb l) = dftL false eb l := rfl
    rw [this]
    unfold sclL dftL
    rw [List.map_map]
    apply List.map_congr_left
    intro i _
    show uw (zw (uw _) * zw 1) = uw _
    rw [zw_uw]
    have : zw 1 = 1 := rfl
    rw [this]
    congr 1
    grind
  rw [e1]
  show sclL (zw (uw (Fft.pw half eb))) (twL ⟨ea, eb, true, -1, uw (Fft.pw half eb)⟩ q (dftL true eb (dftL false eb l))) = _
  have : twL ⟨ea, eb, true, -1, uw (Fft.pw half eb)⟩ q (dftL true eb (dftL false eb l)) = dftL true eb (dftL false eb l) := rfl
  rw [this, zw_uw]
  apply List.ext_getElem?
  intro i
  by_cases h1 : i < 2 ^ eb
  · rw [sclL_get _ (dftL_get true eb (dftL false eb l) h1), List.getElem?_map, List.getElem?_eq_getElem (by omega)]
    show some _ = some _
    congr 2
    rw [zw_uw, dft_congr (l' := dft (rtd false eb) (2 ^ eb) (at' l)) (fun i hi => at_dftL false eb l hi) i]
    have hb := dft_back (k := eb) (w := rtd false eb) (v := rtd true eb) (by
        rcases Nat.eq_zero_or_pos eb with h | h
        · exact .inl h
        · exact .inr (rtd_neg false heb h)) (by
        rcases Nat.eq_zero_or_pos eb with h | h
        · exact .inl h
        · exact .inr (rtd_neg true heb h)) (rtd_inv false heb) (at' l) h1
    rw [hb, nn_zp, zp_two, at_get (by omega)]
    have hh : Fft.pw half eb * Fft.pw 2 eb = 1 := by rw [← mul_pw, half_2, pw_one]
    grind
  · rw [List.getElem?_eq_none (by rw [sclL_len, dftL_len]; omega), List.getElem?_eq_none (by rw [List.length_map]; omega)]

theorem flat_map {ea eb : Nat} (l : List UInt64) (g : List UInt64 → List UInt64) (hg : ∀ r : List UInt64, g r = r.map fun x => uw (zw x)) (hl : l.length = 2 ^ ea * 2 ^ eb) :
    ((List.range (2 ^ ea)).flatMap fun q => g ((l.drop (q * 2 ^ eb)).take (2 ^ eb))) = l.map fun x => uw (zw x) := by
  have key : ∀ (m : Nat), m ≤ 2 ^ ea → ((List.range m).flatMap fun q => g ((l.drop (q * 2 ^ eb)).take (2 ^ eb))) = (l.take (m * 2 ^ eb)).map fun x => uw (zw x) := fun m => by
    induction m with
    | zero => intro _; simp
    | succ m ih =>
      intro hm
      rw [List.range_succ, List.flatMap_append, ih (by omega), Nat.succ_mul, List.take_add, List.map_append]
      simp [hg]
  rw [key _ (Nat.le_refl _), List.take_of_length_le (by omega)]

/-- Rows forward, and back. -/
theorem rows_back {ea eb : Nat} (hab : ea + eb ≤ 32) {d d1 : D} {x y : X} {l : List UInt64} (hl : l.length = 2 ^ ea * 2 ^ eb) (h0 : pws d x 0 (2 ^ ea * 2 ^ eb) = l) (h1 : pws d1 y 0 (2 ^ ea * 2 ^ eb) = rowsU ⟨ea, eb, false, -1, 1⟩ d x (2 ^ ea)) :
    rowsU ⟨ea, eb, true, -1, uw (Fft.pw half eb)⟩ d1 y (2 ^ ea) = l.map fun x => uw (zw x) := by
  rw [rowsU_map (j := ⟨ea, eb, true, -1, uw (Fft.pw half eb)⟩) h1, rowsU_map (j := ⟨ea, eb, false, -1, 1⟩) h0]
  rw [← flat_map (ea := ea) (eb := eb) l (fun r => r.map fun x => uw (zw x)) (fun _ => rfl) hl]
  have key : ∀ (r : List Nat), (∀ q, q ∈ r → q < 2 ^ ea) → (r.flatMap fun q => rowP ⟨ea, eb, true, -1, uw (Fft.pw half eb)⟩ q ((((List.range (2 ^ ea)).flatMap fun q => rowP ⟨ea, eb, false, -1, 1⟩ q ((l.drop (q * 2 ^ eb)).take (2 ^ eb))).drop (q * 2 ^ eb)).take (2 ^ eb))) = r.flatMap fun q => ((l.drop (q * 2 ^ eb)).take (2 ^ eb)).map fun x => uw (zw x) := fun r => by
    induction r with
    | nil => intro _; rfl
    | cons q r ih =>
      intro hq
      have hqb := hq q (by simp)
      have h2 : (q + 1) * 2 ^ eb ≤ 2 ^ ea * 2 ^ eb := Nat.mul_le_mul_right _ (by omega)
      rw [Nat.succ_mul] at h2
      rw [List.flatMap_cons, List.flatMap_cons, ih fun q' h' => hq q' (by simp [h']), flat_part (f := fun q => rowP ⟨ea, eb, false, -1, 1⟩ q ((l.drop (q * 2 ^ eb)).take (2 ^ eb))) (c := 2 ^ eb) (fun q => rowP_len _ _ _) (2 ^ ea) q hqb, row_back (by omega) _ (by rw [List.length_take, List.length_drop]; omega)]
  exact key _ fun q hq => List.mem_range.1 hq

end Go.Proofs.YtbnhfcdagoigkaaGreatDoor.Pas

end
section
/-! PasJ -/
/- The reference's transform, and what law 23 wants. -/
set_option maxRecDepth 100000
set_option linter.unusedSimpArgs false
set_option linter.unusedVariables false
set_option linter.unnecessarySimpa false
set_option linter.unusedSectionVars false
namespace Go.Proofs.YtbnhfcdagoigkaaGreatDoor.Pas
open Go Go.Hw Go.Crc Go.Form Go.Proofs.YtbnhfcdagoigkaaGreatDoor.W Go.Proofs.YtbnhfcdagoigkaaGreatDoor.Shp Go.Proofs.YtbnhfcdagoigkaaGreatDoor.Gol Go.Proofs.YtbnhfcdagoigkaaGreatDoor.Fft Go.Proofs.YtbnhfcdagoigkaaGreatDoor.Ker Go.Proofs.YtbnhfcdagoigkaaGreatDoor.Str Go.Proofs.YtbnhfcdagoigkaaGreatDoor.Dsk Go.Proofs.YtbnhfcdagoigkaaGreatDoor.Are Go.Proofs.YtbnhfcdagoigkaaGreatDoor.Trn

theorem rRoot3_loop {k : Nat} (hk : k ≤ 32) (H : Hp) : ∀ (t i : Nat), i + t = k → W_abacistref03_Root.l3 (RetE (.int .u64 ((rt k).val : Int)) H) (t + 1) (k : Int) ((18446744069414584320 / 2 ^ i : Nat) : Int) (i : Int) H
  | 0, i, hi => by
    obtain rfl : i = k := by omega
    unfold W_abacistref03_Root.l3
    refine BIf_dneg (by omega) ?_
    have hlt : 18446744069414584320 / 2 ^ i < 2 ^ 64 := Nat.lt_of_le_of_lt (Nat.div_le_self _ _) (by decide)
    refine HCalls.use (rPow_ok (a := 7) hlt H) ?_
    rw [pow_val]
    simp only [DI_int', DB_bool, DS_string, DP_pointer, DSl_slice, DM_map, DA_agg, DTup_tuple, DCons_cons, DNil_nil, NN_some, BIf_true, BIf_false, BIf_same, List.toList_toArray, Bool.not_true, Bool.not_false]
    exact RetE.mk _ _
  | t + 1, i, hi => by
    unfold W_abacistref03_Root.l3
    refine BIf_dpos (by omega) ⟨by decide, by simp, ?_⟩
    have hlt : 18446744069414584320 / 2 ^ i ≤ 18446744069414584320 := Nat.div_le_self _ _
    have e : IntKind.u64.wrap (Int.tdiv ((18446744069414584320 / 2 ^ i : Nat) : Int) 2) = ((18446744069414584320 / 2 ^ (i + 1) : Nat) : Int) := by
      rw [show Int.tdiv ((18446744069414584320 / 2 ^ i : Nat) : Int) 2 = ((18446744069414584320 / 2 ^ i / 2 : Nat) : Int) from rfl, u64n (by omega), Nat.div_div_eq_div_mul, Nat.pow_succ]
    rw [e, i64w (x := (i : Int) + 1) (by omega) (by omega), show (i : Int) + 1 = ((i + 1 : Nat) : Int) by omega]
    exact rRoot3_loop hk H t (i + 1) (by omega)
theorem rRoot3_ok {k : Nat} (hk : k ≤ 32) (H : Hp) : HCalls Tryz.prog 54 #[.int .i64 (k : Int)] H (RetE (.int .u64 ((rt k).val : Int)) H) := by
  apply W_abacistref03_Root.ok
  unfold W_abacistref03_Root
  exact ⟨k + 1, rRoot3_loop hk H k 0 (by omega)⟩

theorem rRoot8_loop {k : Nat} (hk : k ≤ 32) (H : Hp) : ∀ (t i : Nat), i + t = k → W_abacistref08_Root.l6 (RetE (.int .u64 ((rtd true k).val : Int)) H) (t + 1) (k : Int) ((rt k).val : Int) ((2 ^ i : Nat) : Int) (i : Int) H
  | 0, i, hi => by
    obtain rfl : i = k := by omega
    have h32 := pow_le hk
    have h1 := pow_pos i
    unfold W_abacistref08_Root.l6
    refine BIf_dneg (by omega) ?_
    rw [u64w (by omega) (by omega), show ((2 ^ i : Nat) : Int) - 1 = ((2 ^ i - 1 : Nat) : Int) by omega]
    refine HCalls.use (rPow_ok (a := (rt i).val) (n := 2 ^ i - 1) (by omega) H) ?_
    rw [pow_val, zp_of_val]
    simp only [DI_int', DB_bool, DS_string, DP_pointer, DSl_slice, DM_map, DA_agg, DTup_tuple, DCons_cons, DNil_nil, NN_some, BIf_true, BIf_false, BIf_same, List.toList_toArray, Bool.not_true, Bool.not_false]
    exact RetE.mk _ _
  | t + 1, i, hi => by
    have h32 := pow_le (show i ≤ 32 by omega)
    have h1 := pow_pos i
    unfold W_abacistref08_Root.l6
    refine BIf_dpos (by omega) ?_
    rw [u64w (by omega) (by omega), show (2 : Int) * ((2 ^ i : Nat) : Int) = ((2 ^ (i + 1) : Nat) : Int) by rw [Nat.pow_succ]; omega, i64w (x := (i : Int) + 1) (by omega) (by omega), show (i : Int) + 1 = ((i + 1 : Nat) : Int) by omega]
    exact rRoot8_loop hk H t (i + 1) (by omega)
theorem rRoot8_ok {k : Nat} (hk : k ≤ 32) (d : Bool) (H : Hp) : HCalls Tryz.prog 34 #[.int .i64 (k : Int), .int .i64 (if d = true then 1 else 0)] H (RetE (.int .u64 ((rtd d k).val : Int)) H) := by
  apply W_abacistref08_Root.ok
  unfold W_abacistref08_Root
  refine HCalls.use (rRoot3_ok hk H) ?_
  simp only [DI_int', DB_bool, DS_string, DP_pointer, DSl_slice, DM_map, DA_agg, DTup_tuple, DCons_cons, DNil_nil, NN_some, BIf_true, BIf_false, BIf_same, List.toList_toArray, Bool.not_true, Bool.not_false]
  cases d with
  | false => exact BIf_beqp rfl (RetE.mk _ _)
  | true =>
    refine BIf_beqn (by decide) ⟨k + 1, ?_⟩
    exact rRoot8_loop hk H k 0 (by omega)

section
variable {R : As} {A : Option Addr} {n m k : Nat} {l : List UInt64} {L : List As}

theorem rDft_in (K : Value → Hp → Prop) (R5 : Option Addr → Nat → Nat → Int → Option Addr → Nat → Nat → Int → Int → Hp → Prop) (w z : Zp) {xj : Int} {A' : Option Addr} {n' m' : Nat} {vs : List Value} (hR : ∀ H, R H → Cells H A (wordVals l)) (hl : l.length = n) (hn : n ≤ 1048576) (hn' : n' ≤ 1048576)
    (hK : ∀ A2 m2 H, Sep (Own 25 1 A2 (n' + 1) m2 (vs ++ [.int .u64 ((sm (fun i => at' l i * Fft.pw z i) n).val : Int)]) :: R :: L) H → R5 A n m (w.val : Int) A2 (n' + 1) m2 ((z * w).val : Int) (IntKind.i64.wrap (xj + 1)) H) :
    ∀ (t i : Nat) (H : Hp), i + t = n → Sep (Own 25 1 A' n' m' vs :: R :: L) H →
      W_abacistref08_Dft.l10 K R5 (t + 1) A n m (w.val : Int) A' n' m' (z.val : Int) xj ((sm (fun i => at' l i * Fft.pw z i) i).val : Int) ((Fft.pw z i).val : Int) (i : Int) H
  | 0, i, H, hi, hs => by
    obtain rfl : i = n := by omega
    unfold W_abacistref08_Dft.l10
    refine BIf_dneg (by omega) ?_
    refine hs.app1 0 rfl Ker.cell_u64 (by omega) rfl (by omega) (by omega) fun A2 m2 H hs => ?_
    simp only [DI_int', DB_bool, DS_string, DP_pointer, DSl_slice, DM_map, DA_agg, DTup_tuple, DCons_cons, DNil_nil, NN_some, BIf_true, BIf_false, BIf_same, List.toList_toArray, Bool.not_true, Bool.not_false]
    refine HCalls.use (rMul_ok (a := z.val) (val_lt w) H) ?_
    rw [mul_val]
    simp only [DI_int', DB_bool, DS_string, DP_pointer, DSl_slice, DM_map, DA_agg, DTup_tuple, DCons_cons, DNil_nil, NN_some, BIf_true, BIf_false, BIf_same, List.toList_toArray, Bool.not_true, Bool.not_false]
    exact hK A2 m2 H hs
  | t + 1, i, H, hi, hs => by
    have hc : Cells H A (wordVals l) := by
      obtain ⟨H1, h1, hle⟩ := hs.see 1 rfl
      exact (hR H1 h1).le hle
    unfold W_abacistref08_Dft.l10
    refine BIf_dpos (by omega) ?_
    have hil : i < l.length := by omega
    have hg : (wordVals l)[i]? = some (.int .u64 ((l[i]).toNat : Int)) := by
      rw [wordVals_get, List.getElem?_eq_getElem hil]; rfl
    refine hc.read hg rfl (by rw [wordVals_length]; omega) ?_
    simp only [DI_int', DB_bool, DS_string, DP_pointer, DSl_slice, DM_map, DA_agg, DTup_tuple, DCons_cons, DNil_nil, NN_some, BIf_true, BIf_false, BIf_same, List.toList_toArray, Bool.not_true, Bool.not_false]
    refine HCalls.use (rMul_ok (a := (l[i]).toNat) (val_lt _) H) ?_
    rw [mulw_val, ← at_get hil]
    simp only [DI_int', DB_bool, DS_string, DP_pointer, DSl_slice, DM_map, DA_agg, DTup_tuple, DCons_cons, DNil_nil, NN_some, BIf_true, BIf_false, BIf_same, List.toList_toArray, Bool.not_true, Bool.not_false]
    refine HCalls.use (rAdd_ok H) ?_
    rw [show ((sm (fun i => at' l i * Fft.pw z i) i).val + (at' l i * Fft.pw z i).val) % 18446744069414584321 = (sm (fun i => at' l i * Fft.pw z i) (i + 1)).val from (Fin.val_add _ _).symm]
    simp only [DI_int', DB_bool, DS_string, DP_pointer, DSl_slice, DM_map, DA_agg, DTup_tuple, DCons_cons, DNil_nil, NN_some, BIf_true, BIf_false, BIf_same, List.toList_toArray, Bool.not_true, Bool.not_false]
    refine HCalls.use (rMul_ok (a := (Fft.pw z i).val) (val_lt z) H) ?_
    rw [mul_val]
    simp only [DI_int', DB_bool, DS_string, DP_pointer, DSl_slice, DM_map, DA_agg, DTup_tuple, DCons_cons, DNil_nil, NN_some, BIf_true, BIf_false, BIf_same, List.toList_toArray, Bool.not_true, Bool.not_false]
    rw [i64w (x := (i : Int) + 1) (by omega) (by omega), show (i : Int) + 1 = ((i + 1 : Nat) : Int) by omega]
    exact rDft_in K R5 w z hR hl hn hn' hK t (i + 1) H (by omega) hs

/-- The first sums of a transform. -/
def dftN (w : Zp) (n : Nat) (l : List UInt64) (i : Nat) : List UInt64 := (List.range i).map fun j => uw (dft w n (at' l) j)
theorem dftN_succ (w : Zp) (n : Nat) (l : List UInt64) (i : Nat) : wordVals (dftN w n l (i + 1)) = wordVals (dftN w n l i) ++ [.int .u64 ((sm (fun a => at' l a * Fft.pw (Fft.pw w i) a) n).val : Int)] := by
  unfold dftN wordVals
  rw [List.range_succ, List.map_append, List.map_append]
  congr 1
  show [Value.int .u64 ((uw (dft w n (at' l) i)).toNat : Int)] = _
  rw [uw_int]
  have : dft w n (at' l) i = sm (fun a => at' l a * Fft.pw (Fft.pw w i) a) n := sm_congr n fun a _ => by rw [← pw_mul, Nat.mul_comm a i]
  rw [this]

theorem rDft_loop (K : Value → Hp → Prop) (w : Zp) (hR : ∀ H, R H → Cells H A (wordVals l)) (hl : l.length = n) (hn : n ≤ 1048576)
    (hK : ∀ A2 m2 H, Sep (Own 25 1 A2 n m2 (wordVals (dftN w n l n)) :: R :: L) H → K (.slice A2 n m2) H) :
    ∀ (t j : Nat) (A' : Option Addr) (m' : Nat) (H : Hp), j + t = n → Sep (Own 25 1 A' j m' (wordVals (dftN w n l j)) :: R :: L) H →
      W_abacistref08_Dft.l5 K (t + 1) A n m (w.val : Int) A' j m' ((Fft.pw w j).val : Int) (j : Int) H
  | 0, j, A', m', H, hj, hs => by
    obtain rfl : j = n := by omega
    unfold W_abacistref08_Dft.l5
    exact BIf_dneg (by omega) (hK A' m' H hs)
  | t + 1, j, A', m', H, hj, hs => by
    unfold W_abacistref08_Dft.l5
    refine BIf_dpos (by omega) ⟨n + 1, ?_⟩
    refine rDft_in K _ w (Fft.pw w j) hR hl hn (by omega) (fun A2 m2 H hs => ?_) n 0 H (by omega) hs
    rw [i64w (x := (j : Int) + 1) (by omega) (by omega), show (j : Int) + 1 = ((j + 1 : Nat) : Int) by omega]
    refine rDft_loop K w hR hl hn hK t (j + 1) A2 m2 H (by omega) ?_
    rw [dftN_succ]; exact hs

theorem rDft_tr (hR : ∀ H, R H → Cells H A (wordVals l)) (hl : l.length = n) (hn : n = 2 ^ k) (hk : k ≤ 20) (d : Bool) :
    Tr Tryz.prog 31 #[.slice A n m, .int .i64 (k : Int), .int .i64 (if d = true then 1 else 0)] [R] fun v M => ∃ A2 m2, v = .slice A2 n m2 ∧ M = [Own 25 1 A2 n m2 (wordVals (dftL d k l)), R] := fun H hs => by
  have h20 := pow_le hk
  apply W_abacistref08_Dft.ok
  unfold W_abacistref08_Dft
  refine HCalls.use (rRoot8_ok (by omega) d H) ?_
  simp only [DI_int', DB_bool, DS_string, DP_pointer, DSl_slice, DM_map, DA_agg, DTup_tuple, DCons_cons, DNil_nil, NN_some, BIf_true, BIf_false, BIf_same, List.toList_toArray, Bool.not_true, Bool.not_false]
  have e0 : Sep [Own 25 1 none 0 0 (wordVals (dftN (rtd d k) n l 0)), R] H :=
    ⟨fun _ => none, H, fun _ _ h => (nomatch h), Hp.le_refl _, fun _ => .inl rfl, Own.none _ _ _, hs⟩
  refine ⟨n + 1, ?_⟩
  refine rDft_loop (L := []) _ (rtd d k) hR hl (by omega) (fun A2 m2 H hs => ⟨_, ⟨A2, m2, rfl, rfl⟩, ?_⟩) n 0 none 0 H (by omega) e0
  unfold dftL
  rw [← hn]; exact hs
end

/-- A word of a row behind a pass. -/
def wantZ (j : J) (q : Nat) (l : List UInt64) (c : Nat) : Zp := dft (rtd j.d j.eb) (2 ^ j.eb) (at' l) c * zw j.sh * (if 0 ≤ j.tw then Fft.pw (rtd j.d j.tw.toNat) (q * c) else 1)
theorem rowP_want (j : J) (q : Nat) (l : List UInt64) : rowP j q l = (List.range (2 ^ j.eb)).map fun c => uw (wantZ j q l c) := by
  apply List.ext_getElem?
  intro c
  rw [List.getElem?_map]
  by_cases hc : c < 2 ^ j.eb
  · rw [List.getElem?_range hc]
    have h1 := dftL_get j.d j.eb l hc
    have h2 : (twL j q (dftL j.d j.eb l))[c]? = some (uw (dft (rtd j.d j.eb) (2 ^ j.eb) (at' l) c * (if 0 ≤ j.tw then Fft.pw (rtd j.d j.tw.toNat) (q * c) else 1))) := by
      unfold twL
      by_cases ht : 0 ≤ j.tw
      · rw [if_pos ht, if_pos ht]
        unfold tileL tileN
        rw [List.getElem?_map, dftL_len, List.getElem?_range hc]
        show some (uw (at' (dftL j.d j.eb l) c * Fft.pw (Fft.pw (rtd j.d j.tw.toNat) q) c)) = some _
        rw [at_some h1, zw_uw, ← pw_mul]
      · rw [if_neg ht, if_neg ht, h1]
        congr 2
        grind
    unfold rowP
    rw [sclL_get _ h2, zw_uw]
    show some _ = some _
    congr 2
    unfold wantZ
    grind
  · rw [List.getElem?_eq_none (by rw [rowP_len]; omega), List.getElem?_eq_none (by simp; omega)]; rfl

section
variable {R : As} {A : Option Addr} {n m b1 : Nat} {l : List UInt64} {j : J}

theorem want_in (K : Value → Hp → Prop) (R4 : Option Addr → Nat → Nat → Addr → Option Addr → Nat → Nat → Int → Int → Hp → Prop) {x14 : Int} {A7 : Option Addr} {m7 q : Nat} {pre row : List UInt64} {seg : List UInt64} (hrow : row = dftL j.d j.eb seg) (heb : j.eb ≤ 20) (htw : j.tw ≤ 32) (hq : q ≤ 4294967296) (hqc : q * 2 ^ j.eb ≤ 4294967296) (hpre : pre.length ≤ 4294967296)
    (hK : ∀ A2 m2 H, Sep [Own 25 1 A2 (pre.length + 2 ^ j.eb) m2 (wordVals (pre ++ rowP j q seg)), pts b1 (.obj (.cells j.a 27)), R] H → R4 A n m ⟨b1, 0, none⟩ A2 (pre.length + 2 ^ j.eb) m2 x14 (IntKind.i64.wrap ((q : Int) + 1)) H) :
    ∀ (t c : Nat) (A' : Option Addr) (m' : Nat) (H : Hp), c + t = 2 ^ j.eb → Sep [Own 25 1 A' (pre.length + c) m' (wordVals (pre ++ (rowP j q seg).take c)), pts b1 (.obj (.cells j.a 27)), R, Own 25 1 A7 (2 ^ j.eb) m7 (wordVals row)] H →
      W_abacistlaw23_want.l8 K R4 (t + 1) A n m ⟨b1, 0, none⟩ A' (pre.length + c) m' x14 (q : Int) A7 (2 ^ j.eb) m7 (c : Int) H
  | 0, c, A', m', H, hc, hs => by
    have hce : c = 2 ^ j.eb := by omega
    unfold W_abacistlaw23_want.l8
    refine BIf_dneg (by omega) ?_
    rw [hce] at hs ⊢
    refine hK A' m' H ?_
    rw [List.take_of_length_le (by rw [rowP_len]; exact Nat.le_refl _)] at hs
    exact hs.re [0, 1, 2] rfl
  | t + 1, c, A', m', H, hc, hs => by
    have h20 := pow_le heb
    have hcl : c < 2 ^ j.eb := by omega
    unfold W_abacistlaw23_want.l8
    refine BIf_dpos (by omega) ?_
    have hcells := own_cells (hs.own 3 rfl)
    have hg : (wordVals row)[c]? = some (.int .u64 ((dft (rtd j.d j.eb) (2 ^ j.eb) (at' seg) c).val : Int)) := by
      rw [wordVals_get, hrow, dftL_get j.d j.eb seg hcl, ← uw_int]; rfl
    refine hcells.read hg rfl (by rw [wordVals_length, hrow, dftL_len]; exact Nat.le_refl _) ?_
    simp only [DI_int', DB_bool, DS_string, DP_pointer, DSl_slice, DM_map, DA_agg, DTup_tuple, DCons_cons, DNil_nil, NN_some, BIf_true, BIf_false, BIf_same, List.toList_toArray, Bool.not_true, Bool.not_false]
    refine hs.ldf 1 rfl rfl ?_
    simp only [DI_int', DB_bool, DS_string, DP_pointer, DSl_slice, DM_map, DA_agg, DTup_tuple, DCons_cons, DNil_nil, NN_some, BIf_true, BIf_false, BIf_same, List.toList_toArray, Bool.not_true, Bool.not_false]
    refine QCall.use (rMul_ok (a := (dft (rtd j.d j.eb) (2 ^ j.eb) (at' seg) c).val) (b := j.sh.toNat) j.sh.toNat_lt H) ?_
    have e1 : (dft (rtd j.d j.eb) (2 ^ j.eb) (at' seg) c).val * j.sh.toNat % 18446744069414584321 = (dft (rtd j.d j.eb) (2 ^ j.eb) (at' seg) c * zw j.sh).val := by
      rw [← mul_val]
      show _ = _ * (j.sh.toNat % 18446744069414584321) % 18446744069414584321
      rw [mod_mul_r]
    rw [e1]
    simp only [DI_int', DB_bool, DS_string, DP_pointer, DSl_slice, DM_map, DA_agg, DTup_tuple, DCons_cons, DNil_nil, NN_some, BIf_true, BIf_false, BIf_same, List.toList_toArray, Bool.not_true, Bool.not_false]
    have hgr : (rowP j q seg)[c]? = some (uw (wantZ j q seg c)) := by
      rw [rowP_want, List.getElem?_map, List.getElem?_range hcl]; rfl
    have next : ∀ {A2 : Option Addr} {m2 : Nat} {H : Hp}, Sep [Own 25 1 A2 (pre.length + c + 1) m2 (wordVals (pre ++ (rowP j q seg).take c) ++ [.int .u64 ((wantZ j q seg c).val : Int)]), pts b1 (.obj (.cells j.a 27)), R, Own 25 1 A7 (2 ^ j.eb) m7 (wordVals row)] H →
        W_abacistlaw23_want.l8 K R4 (t + 1) A n m ⟨b1, 0, none⟩ A2 (pre.length + c + 1) m2 x14 (q : Int) A7 (2 ^ j.eb) m7 (IntKind.i64.wrap ((c : Int) + 1)) H := fun {A2 m2 H} hs => by
      rw [i64w (x := (c : Int) + 1) (by omega) (by omega), show (c : Int) + 1 = ((c + 1 : Nat) : Int) by omega]
      refine want_in K R4 hrow heb htw hq hqc hpre hK t (c + 1) A2 m2 H (by omega) ?_
      have e2 : wordVals (pre ++ (rowP j q seg).take (c + 1)) = wordVals (pre ++ (rowP j q seg).take c) ++ [.int .u64 ((wantZ j q seg c).val : Int)] := by
        rw [List.take_add_one, hgr, ← uw_int, ← List.append_assoc]
        unfold wordVals
        rw [List.map_append]; rfl
      rw [e2]; exact hs
    refine hs.ldf 1 rfl rfl ?_
    simp only [DI_int', DB_bool, DS_string, DP_pointer, DSl_slice, DM_map, DA_agg, DTup_tuple, DCons_cons, DNil_nil, NN_some, BIf_true, BIf_false, BIf_same, List.toList_toArray, Bool.not_true, Bool.not_false]
    by_cases ht : 0 ≤ j.tw
    · refine BIf_dpos ht ?_
      obtain ⟨tw, htwe⟩ := Int.eq_ofNat_of_zero_le ht
      refine hs.ldf 1 rfl rfl ?_
      simp only [DI_int', DB_bool, DS_string, DP_pointer, DSl_slice, DM_map, DA_agg, DTup_tuple, DCons_cons, DNil_nil, NN_some, BIf_true, BIf_false, BIf_same, List.toList_toArray, Bool.not_true, Bool.not_false]
      refine hs.ldf 1 rfl rfl ?_
      simp only [DI_int', DB_bool, DS_string, DP_pointer, DSl_slice, DM_map, DA_agg, DTup_tuple, DCons_cons, DNil_nil, NN_some, BIf_true, BIf_false, BIf_same, List.toList_toArray, Bool.not_true, Bool.not_false]
      rw [htwe]
      refine HCalls.use (rRoot8_ok (k := tw) (by omega) j.d H) ?_
      simp only [DI_int', DB_bool, DS_string, DP_pointer, DSl_slice, DM_map, DA_agg, DTup_tuple, DCons_cons, DNil_nil, NN_some, BIf_true, BIf_false, BIf_same, List.toList_toArray, Bool.not_true, Bool.not_false]
      have hqcl : q * c ≤ 4294967296 := Nat.le_trans (Nat.mul_le_mul_left _ (by omega)) hqc
      rw [← Int.natCast_mul, i64n (by omega), u64n (by omega)]
      refine HCalls.use (rPow_ok (a := (rtd j.d tw).val) (n := q * c) (by omega) H) ?_
      rw [pow_val, zp_of_val]
      simp only [DI_int', DB_bool, DS_string, DP_pointer, DSl_slice, DM_map, DA_agg, DTup_tuple, DCons_cons, DNil_nil, NN_some, BIf_true, BIf_false, BIf_same, List.toList_toArray, Bool.not_true, Bool.not_false]
      refine HCalls.use (rMul_ok (a := (dft (rtd j.d j.eb) (2 ^ j.eb) (at' seg) c * zw j.sh).val) (val_lt _) H) ?_
      rw [mul_val]
      have e3 : dft (rtd j.d j.eb) (2 ^ j.eb) (at' seg) c * zw j.sh * Fft.pw (rtd j.d tw) (q * c) = wantZ j q seg c := by
        unfold wantZ
        rw [if_pos ht, htwe, Int.toNat_natCast]
      rw [e3]
      simp only [DI_int', DB_bool, DS_string, DP_pointer, DSl_slice, DM_map, DA_agg, DTup_tuple, DCons_cons, DNil_nil, NN_some, BIf_true, BIf_false, BIf_same, List.toList_toArray, Bool.not_true, Bool.not_false]
      refine hs.app1 0 rfl Ker.cell_u64 (by omega) rfl (by omega) (by omega) fun A2 m2 H hs => ?_
      simp only [DI_int', DB_bool, DS_string, DP_pointer, DSl_slice, DM_map, DA_agg, DTup_tuple, DCons_cons, DNil_nil, NN_some, BIf_true, BIf_false, BIf_same, List.toList_toArray, Bool.not_true, Bool.not_false]
      exact next hs
    · refine BIf_dneg ht ?_
      have e3 : dft (rtd j.d j.eb) (2 ^ j.eb) (at' seg) c * zw j.sh = wantZ j q seg c := by
        unfold wantZ
        rw [if_neg ht]; grind
      rw [e3]
      refine hs.app1 0 rfl Ker.cell_u64 (by omega) rfl (by omega) (by omega) fun A2 m2 H hs => ?_
      simp only [DI_int', DB_bool, DS_string, DP_pointer, DSl_slice, DM_map, DA_agg, DTup_tuple, DCons_cons, DNil_nil, NN_some, BIf_true, BIf_false, BIf_same, List.toList_toArray, Bool.not_true, Bool.not_false]
      exact next hs

/-- The words behind a pass. -/
def wantL (j : J) (l : List UInt64) (m : Nat) : List UInt64 := (List.range m).flatMap fun q => rowP j q ((l.drop (q * 2 ^ j.eb)).take (2 ^ j.eb))
theorem wantL_succ (j : J) (l : List UInt64) (m : Nat) : wantL j l (m + 1) = wantL j l m ++ rowP j m ((l.drop (m * 2 ^ j.eb)).take (2 ^ j.eb)) := by
  unfold wantL
  rw [List.range_succ, List.flatMap_append]; simp
theorem wantL_len (j : J) (l : List UInt64) : ∀ m, (wantL j l m).length = m * 2 ^ j.eb
  | 0 => by simp [wantL]
  | m + 1 => by rw [wantL_succ, List.length_append, wantL_len j l m, rowP_len, Nat.succ_mul]

theorem want_loop (K : Value → Hp → Prop) (hR : ∀ H, R H → Cells H A (wordVals l)) (hl : l.length = n) (hnw : n = 2 ^ j.ea * 2 ^ j.eb) (hnm : n ≤ m) (hab : j.ea + j.eb ≤ 32) (heb : j.eb ≤ 20) (htw : j.tw ≤ 32)
    (hK : ∀ A2 m2 H, Sep [Own 25 1 A2 n m2 (wordVals (wantL j l (2 ^ j.ea))), pts b1 (.obj (.cells j.a 27)), R] H → K (.slice A2 n m2) H) :
    ∀ (t q : Nat) (A' : Option Addr) (m' : Nat) (H : Hp), q + t = 2 ^ j.ea → Sep [Own 25 1 A' (q * 2 ^ j.eb) m' (wordVals (wantL j l q)), pts b1 (.obj (.cells j.a 27)), R] H →
      W_abacistlaw23_want.l4 K (t + 1) A n m ⟨b1, 0, none⟩ A' (q * 2 ^ j.eb) m' (j.eb : Int) (q : Int) H
  | 0, q, A', m', H, hq, hs => by
    unfold W_abacistlaw23_want.l4
    simp only [Addr.add_zero]
    refine hs.ld 1 rfl rfl ?_
    simp only [DI_int', DB_bool, DS_string, DP_pointer, DSl_slice, DM_map, DA_agg, DTup_tuple, DCons_cons, DNil_nil, NN_some, BIf_true, BIf_false, BIf_same, List.toList_toArray, Bool.not_true, Bool.not_false]
    refine BIf_dneg (by omega) ?_
    rw [show q = 2 ^ j.ea by omega, ← hnw] at hs ⊢
    exact hK A' m' H hs
  | t + 1, q, A', m', H, hq, hs => by
    have hsz := size_le hab
    have h20 := pow_le heb
    have hc1 := pow_pos j.eb
    have h32 := pow_le (show j.ea ≤ 32 by omega)
    have hq1 : (q + 1) * 2 ^ j.eb ≤ 2 ^ j.ea * 2 ^ j.eb := Nat.mul_le_mul_right _ (by omega)
    have hqe : (q + 1) * 2 ^ j.eb = q * 2 ^ j.eb + 2 ^ j.eb := Nat.succ_mul _ _
    unfold W_abacistlaw23_want.l4
    simp only [Addr.add_zero]
    refine hs.ld 1 rfl rfl ?_
    simp only [DI_int', DB_bool, DS_string, DP_pointer, DSl_slice, DM_map, DA_agg, DTup_tuple, DCons_cons, DNil_nil, NN_some, BIf_true, BIf_false, BIf_same, List.toList_toArray, Bool.not_true, Bool.not_false]
    refine BIf_dpos (by omega) ?_
    refine hs.ldf 1 rfl rfl ?_
    simp only [DI_int', DB_bool, DS_string, DP_pointer, DSl_slice, DM_map, DA_agg, DTup_tuple, DCons_cons, DNil_nil, NN_some, BIf_true, BIf_false, BIf_same, List.toList_toArray, Bool.not_true, Bool.not_false]
    refine hs.ldf 1 rfl rfl ?_
    simp only [DI_int', DB_bool, DS_string, DP_pointer, DSl_slice, DM_map, DA_agg, DTup_tuple, DCons_cons, DNil_nil, NN_some, BIf_true, BIf_false, BIf_same, List.toList_toArray, Bool.not_true, Bool.not_false]
    rw [i64w (x := (q : Int) + 1) (by omega) (by omega), show (q : Int) + 1 = ((q + 1 : Nat) : Int) by omega, ← Int.natCast_mul, ← Int.natCast_mul, i64n (n := q * 2 ^ j.eb) (by omega), i64n (n := (q + 1) * 2 ^ j.eb) (by omega)]
    refine ⟨by omega, by omega, by omega, by omega, ?_⟩
    rw [Int.toNat_natCast, Int.toNat_natCast]
    refine hs.ldf 1 rfl rfl ?_
    simp only [DI_int', DB_bool, DS_string, DP_pointer, DSl_slice, DM_map, DA_agg, DTup_tuple, DCons_cons, DNil_nil, NN_some, BIf_true, BIf_false, BIf_same, List.toList_toArray, Bool.not_true, Bool.not_false]
    rw [show (q + 1) * 2 ^ j.eb - q * 2 ^ j.eb = 2 ^ j.eb by omega]
    have hseg : ((l.drop (q * 2 ^ j.eb)).take (2 ^ j.eb)).length = 2 ^ j.eb := by rw [List.length_take, List.length_drop]; omega
    have hR' : ∀ H, R H → Cells H (slA A m (q * 2 ^ j.eb) 1) (wordVals ((l.drop (q * 2 ^ j.eb)).take (2 ^ j.eb))) := fun H h => by
      have h1 := (hR H h).shift (m := m) (l := q * 2 ^ j.eb) (by rw [wordVals_length]; omega)
      have h2 := h1.take (2 ^ j.eb)
      rw [show ((wordVals l).drop (q * 2 ^ j.eb)).take (2 ^ j.eb) = wordVals ((l.drop (q * 2 ^ j.eb)).take (2 ^ j.eb)) by unfold wordVals; rw [List.map_take, List.map_drop]] at h2
      exact h2
    refine (rDft_tr (n := 2 ^ j.eb) (m := m - q * 2 ^ j.eb) (k := j.eb) hR' hseg rfl heb j.d).use hs [2] rfl rfl ?_
    rintro _ _ H ⟨A7, m7, rfl, rfl⟩ hs
    simp only [DI_int', DB_bool, DS_string, DP_pointer, DSl_slice, DM_map, DA_agg, DTup_tuple, DCons_cons, DNil_nil, NN_some, BIf_true, BIf_false, BIf_same, List.toList_toArray, Bool.not_true, Bool.not_false]
    refine ⟨2 ^ j.eb + 1, ?_⟩
    have hwl := wantL_len j l q
    have := want_in (K := K) (R := R) (A := A) (n := n) (m := m) (b1 := b1) (j := j) (R4 := W_abacistlaw23_want.l4 K (t + 1)) (x14 := (j.eb : Int)) (A7 := A7) (m7 := m7) (q := q) (pre := wantL j l q) (seg := (l.drop (q * 2 ^ j.eb)).take (2 ^ j.eb)) rfl heb htw (by omega) (by omega) (by omega) (fun A2 m2 H hs => by
      rw [hwl] at hs ⊢
      rw [i64w (x := (q : Int) + 1) (by omega) (by omega), show (q : Int) + 1 = ((q + 1 : Nat) : Int) by omega]
      rw [← hqe] at hs ⊢
      refine want_loop K hR hl hnw hnm hab heb htw hK t (q + 1) A2 m2 H (by omega) ?_
      rw [wantL_succ]
      exact hs) (2 ^ j.eb) 0 A' m' H (by omega) (by
        rw [hwl, List.take_zero, List.append_nil, Nat.add_zero]
        exact hs.re [2, 3, 1, 0] rfl)
    rw [hwl, Nat.add_zero] at this
    exact this

theorem want_tr (hR : ∀ H, R H → Cells H A (wordVals l)) (hl : l.length = n) (hnw : n = 2 ^ j.ea * 2 ^ j.eb) (hnm : n ≤ m) (hab : j.ea + j.eb ≤ 32) (heb : j.eb ≤ 20) (htw : j.tw ≤ 32) :
    Tr Tryz.prog 11 #[.slice A n m, .agg j.a] [R] fun v M => ∃ A2 m2, v = .slice A2 n m2 ∧ M = [Own 25 1 A2 n m2 (wordVals (wantL j l (2 ^ j.ea))), R] := fun H hs => by
  apply W_abacistlaw23_want.ok
  unfold W_abacistlaw23_want
  refine hs.nw fun b1 H hs => ?_
  have hs : Sep [R, pts b1 (.obj (.cells j.a 27))] H := hs
  refine hs.ldg 1 rfl rfl ?_
  simp only [DI_int', DB_bool, DS_string, DP_pointer, DSl_slice, DM_map, DA_agg, DTup_tuple, DCons_cons, DNil_nil, NN_some, BIf_true, BIf_false, BIf_same, List.toList_toArray, Bool.not_true, Bool.not_false]
  refine HCalls.use (rFits_ok ((2 ^ j.eb : Nat) : Int) H) ?_
  rw [show rfitsN ((2 ^ j.eb : Nat) : Int) = (j.eb : Int) by unfold rfitsN; rw [lg_pow (by omega)]]
  simp only [DI_int', DB_bool, DS_string, DP_pointer, DSl_slice, DM_map, DA_agg, DTup_tuple, DCons_cons, DNil_nil, NN_some, BIf_true, BIf_false, BIf_same, List.toList_toArray, Bool.not_true, Bool.not_false]
  refine ⟨2 ^ j.ea + 1, ?_⟩
  have e0 : Sep [Own 25 1 none (0 * 2 ^ j.eb) 0 (wordVals (wantL j l 0)), pts b1 (.obj (.cells j.a 27)), R] H := by
    rw [Nat.zero_mul]
    exact ⟨fun _ => none, H, fun _ _ h => (nomatch h), Hp.le_refl _, fun _ => .inl rfl, Own.none _ _ _, hs.re [1, 0] rfl⟩
  have := want_loop (b1 := b1) (K := fun v H' => ∃ M, (∃ A2 m2, v = .slice A2 n m2 ∧ M = [Own 25 1 A2 n m2 (wordVals (wantL j l (2 ^ j.ea))), R]) ∧ Sep M H') hR hl hnw hnm hab heb htw (fun A2 m2 H hs => ⟨_, ⟨A2, m2, rfl, rfl⟩, hs.re [0, 2] rfl⟩) (2 ^ j.ea) 0 none 0 H (by omega) e0
  rw [Nat.zero_mul] at this
  exact this
end

theorem wrong_ok (n r c dir tw sh : Int) (hn : 0 ≤ n ∧ n ≤ 4294967296) (H : Hp) : HCalls Tryz.prog 9 #[.int .i64 n, .agg #[.int .i64 r, .int .i64 c, .int .i64 dir, .int .i64 tw, .int .u64 sh]] H (RetE (.int .i64 (checkV r c dir tw n n)) H) := HCalls.ret (by
  apply W_abacistlaw23_wrong.ok
  unfold W_abacistlaw23_wrong
  refine (Sep.start H).nw fun b1 H1 hs => ?_
  have hs : Sep [own H, pts b1 (.obj (.cells #[.int .i64 r, .int .i64 c, .int .i64 dir, .int .i64 tw, .int .u64 sh] 27))] H1 := hs
  have hle := hs.ow 0 rfl
  have out : ∀ {v : Value}, v = .int .i64 (checkV r c dir tw n n) → Ret (.int .i64 (checkV r c dir tw n n)) H v H1 := fun h => ⟨h, hle⟩
  simp only [Addr.add_zero]
  refine hs.lda 1 rfl (show 0 + 2 ≤ 5 by omega) ?_
  refine HCalls.use (rGood_ok r c H1) ?_
  simp only [DI_int', DB_bool, DS_string, DP_pointer, DSl_slice, DM_map, DA_agg, DTup_tuple, DCons_cons, DNil_nil, NN_some, BIf_true, BIf_false, BIf_same, List.toList_toArray, Bool.not_true, Bool.not_false]
  cases hg : goodS r c with
  | false =>
    refine BIf_pos rfl (out ?_)
    unfold checkV
    rw [if_neg (fun h => by have h1 := h.1; rw [hg] at h1; cases h1)]
  | true =>
    refine BIf_neg rfl ?_
    obtain ⟨ea, eb, hre, hce, hab, _, _⟩ := goodS_some hg
    have hsz := size_le hab
    refine hs.ld 1 rfl rfl ?_
    simp only [DI_int', DB_bool, DS_string, DP_pointer, DSl_slice, DM_map, DA_agg, DTup_tuple, DCons_cons, DNil_nil, NN_some, BIf_true, BIf_false, BIf_same, List.toList_toArray, Bool.not_true, Bool.not_false]
    refine hs.ldf 1 rfl rfl ?_
    simp only [DI_int', DB_bool, DS_string, DP_pointer, DSl_slice, DM_map, DA_agg, DTup_tuple, DCons_cons, DNil_nil, NN_some, BIf_true, BIf_false, BIf_same, List.toList_toArray, Bool.not_true, Bool.not_false]
    have hrc : IntKind.i64.wrap (r * c) = r * c := by rw [hre, hce, ← Int.natCast_mul, i64n (by omega)]
    rw [hrc]
    by_cases h1 : n = r * c
    case neg =>
      refine BIf_bnep (fun e => h1 e.symm) (out ?_)
      unfold checkV
      rw [if_neg (fun h => h1 h.2.1)]
    refine BIf_bnen h1.symm ?_
    have hc : checkV r c dir tw n n = if dir < 0 ∨ dir > 1 then 18 else if tw < -1 ∨ tw > 32 then 2 else 0 := by
      unfold checkV; rw [if_pos ⟨hg, h1, h1⟩]
    have hj5 : ¬ (dir < 0 ∨ dir > 1) → W_abacistlaw23_wrong.j5 (Ret (.int .i64 (checkV r c dir tw n n)) H) ⟨b1, 0, none⟩ H1 := fun hd => by
      unfold W_abacistlaw23_wrong.j5
      refine hs.ldf 1 rfl rfl ?_
      simp only [DI_int', DB_bool, DS_string, DP_pointer, DSl_slice, DM_map, DA_agg, DTup_tuple, DCons_cons, DNil_nil, NN_some, BIf_true, BIf_false, BIf_same, List.toList_toArray, Bool.not_true, Bool.not_false]
      by_cases h5 : tw < -1
      · exact BIf_dpos h5 (out (by rw [hc, if_neg hd, if_pos (.inl h5)]))
      refine BIf_dneg h5 ?_
      refine hs.ldf 1 rfl rfl ?_
      simp only [DI_int', DB_bool, DS_string, DP_pointer, DSl_slice, DM_map, DA_agg, DTup_tuple, DCons_cons, DNil_nil, NN_some, BIf_true, BIf_false, BIf_same, List.toList_toArray, Bool.not_true, Bool.not_false]
      by_cases h6 : tw > 32
      · exact BIf_dpos h6 (out (by rw [hc, if_neg hd, if_pos (.inr h6)]))
      exact BIf_dneg h6 (out (by rw [hc, if_neg hd, if_neg (by omega)]))
    refine hs.ldf 1 rfl rfl ?_
    simp only [DI_int', DB_bool, DS_string, DP_pointer, DSl_slice, DM_map, DA_agg, DTup_tuple, DCons_cons, DNil_nil, NN_some, BIf_true, BIf_false, BIf_same, List.toList_toArray, Bool.not_true, Bool.not_false]
    by_cases h3 : dir = 0
    · exact BIf_bnen h3 (hj5 (by omega))
    refine BIf_bnep h3 ?_
    refine hs.ldf 1 rfl rfl ?_
    simp only [DI_int', DB_bool, DS_string, DP_pointer, DSl_slice, DM_map, DA_agg, DTup_tuple, DCons_cons, DNil_nil, NN_some, BIf_true, BIf_false, BIf_same, List.toList_toArray, Bool.not_true, Bool.not_false]
    by_cases h4 : dir = 1
    · exact BIf_bnen h4 (hj5 (by omega))
    · exact BIf_bnep h4 (out (by rw [hc, if_pos (by omega)])))

end Go.Proofs.YtbnhfcdagoigkaaGreatDoor.Pas

end
section
/-! PasK -/
/- The law PassRuns. -/
set_option maxRecDepth 100000
set_option linter.unusedSimpArgs false
set_option linter.unusedVariables false
set_option linter.unnecessarySimpa false
set_option linter.unusedSectionVars false
namespace Go.Proofs.YtbnhfcdagoigkaaGreatDoor.Pas
open Go Go.Hw Go.Crc Go.Form Go.Proofs.YtbnhfcdagoigkaaGreatDoor.W Go.Proofs.YtbnhfcdagoigkaaGreatDoor.Shp Go.Proofs.YtbnhfcdagoigkaaGreatDoor.Gol Go.Proofs.YtbnhfcdagoigkaaGreatDoor.Fft Go.Proofs.YtbnhfcdagoigkaaGreatDoor.Ker Go.Proofs.YtbnhfcdagoigkaaGreatDoor.Str Go.Proofs.YtbnhfcdagoigkaaGreatDoor.Dsk Go.Proofs.YtbnhfcdagoigkaaGreatDoor.Are Go.Proofs.YtbnhfcdagoigkaaGreatDoor.Trn

theorem made_words' {d : D} {n : Nat} {ws : List UInt64} (hn : n = ws.length) (hw : ∀ j, j < n → pw d (xP n) j = (ws[j]?).getD 0) : pws d (xP n) 0 n = ws := by
  rw [pws_map hw, hn]
  exact range_get ws

theorem dir_bool {dir : Int} (h : ¬ (dir < 0 ∨ dir > 1)) : ∃ d : Bool, dir = if d = true then 1 else 0 := by
  by_cases h0 : dir = 0
  · exact ⟨false, h0⟩
  · exact ⟨true, by show dir = 1; omega⟩

theorem checkV_zero {r c dir tw xw : Int} (h : checkV r c dir tw xw xw = 0) : goodS r c = true ∧ xw = r * c ∧ ¬ (dir < 0 ∨ dir > 1) ∧ ¬ (tw < -1 ∨ tw > 32) := by
  unfold checkV at h
  split at h
  · rename_i h1
    split at h
    · exact absurd h (by decide)
    · rename_i h2
      split at h
      · exact absurd h (by decide)
      · rename_i h3
        exact ⟨h1.1, h1.2.1, h2, h3⟩
  · exact absurd h (by decide)

set_option maxHeartbeats 2000000 in
theorem PassRuns_ok (A : Option Addr) (n m : Nat) (hnm : n ≤ m) (ws : List UInt64) (hn : n = ws.length) (r c dir tw : Int) (sh : UInt64) (hr : -9223372036854775808 ≤ r ∧ r ≤ 9223372036854775807) (hc : -9223372036854775808 ≤ c ∧ c ≤ 9223372036854775807) (room : Nat) (hroom : room ≤ 65535) (H : Hp) (hT : T64 H) (hb : Cells H A (wordVals ws)) :
    HCalls Tryz.prog 3 #[.slice A n m, .agg #[.int .i64 r, .int .i64 c, .int .i64 dir, .int .i64 tw, .int .u64 (sh.toNat : Int)], .int .u16 room] H (Ret (.bool true) H) := by
  apply W_abacistlaw23_PassRuns.ok
  unfold W_abacistlaw23_PassRuns
  refine (Sep.start H).nw fun b1 H1 hs => ?_
  refine HCalls.use (awake_ok H1 (hT.le (hs.ow 0 rfl))) ?_
  simp only [DI_int', DB_bool, DS_string, DP_pointer, DSl_slice, DM_map, DA_agg, DTup_tuple, DCons_cons, DNil_nil, NN_some, BIf_true, BIf_false, BIf_same, List.toList_toArray, Bool.not_true, Bool.not_false]
  by_cases hn0 : (n : Int) = 0
  · exact BIf_beqp hn0 (hs.fin 0 rfl _)
  refine BIf_beqn hn0 ?_
  by_cases h128 : (n : Int) > 128
  · exact BIf_dpos h128 (hs.fin 0 rfl _)
  refine BIf_dneg h128 ⟨by decide, by simp, ?_⟩
  have eρ : IntKind.i64.wrap ((1 : Int) + Int.tmod (IntKind.i64.wrap (room : Int)) 600) = ((1 + room % 600 : Nat) : Int) := by
    rw [i64n (n := room) (by omega), show Int.tmod (room : Int) 600 = ((room % 600 : Nat) : Int) from rfl, i64w (by omega) (by omega)]; omega
  simp only [eρ]
  have hρ : 1 ≤ 1 + room % 600 ∧ 1 + room % 600 ≤ 600 := by omega
  generalize 1 + room % 600 = ρ at *
  refine (Make_tr (A := A) (n := n) (m := m) (R := own H) ws hn (by omega) (by omega) hnm ρ (by omega) (fun H' h => hb.le h)).use hs [0] rfl rfl ?_
  rintro _ _ H1 ⟨dp, ap, p, q, d, rfl, hM, hrd, hwr, hw, rfl⟩ hs
  simp only [DI_int', DB_bool, DS_string, DP_pointer, DSl_slice, DM_map, DA_agg, DTup_tuple, DCons_cons, DNil_nil, NN_some, BIf_true, BIf_false, BIf_same, List.toList_toArray, Bool.not_true, Bool.not_false]
  have hs : Sep [pts p (pipO dp ap (xP n)), pts q (pipO dp ap (xQ n)), Dk dp d, Ar ap ρ 0 [], own H, pts b1 (.obj (.cells #[.int .i64 r, .int .i64 c, .int .i64 dir, .int .i64 tw, .int .u64 (sh.toNat : Int)] 27))] H1 := hs
  refine hs.nw fun b2 H1 hs => ?_
  refine hs.stw 6 rfl rfl rfl rfl fun H1 hs => ?_
  first | refine hs.ldf 6 rfl rfl ?_ | refine hs.ld 6 rfl rfl ?_
  simp only [DI_int', DB_bool, DS_string, DP_pointer, DSl_slice, DM_map, DA_agg, DTup_tuple, DCons_cons, DNil_nil, NN_some, BIf_true, BIf_false, BIf_same, List.toList_toArray, Bool.not_true, Bool.not_false]
  first | refine hs.ldf 6 rfl rfl ?_ | refine hs.ld 6 rfl rfl ?_
  simp only [DI_int', DB_bool, DS_string, DP_pointer, DSl_slice, DM_map, DA_agg, DTup_tuple, DCons_cons, DNil_nil, NN_some, BIf_true, BIf_false, BIf_same, List.toList_toArray, Bool.not_true, Bool.not_false]
  refine hs.ldw 5 rfl rfl ?_
  first | refine hs.ldf 6 rfl rfl ?_ | refine hs.ld 6 rfl rfl ?_
  simp only [DI_int', DB_bool, DS_string, DP_pointer, DSl_slice, DM_map, DA_agg, DTup_tuple, DCons_cons, DNil_nil, NN_some, BIf_true, BIf_false, BIf_same, List.toList_toArray, Bool.not_true, Bool.not_false]
  have hs : Sep [pts p (pipO dp ap (xP n)), pts q (pipO dp ap (xQ n)), Dk dp d, Ar ap ρ 0 [], own H, pts b1 (.obj (.cells #[.int .i64 r, .int .i64 c, .int .i64 dir, .int .i64 tw, .int .u64 (sh.toNat : Int)] 27)), pts b2 (.obj (.cells #[.pointer (some ⟨dp, 0, none⟩), .pointer (some ⟨ap, 0, none⟩), .pointer (some ⟨p, 0, none⟩), .pointer (some ⟨q, 0, none⟩)] 34))] H1 := hs
  have hT1 := hT.le (hs.ow 4 rfl)
  by_cases hcv : checkV r c dir tw (n : Int) (n : Int) = 0
  case neg =>
    refine HCalls.use (Run_bad (x := xP n) (y := xQ n) hs hT1 0 1 rfl rfl ap r c dir tw (sh.toNat : Int) 4 hcv) ?_
    simp only [DI_int', DB_bool, DS_string, DP_pointer, DSl_slice, DM_map, DA_agg, DTup_tuple, DCons_cons, DNil_nil, NN_some, BIf_true, BIf_false, BIf_same, List.toList_toArray, Bool.not_true, Bool.not_false]
    first | refine hs.ldf 6 rfl rfl ?_ | refine hs.ld 6 rfl rfl ?_
    simp only [DI_int', DB_bool, DS_string, DP_pointer, DSl_slice, DM_map, DA_agg, DTup_tuple, DCons_cons, DNil_nil, NN_some, BIf_true, BIf_false, BIf_same, List.toList_toArray, Bool.not_true, Bool.not_false]
    first | refine hs.ldf 6 rfl rfl ?_ | refine hs.ld 6 rfl rfl ?_
    simp only [DI_int', DB_bool, DS_string, DP_pointer, DSl_slice, DM_map, DA_agg, DTup_tuple, DCons_cons, DNil_nil, NN_some, BIf_true, BIf_false, BIf_same, List.toList_toArray, Bool.not_true, Bool.not_false]
    refine hs.ldw 5 rfl rfl ?_
    refine HCalls.use (Run_nil p q r c dir tw (sh.toNat : Int) 4 H1) ?_
    simp only [DI_int', DB_bool, DS_string, DP_pointer, DSl_slice, DM_map, DA_agg, DTup_tuple, DCons_cons, DNil_nil, NN_some, BIf_true, BIf_false, BIf_same, List.toList_toArray, Bool.not_true, Bool.not_false]
    refine BIf_bnen rfl ?_
    first | refine hs.ldf 6 rfl rfl ?_ | refine hs.ld 6 rfl rfl ?_
    simp only [DI_int', DB_bool, DS_string, DP_pointer, DSl_slice, DM_map, DA_agg, DTup_tuple, DCons_cons, DNil_nil, NN_some, BIf_true, BIf_false, BIf_same, List.toList_toArray, Bool.not_true, Bool.not_false]
    try simp only [NN_some, Addr.add_lit', Addr.add_zero, Nat.zero_add, Nat.add_zero]
    refine HCalls.use (used_s hs 3 rfl) ?_
    rw [sumB_nil]
    simp only [DI_int', DB_bool, DS_string, DP_pointer, DSl_slice, DM_map, DA_agg, DTup_tuple, DCons_cons, DNil_nil, NN_some, BIf_true, BIf_false, BIf_same, List.toList_toArray, Bool.not_true, Bool.not_false]
    refine BIf_bnen rfl ?_
    first | refine hs.ldf 6 rfl rfl ?_ | refine hs.ld 6 rfl rfl ?_
    simp only [DI_int', DB_bool, DS_string, DP_pointer, DSl_slice, DM_map, DA_agg, DTup_tuple, DCons_cons, DNil_nil, NN_some, BIf_true, BIf_false, BIf_same, List.toList_toArray, Bool.not_true, Bool.not_false]
    try simp only [NN_some, Addr.add_lit', Addr.add_zero, Nat.zero_add, Nat.add_zero]
    refine HCalls.use (peak_s hs 3 rfl) ?_
    simp only [DI_int', DB_bool, DS_string, DP_pointer, DSl_slice, DM_map, DA_agg, DTup_tuple, DCons_cons, DNil_nil, NN_some, BIf_true, BIf_false, BIf_same, List.toList_toArray, Bool.not_true, Bool.not_false]
    refine BIf_dneg (by omega) ?_
    refine hs.ldw 5 rfl rfl ?_
    refine HCalls.use (wrong_ok (n : Int) r c dir tw (sh.toNat : Int) (by omega) H1) ?_
    simp only [DI_int', DB_bool, DS_string, DP_pointer, DSl_slice, DM_map, DA_agg, DTup_tuple, DCons_cons, DNil_nil, NN_some, BIf_true, BIf_false, BIf_same, List.toList_toArray, Bool.not_true, Bool.not_false]
    exact BIf_bnep hcv (BIf_beqp rfl (hs.fin 4 rfl _))
  obtain ⟨hg, hnn, hdir, htw⟩ := checkV_zero hcv
  obtain ⟨ea, eb, rfl, rfl, hab, la, lb⟩ := goodS_some hg
  have q1 := pow_pos ea
  have q2 := pow_pos eb
  have hnw : n = 2 ^ ea * 2 ^ eb := by rw [← Int.natCast_mul] at hnn; omega
  have hcn : 2 ^ eb ≤ n := by rw [hnw]; exact Nat.le_mul_of_pos_left _ q1
  have hn1 : 1 ≤ n := by omega
  have heb : eb ≤ 20 := by
    apply Nat.le_of_not_lt
    intro h
    have := pow_le (show 21 ≤ eb from h)
    omega
  obtain ⟨dd, rfl⟩ := dir_bool hdir
  by_cases hfit : (ρ : Int) < 2 * ((2 ^ eb : Nat) : Int) + 4
  · refine HCalls.use (Run_full (x := xP n) (y := xQ n) (cap := ρ) (peak := 0) (bufs := []) hs hT1 0 1 3 rfl rfl rfl _ _ _ tw (sh.toNat : Int) 4 (by decide) (by rw [sumB_nil]; omega) hcv (fun h => by have := h.2.2.2.2; rw [sumB_nil] at this; omega)) ?_
    simp only [DI_int', DB_bool, DS_string, DP_pointer, DSl_slice, DM_map, DA_agg, DTup_tuple, DCons_cons, DNil_nil, NN_some, BIf_true, BIf_false, BIf_same, List.toList_toArray, Bool.not_true, Bool.not_false]
    first | refine hs.ldf 6 rfl rfl ?_ | refine hs.ld 6 rfl rfl ?_
    simp only [DI_int', DB_bool, DS_string, DP_pointer, DSl_slice, DM_map, DA_agg, DTup_tuple, DCons_cons, DNil_nil, NN_some, BIf_true, BIf_false, BIf_same, List.toList_toArray, Bool.not_true, Bool.not_false]
    first | refine hs.ldf 6 rfl rfl ?_ | refine hs.ld 6 rfl rfl ?_
    simp only [DI_int', DB_bool, DS_string, DP_pointer, DSl_slice, DM_map, DA_agg, DTup_tuple, DCons_cons, DNil_nil, NN_some, BIf_true, BIf_false, BIf_same, List.toList_toArray, Bool.not_true, Bool.not_false]
    refine hs.ldw 5 rfl rfl ?_
    refine HCalls.use (Run_nil p q _ _ _ tw (sh.toNat : Int) 4 H1) ?_
    simp only [DI_int', DB_bool, DS_string, DP_pointer, DSl_slice, DM_map, DA_agg, DTup_tuple, DCons_cons, DNil_nil, NN_some, BIf_true, BIf_false, BIf_same, List.toList_toArray, Bool.not_true, Bool.not_false]
    refine BIf_bnen rfl ?_
    first | refine hs.ldf 6 rfl rfl ?_ | refine hs.ld 6 rfl rfl ?_
    simp only [DI_int', DB_bool, DS_string, DP_pointer, DSl_slice, DM_map, DA_agg, DTup_tuple, DCons_cons, DNil_nil, NN_some, BIf_true, BIf_false, BIf_same, List.toList_toArray, Bool.not_true, Bool.not_false]
    try simp only [NN_some, Addr.add_lit', Addr.add_zero, Nat.zero_add, Nat.add_zero]
    refine HCalls.use (used_s hs 3 rfl) ?_
    rw [sumB_nil]
    simp only [DI_int', DB_bool, DS_string, DP_pointer, DSl_slice, DM_map, DA_agg, DTup_tuple, DCons_cons, DNil_nil, NN_some, BIf_true, BIf_false, BIf_same, List.toList_toArray, Bool.not_true, Bool.not_false]
    refine BIf_bnen rfl ?_
    first | refine hs.ldf 6 rfl rfl ?_ | refine hs.ld 6 rfl rfl ?_
    simp only [DI_int', DB_bool, DS_string, DP_pointer, DSl_slice, DM_map, DA_agg, DTup_tuple, DCons_cons, DNil_nil, NN_some, BIf_true, BIf_false, BIf_same, List.toList_toArray, Bool.not_true, Bool.not_false]
    try simp only [NN_some, Addr.add_lit', Addr.add_zero, Nat.zero_add, Nat.add_zero]
    refine HCalls.use (peak_s hs 3 rfl) ?_
    simp only [DI_int', DB_bool, DS_string, DP_pointer, DSl_slice, DM_map, DA_agg, DTup_tuple, DCons_cons, DNil_nil, NN_some, BIf_true, BIf_false, BIf_same, List.toList_toArray, Bool.not_true, Bool.not_false]
    refine BIf_dneg (by omega) ?_
    refine hs.ldw 5 rfl rfl ?_
    refine HCalls.use (wrong_ok (n : Int) _ _ _ tw (sh.toNat : Int) (by omega) H1) ?_
    rw [hcv]
    simp only [DI_int', DB_bool, DS_string, DP_pointer, DSl_slice, DM_map, DA_agg, DTup_tuple, DCons_cons, DNil_nil, NN_some, BIf_true, BIf_false, BIf_same, List.toList_toArray, Bool.not_true, Bool.not_false]
    refine BIf_bnen rfl ?_
    first | refine hs.ld 5 rfl rfl ?_ | refine hs.ldg 5 rfl rfl ?_ | refine hs.ldf 5 rfl rfl ?_
    simp only [DI_int', DB_bool, DS_string, DP_pointer, DSl_slice, DM_map, DA_agg, DTup_tuple, DCons_cons, DNil_nil, NN_some, BIf_true, BIf_false, BIf_same, List.toList_toArray, Bool.not_true, Bool.not_false]
    rw [i64w (x := 2 * ((2 ^ eb : Nat) : Int)) (by omega) (by omega), i64w (x := 2 * ((2 ^ eb : Nat) : Int) + 4) (by omega) (by omega)]
    exact BIf_dpos hfit (BIf_beqp rfl (hs.fin 4 rfl _))
  have h2q : 2 ≤ ((ρ : Int) - 4).toNat / 2 ^ eb := by rw [Nat.le_div_iff_mul_le (by omega)]; omega
  obtain ⟨jb, hj⟩ := BatIs.ex (ea := ea) h2q
  have hroom2 : 2 ^ jb * 2 ^ eb + 2 ^ eb ≤ ((ρ : Int) - 4).toNat := by
    have := hj.fit
    rw [Nat.le_div_iff_mul_le (by omega), Nat.add_mul, Nat.one_mul] at this
    exact this
  refine (RunM_tr (p := p) (q := q) (dp := dp) (ap := ap) (x := xP n) (y := xQ n) (cap := ρ) (peak := 0) (TT := own H) (d := d) (n := n) (j := ⟨ea, eb, dd, tw, sh⟩) (jb := jb) (fun H' h => hT.le h) hM (hM.onP hn1) (hM.onQ hn1) ⟨by omega, by omega⟩ (by omega) hab ⟨by show -1 ≤ tw; omega, by show tw ≤ 32; omega⟩ hnw hnw rfl (.inl (by show 1 + (n + 3) / 4 ≤ (n + 3) / 4 + 1; omega)) (by omega) (by show 4 + 2 * ((2 ^ eb : Nat) : Int) ≤ _; omega) hj).use hs [0, 1, 2, 3, 4] rfl rfl ?_
  rintro _ _ H1 ⟨d1, hM1, hpg, hrd1, hwr1, hP, hQ, rfl, rfl⟩ hs
  simp only [DI_int', DB_bool, DS_string, DP_pointer, DSl_slice, DM_map, DA_agg, DTup_tuple, DCons_cons, DNil_nil, NN_some, BIf_true, BIf_false, BIf_same, List.toList_toArray, Bool.not_true, Bool.not_false]
  first | refine hs.ldf 6 rfl rfl ?_ | refine hs.ld 6 rfl rfl ?_
  simp only [DI_int', DB_bool, DS_string, DP_pointer, DSl_slice, DM_map, DA_agg, DTup_tuple, DCons_cons, DNil_nil, NN_some, BIf_true, BIf_false, BIf_same, List.toList_toArray, Bool.not_true, Bool.not_false]
  first | refine hs.ldf 6 rfl rfl ?_ | refine hs.ld 6 rfl rfl ?_
  simp only [DI_int', DB_bool, DS_string, DP_pointer, DSl_slice, DM_map, DA_agg, DTup_tuple, DCons_cons, DNil_nil, NN_some, BIf_true, BIf_false, BIf_same, List.toList_toArray, Bool.not_true, Bool.not_false]
  refine hs.ldw 5 rfl rfl ?_
  refine HCalls.use (Run_nil p q _ _ _ tw (sh.toNat : Int) 4 H1) ?_
  simp only [DI_int', DB_bool, DS_string, DP_pointer, DSl_slice, DM_map, DA_agg, DTup_tuple, DCons_cons, DNil_nil, NN_some, BIf_true, BIf_false, BIf_same, List.toList_toArray, Bool.not_true, Bool.not_false]
  refine BIf_bnen rfl ?_
  first | refine hs.ldf 6 rfl rfl ?_ | refine hs.ld 6 rfl rfl ?_
  simp only [DI_int', DB_bool, DS_string, DP_pointer, DSl_slice, DM_map, DA_agg, DTup_tuple, DCons_cons, DNil_nil, NN_some, BIf_true, BIf_false, BIf_same, List.toList_toArray, Bool.not_true, Bool.not_false]
  try simp only [NN_some, Addr.add_lit', Addr.add_zero, Nat.zero_add, Nat.add_zero]
  refine HCalls.use (used_s hs 3 rfl) ?_
  rw [sumB_nil]
  simp only [DI_int', DB_bool, DS_string, DP_pointer, DSl_slice, DM_map, DA_agg, DTup_tuple, DCons_cons, DNil_nil, NN_some, BIf_true, BIf_false, BIf_same, List.toList_toArray, Bool.not_true, Bool.not_false]
  refine BIf_bnen rfl ?_
  first | refine hs.ldf 6 rfl rfl ?_ | refine hs.ld 6 rfl rfl ?_
  simp only [DI_int', DB_bool, DS_string, DP_pointer, DSl_slice, DM_map, DA_agg, DTup_tuple, DCons_cons, DNil_nil, NN_some, BIf_true, BIf_false, BIf_same, List.toList_toArray, Bool.not_true, Bool.not_false]
  try simp only [NN_some, Addr.add_lit', Addr.add_zero, Nat.zero_add, Nat.add_zero]
  refine HCalls.use (peak_s hs 3 rfl) ?_
  simp only [DI_int', DB_bool, DS_string, DP_pointer, DSl_slice, DM_map, DA_agg, DTup_tuple, DCons_cons, DNil_nil, NN_some, BIf_true, BIf_false, BIf_same, List.toList_toArray, Bool.not_true, Bool.not_false]
  refine BIf_dneg (by
    show ¬ mx 0 (((2 ^ jb * 2 ^ eb : Nat) : Int) + ((2 ^ eb : Nat) : Int) + 4) > (ρ : Int)
    unfold mx
    split <;> omega) ?_
  refine hs.ldw 5 rfl rfl ?_
  refine HCalls.use (wrong_ok (n : Int) _ _ _ tw (sh.toNat : Int) (by omega) H1) ?_
  rw [hcv]
  simp only [DI_int', DB_bool, DS_string, DP_pointer, DSl_slice, DM_map, DA_agg, DTup_tuple, DCons_cons, DNil_nil, NN_some, BIf_true, BIf_false, BIf_same, List.toList_toArray, Bool.not_true, Bool.not_false]
  refine BIf_bnen rfl ?_
  first | refine hs.ld 5 rfl rfl ?_ | refine hs.ldg 5 rfl rfl ?_ | refine hs.ldf 5 rfl rfl ?_
  simp only [DI_int', DB_bool, DS_string, DP_pointer, DSl_slice, DM_map, DA_agg, DTup_tuple, DCons_cons, DNil_nil, NN_some, BIf_true, BIf_false, BIf_same, List.toList_toArray, Bool.not_true, Bool.not_false]
  rw [i64w (x := 2 * ((2 ^ eb : Nat) : Int)) (by omega) (by omega), i64w (x := 2 * ((2 ^ eb : Nat) : Int) + 4) (by omega) (by omega)]
  refine BIf_dneg hfit ?_
  first | refine hs.ldf 6 rfl rfl ?_ | refine hs.ld 6 rfl rfl ?_
  simp only [DI_int', DB_bool, DS_string, DP_pointer, DSl_slice, DM_map, DA_agg, DTup_tuple, DCons_cons, DNil_nil, NN_some, BIf_true, BIf_false, BIf_same, List.toList_toArray, Bool.not_true, Bool.not_false]
  refine (Words_tr (dp := dp) (d := d1) 1 n hM1.ok hM1.calm (hM1.onP hn1) hM1.per (by omega)).use hs [2] rfl rfl ?_
  rintro _ _ H1 ⟨b3, t, ht, rfl, rfl⟩ hs
  simp only [DI_int', DB_bool, DS_string, DP_pointer, DSl_slice, DM_map, DA_agg, DTup_tuple, DCons_cons, DNil_nil, NN_some, BIf_true, BIf_false, BIf_same, List.toList_toArray, Bool.not_true, Bool.not_false]
  first | refine hs.ldf 7 rfl rfl ?_ | refine hs.ld 7 rfl rfl ?_
  simp only [DI_int', DB_bool, DS_string, DP_pointer, DSl_slice, DM_map, DA_agg, DTup_tuple, DCons_cons, DNil_nil, NN_some, BIf_true, BIf_false, BIf_same, List.toList_toArray, Bool.not_true, Bool.not_false]
  refine ⟨by decide, by simp, ?_⟩
  have eq : IntKind.i64.wrap (IntKind.i64.wrap (Int.tdiv (IntKind.i64.wrap ((n : Int) + 3)) 4) + 1) = (((n + 3) / 4 + 1 : Nat) : Int) := by
    rw [i64w (x := (n : Int) + 3) (by omega) (by omega), show (n : Int) + 3 = ((n + 3 : Nat) : Int) by omega, show Int.tdiv ((n + 3 : Nat) : Int) 4 = (((n + 3) / 4 : Nat) : Int) from rfl, i64n (by omega), i64w (by omega) (by omega)]; omega
  rw [eq]
  have hM3 : MadeD (D.rdN d1 t) ((n + 3) / 4) n := hM1.rdN t (by omega)
  refine (Words_tr (dp := dp) (d := D.rdN d1 t) ((n + 3) / 4 + 1) n hM3.ok hM3.calm (hM3.onQ hn1) hM3.per (by show d1.rd + t ≤ _; omega)).use hs [0] rfl rfl ?_
  rintro _ _ H1 ⟨b4, t2, ht2, rfl, rfl⟩ hs
  simp only [DI_int', DB_bool, DS_string, DP_pointer, DSl_slice, DM_map, DA_agg, DTup_tuple, DCons_cons, DNil_nil, NN_some, BIf_true, BIf_false, BIf_same, List.toList_toArray, Bool.not_true, Bool.not_false]
  refine hs.ldw 7 rfl rfl ?_
  refine (want_tr (A := A) (n := n) (m := m) (l := ws) (R := own H) (j := ⟨ea, eb, dd, tw, sh⟩) (fun H' h => hb.le h) hn.symm hnw hnm hab heb (by show tw ≤ 32; omega)).use hs [6] rfl rfl ?_
  rintro _ _ H1 ⟨A2, m2, rfl, rfl⟩ hs
  simp only [DI_int', DB_bool, DS_string, DP_pointer, DSl_slice, DM_map, DA_agg, DTup_tuple, DCons_cons, DNil_nil, NN_some, BIf_true, BIf_false, BIf_same, List.toList_toArray, Bool.not_true, Bool.not_false]
  refine BIf_beqp rfl ?_
  have hPn := made_words' hn hw
  have e1 : pws d1 ⟨1, (n + 3) / 4, n⟩ 0 n = ws := hP.trans hPn
  have e2 : rowsU ⟨ea, eb, dd, tw, sh⟩ d (xP n) (2 ^ ea) = wantL ⟨ea, eb, dd, tw, sh⟩ ws (2 ^ ea) := rowsU_map (j := ⟨ea, eb, dd, tw, sh⟩) (by rw [← hnw]; exact hPn)
  have e3 : pws (D.rdN d1 t) ⟨(n + 3) / 4 + 1, (n + 3) / 4, n⟩ 0 n = wantL ⟨ea, eb, dd, tw, sh⟩ ws (2 ^ ea) := (show pws d1 (xQ n) 0 n = _ from hQ).trans e2
  rw [e1, e3] at hs
  have hwl : (wantL ⟨ea, eb, dd, tw, sh⟩ ws (2 ^ ea)).length = n := by rw [wantL_len, hnw]
  rw [e2]
  generalize wantL ⟨ea, eb, dd, tw, sh⟩ ws (2 ^ ea) = W0 at *
  have rowc : ∀ {b : Nat} {vs : List UInt64} {H : Hp}, vs.length = n → H b = some (.row (wordVals vs) 25 (n * 1)) → Cells H (some ⟨b, 0, none⟩) (wordVals vs) := fun {b vs H} hv h => by
    have := Cells.row h 0 n
    rw [List.drop_zero, List.take_of_length_le (by rw [wordVals_length]; omega)] at this
    exact this
  refine HCalls.use (Same_ok (some ⟨b3, 0, none⟩) A n n m ws hn (by omega) H1 (rowc hn.symm (hs.get 4 rfl)) (hb.le (hs.ow 1 rfl))) ?_
  simp only [DI_int', DB_bool, DS_string, DP_pointer, DSl_slice, DM_map, DA_agg, DTup_tuple, DCons_cons, DNil_nil, NN_some, BIf_true, BIf_false, BIf_same, List.toList_toArray, Bool.not_true, Bool.not_false]
  refine HCalls.use (Same_ok (some ⟨b4, 0, none⟩) A2 n n m2 W0 hwl.symm (by omega) H1 (rowc hwl (hs.get 3 rfl)) (own_cells (hs.own 0 rfl))) ?_
  simp only [DI_int', DB_bool, DS_string, DP_pointer, DSl_slice, DM_map, DA_agg, DTup_tuple, DCons_cons, DNil_nil, NN_some, BIf_true, BIf_false, BIf_same, List.toList_toArray, Bool.not_true, Bool.not_false]
  refine HCalls.use (CrcP.rOfWords_ok A2 n m2 W0 hwl.symm (by omega) H1 (own_cells (hs.own 0 rfl))) ?_
  simp only [DI_int', DB_bool, DS_string, DP_pointer, DSl_slice, DM_map, DA_agg, DTup_tuple, DCons_cons, DNil_nil, NN_some, BIf_true, BIf_false, BIf_same, List.toList_toArray, Bool.not_true, Bool.not_false]
  rw [beq_self_eq_true]
  exact hs.fin 1 rfl _

end Go.Proofs.YtbnhfcdagoigkaaGreatDoor.Pas

end
