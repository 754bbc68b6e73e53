/- disk: what stays; the law DiskMakes. -/
import Derived.Test.YtgkdkemhiglpdaaDskC
import Derived.Test.YtgkdkemhiglpdaaHwV
import Derived.Test.YtgkdkemhiglpdaaWabacistlaw15
set_option maxRecDepth 100000
set_option linter.unusedSimpArgs false
set_option linter.unusedVariables false
set_option linter.unnecessarySimpa false
set_option linter.unusedSectionVars false
namespace Go.Proofs.Ytgkdkemhiglpdaa.Dsk
open Go Go.Hw Go.Form Go.Proofs.Ytgkdkemhiglpdaa.W

theorem p_ops : plain64 Try.prog 51 3 := ⟨by kernel_rfl, by kernel_rfl, by kernel_rfl, by kernel_rfl⟩

theorem bootS_or {c : Int → Option (List UInt8)} : ∀ (ks : List Int) (bs : List Bool) (s : Int → Option (List UInt8)), (∀ k ∈ ks, (c k).isSome = true) → ∀ i, bootS c s ks bs i = s i ∨ ((c i).isSome = true ∧ bootS c s ks bs i = c i)
  | [], bs, s, _, i => .inl rfl
  | k :: ks, [], s, _, i => .inl rfl
  | k :: ks, b :: bs, s, hk, i => by
    have ih := bootS_or ks bs (if b then updB s k ((c k).getD []) else s) (fun k hm => hk k (by simp [hm])) i
    show bootS c (if b then updB s k ((c k).getD []) else s) ks bs i = s i ∨ _ ∧ bootS c (if b then updB s k ((c k).getD []) else s) ks bs i = c i
    rcases ih with h | h
    · rw [h]
      cases b with
      | false => exact .inl rfl
      | true =>
        by_cases e : i = k
        · subst e
          refine .inr ⟨hk i (by simp), ?_⟩
          have := hk i (by simp)
          cases hc : c i with
          | none => rw [hc] at this; cases this
          | some x => simp [updB]
        · exact .inl (by simp [updB, e])
    · exact .inr h

theorem Ok.writeD {d : D} (h : Ok d) (i : Int) (bs : List UInt8) : Ok (d.writeD i bs) := by
  unfold D.writeD
  split
  · exact h
  · split
    · exact h
    · rename_i hl
      have hb := Ok.burnt h
      split
      · exact hb
      · unfold D.wrote
        refine ⟨hb.sec, hb.size, hb.big, hb.per, hb.safe, fun k b hk => ?_, hb.fz⟩
        have hk' : (if k = i then some bs else d.cache k) = some b := hk
        have hsz : d.burnt.size = d.size := (burnt_rd d).2.2.2.1
        split at hk'
        · cases hk'; show bs.length = d.burnt.size; rw [hsz]; omega
        · show b.length = d.burnt.size; rw [hsz]; exact h.cache k b hk'
theorem Dom.writeD {d : D} (h : Dom d) (i : Int) (bs : List UInt8) : Dom (d.writeD i bs) := by
  have hbr := burnt_rd d
  unfold D.writeD
  split
  · exact h
  · rename_i hc
    split
    · exact h
    · split
      · intro k hk
        rw [hbr.2.2.2.2.2.2.1] at hk
        rw [hbr.2.2.2.2.1]
        exact h k hk
      · intro k hk
        have hk' : (if k = i then some bs else d.cache k).isSome = true := hk
        show 0 ≤ k ∧ k < (d.burnt.sec : Int)
        rw [hbr.2.2.2.2.1]
        split at hk'
        · rename_i e; subst e
          have := chk_in (d := d) (i := k) (by simpa using hc)
          omega
        · exact h k hk'
theorem Ok.crash {d : D} (h : Ok d) : Ok { d with down := true, fuse := 0 } := ⟨h.sec, h.size, h.big, h.per, h.safe, h.cache, Nat.zero_le _⟩
theorem Ok.fused {d : D} (h : Ok d) (n : Nat) (hn : n ≤ 9223372036854775807) : Ok { d with fuse := n } := ⟨h.sec, h.size, h.big, h.per, h.safe, h.cache, hn⟩
theorem Ok.boot {d : D} (h : Ok d) {ks : List Int} (hk : KeysOf (strM d.cache) ks) (keep : List Bool) : Ok (D.boot d ks keep) := by
  refine ⟨h.sec, h.size, h.big, h.per, fun k b hb => ?_, fun k b hb => (by cases hb), h.fz⟩
  have hb' : bootS d.cache d.safe ks keep k = some b := hb
  rcases bootS_or ks keep d.safe (fun k hm => by have := (hk.mem k).1 hm; rw [strM_some] at this; exact this) k with e | ⟨_, e⟩
  · rw [e] at hb'; exact h.safe k b hb'
  · rw [e] at hb'; exact h.cache k b hb'
theorem Dom.boot (d : D) (ks : List Int) (keep : List Bool) : Dom (D.boot d ks keep) := fun k hk => by cases hk
theorem Dom.fresh (sec size : Nat) : Dom (D.fresh sec size) := fun k hk => by cases hk

def b32 : List UInt8 := 7 :: List.replicate 31 0

theorem awake_ok (H : Hp) : HCalls Try.prog 28 #[] H (RetE (.bool true) H) := by
  apply HCalls.ret
  apply W_abacistlaw15_awake.ok
  unfold W_abacistlaw15_awake
  have hok : Ok (D.fresh 2 32) := Ok.fresh (by omega) (by decide) (by omega)
  refine (New_tr 2 32 (by omega) (by decide) (by omega)).use (Sep.start H) [] rfl rfl ?_
  rintro _ _ H1 ⟨p, rfl, rfl⟩ hs
  simp only [DI_int', DB_bool, DS_string, DP_pointer, DSl_slice, DM_map, DA_agg, DTup_tuple, DCons_cons, DNil_nil, NN_some, BIf_true, BIf_false, BIf_same, List.toList_toArray, Bool.not_true, Bool.not_false]
  refine BIf_neg rfl ?_
  refine hs.mks c_u8 rfl (n := 32) (m := 32) rfl rfl (Nat.le_refl _) (by omega) (by omega) fun b H1 hs => ?_
  simp only [DI_int', DB_bool, DS_string, DP_pointer, DSl_slice, DM_map, DA_agg, DTup_tuple, DCons_cons, DNil_nil, NN_some, BIf_true, BIf_false, BIf_same, List.toList_toArray, Bool.not_true, Bool.not_false]
  refine ⟨by omega, by omega, ?_⟩
  try simp only [NN_some, Addr.add_lit', Addr.add_zero, Nat.zero_add, Nat.add_zero]
  refine hs.str 2 (b := b) rfl (by rw [zeroRow_length]; decide) rfl fun H1 hs => ?_
  have hrow : (zeroRow [Value.int .u8 0] 32).set 0 (.int .u8 7) = byteVals b32 := by
    rw [zeroRow_one]; rfl
  have hs : Sep [Dk p (D.fresh 2 32), own H, pts b (.row (byteVals b32) 5 (32 * 1))] H1 := by rw [← hrow]; exact hs
  have hbl : b32.length = 32 := by simp [b32]
  refine (Write_tr (p := p) (d := D.fresh 2 32) hok (by decide) 1 (some ⟨b, 0, none⟩) 32 32 b32 hbl.symm (pts b (.row (byteVals b32) 5 (32 * 1))) (fun H h => ?_)).use hs [0, 2] rfl rfl ?_
  · have := Cells.row h 0 32
    rw [List.drop_zero, List.take_of_length_le (by rw [byteVals_length, hbl]; omega)] at this
    exact this
  rintro _ _ H1 ⟨rfl, rfl⟩ hs
  have hok1 := Ok.writeD hok 1 b32
  have hdom1 := Dom.writeD (Dom.fresh 2 32) 1 b32
  have hE : (D.fresh 2 32).writeE 1 32 = 0 := rfl
  have hD : (D.fresh 2 32).writeD 1 b32 = (D.fresh 2 32).wrote 1 b32 := by
    unfold D.writeD
    rw [if_neg (by decide), if_neg (by rw [hbl]; decide), if_neg (by decide)]
  rw [hD] at hs hok1 hdom1
  rw [hE]
  have hsf : ((D.fresh 2 32).wrote 1 b32).safe = fun _ => none := rfl
  have hsz : ((D.fresh 2 32).wrote 1 b32).size = 32 := rfl
  have hsc : ((D.fresh 2 32).wrote 1 b32).sec = 2 := rfl
  have hrd : ((D.fresh 2 32).wrote 1 b32).rd = 0 := rfl
  generalize (D.fresh 2 32).wrote 1 b32 = d1 at *
  simp only [DI_int', DB_bool, DS_string, DP_pointer, DSl_slice, DM_map, DA_agg, DTup_tuple, DCons_cons, DNil_nil, NN_some, BIf_true, BIf_false, BIf_same, List.toList_toArray, Bool.not_true, Bool.not_false]
  try simp only [NN_some, Addr.add_lit', Addr.add_zero, Nat.zero_add, Nat.add_zero]
  refine (Crash_tr (p := p) (d := d1)).use hs [0] rfl rfl ?_
  rintro _ _ H1 ⟨rfl, rfl⟩ hs
  try simp only [DI_int', DB_bool, DS_string, DP_pointer, DSl_slice, DM_map, DA_agg, DTup_tuple, DCons_cons, DNil_nil, NN_some, BIf_true, BIf_false, BIf_same, List.toList_toArray, Bool.not_true, Bool.not_false]
  refine (Boot_tr (p := p) (d := { d1 with down := true, fuse := 0 }) (Ok.crash hok1) hdom1 rfl .none 0 0 [] rfl (own H) (fun H h => Cells.nil _ _)).use hs [0, 2] rfl rfl ?_
  rintro _ _ H1 ⟨ks, hks, rfl, rfl⟩ hs
  simp only [DI_int', DB_bool, DS_string, DP_pointer, DSl_slice, DM_map, DA_agg, DTup_tuple, DCons_cons, DNil_nil, NN_some, BIf_true, BIf_false, BIf_same, List.toList_toArray, Bool.not_true, Bool.not_false]
  have hok2 := Ok.boot (Ok.crash hok1) hks []
  refine (Read_tr (p := p) (d := D.boot { d1 with down := true, fuse := 0 } ks []) hok2 (by show d1.rd ≤ _; omega) 1).use hs [0] rfl rfl ?_
  have hchk : (D.boot { d1 with down := true, fuse := 0 } ks []).chk 1 = 0 := by
    unfold D.chk
    rw [if_neg (by show ¬ (false = true); simp), if_neg (by show ¬ ((1 : Int) < 0 ∨ (1 : Int) ≥ (d1.sec : Int)); omega)]
  have hburn : (D.boot { d1 with down := true, fuse := 0 } ks []).burns = false := rfl
  rintro _ _ H1 (⟨h, _⟩ | ⟨_, h, _⟩ | ⟨_, _, b2, c, m, rfl, hcm, rfl⟩) hs
  · exact absurd hchk h
  · rw [hburn] at h; cases h
  · have hnow : (D.boot { d1 with down := true, fuse := 0 } ks []).now 1 = List.replicate 32 0 := by
      unfold D.now D.sat D.boot
      rw [bootS_nil]
      simp [hsf, hsz]
    have hsz2 : (D.boot { d1 with down := true, fuse := 0 } ks []).size = 32 := hsz
    rw [hnow] at hs
    rw [hsz2]
    simp only [DI_int', DB_bool, DS_string, DP_pointer, DSl_slice, DM_map, DA_agg, DTup_tuple, DCons_cons, DNil_nil, NN_some, BIf_true, BIf_false, BIf_same, List.toList_toArray, Bool.not_true, Bool.not_false]
    refine BIf_beqp rfl (BIf_beqp rfl (BIf_beqp rfl (BIf_beqp rfl ?_)))
    refine ⟨by omega, by omega, ?_⟩
    try simp only [DI_int', DB_bool, DS_string, DP_pointer, DSl_slice, DM_map, DA_agg, DTup_tuple, DCons_cons, DNil_nil, NN_some, BIf_true, BIf_false, BIf_same, List.toList_toArray, Bool.not_true, Bool.not_false]
    refine hs.ldr 1 (b := b2) (j := 0) rfl rfl ?_
    simp only [DI_int', DB_bool, DS_string, DP_pointer, DSl_slice, DM_map, DA_agg, DTup_tuple, DCons_cons, DNil_nil, NN_some, BIf_true, BIf_false, BIf_same, List.toList_toArray, Bool.not_true, Bool.not_false]
    exact hs.fin 2 rfl _

theorem DiskMakes_ok (s z : Int) (H : Hp) : HCalls Try.prog 6 #[.int .i64 s, .int .i64 z] H (Ret (.bool true) H) := by
  apply W_abacistlaw15_DiskMakes.ok
  unfold W_abacistlaw15_DiskMakes
  refine HCalls.use (awake_ok H) ?_
  try simp only [DI_int', DB_bool, DS_string, DP_pointer, DSl_slice, DM_map, DA_agg, DTup_tuple, DCons_cons, DNil_nil, NN_some, BIf_true, BIf_false, BIf_same, List.toList_toArray, Bool.not_true, Bool.not_false]
  have j6 : ∀ c : Bool, (c = true ↔ Lay.perN z ≠ 0) → (c = true → s > 1000 → s > 1048576) → W_abacistlaw15_DiskMakes.j6 (Ret (.bool true) H) s z c H := fun c hc hr => by
    unfold W_abacistlaw15_DiskMakes.j6
    by_cases hno : s < 1 ∨ s > 1048576 ∨ Lay.perN z = 0
    · refine HCalls.use (New_no s z hno H) ?_
      try simp only [DI_int', DB_bool, DS_string, DP_pointer, DSl_slice, DM_map, DA_agg, DTup_tuple, DCons_cons, DNil_nil, NN_some, BIf_true, BIf_false, BIf_same, List.toList_toArray, Bool.not_true, Bool.not_false]
      cases c with
      | false => exact BIf_pos rfl (⟨rfl, Hp.le_refl _⟩)
      | true =>
        refine BIf_neg rfl ?_
        by_cases h1 : s < 1
        · exact BIf_dpos h1 (⟨rfl, Hp.le_refl _⟩)
        refine BIf_dneg h1 ?_
        have hz := hc.1 rfl
        exact BIf_dpos (by omega) (⟨rfl, Hp.le_refl _⟩)
    · have hz : Lay.perN z ≠ 0 := by omega
      obtain rfl := hc.2 hz
      have hs1 : 1 ≤ s ∧ s ≤ 1000 := by
        constructor
        · omega
        · have := hr rfl; omega
      obtain ⟨sn, rfl⟩ := Int.eq_ofNat_of_zero_le (show 0 ≤ s by omega)
      have hzz : z = 32 ∨ z = 64 ∨ z = 128 ∨ z = 256 ∨ z = 512 ∨ z = 1024 ∨ z = 2048 ∨ z = 4096 := by
        unfold Lay.perN at hz
        repeat' split at hz
        all_goals omega
      obtain ⟨zn, rfl⟩ := Int.eq_ofNat_of_zero_le (show 0 ≤ z by omega)
      have hbig : sn * zn ≤ 67108864 := Nat.le_trans (Nat.mul_le_mul (show sn ≤ 1000 by omega) (show zn ≤ 4096 by omega)) (by decide)
      have hok : Ok (D.fresh sn zn) := Ok.fresh (by omega) (by omega) hbig
      refine (New_tr sn zn (by omega) (by omega) hbig).use (Sep.start H) [] rfl rfl ?_
      rintro _ _ H1 ⟨p, rfl, rfl⟩ hs
      simp only [DI_int', DB_bool, DS_string, DP_pointer, DSl_slice, DM_map, DA_agg, DTup_tuple, DCons_cons, DNil_nil, NN_some, BIf_true, BIf_false, BIf_same, List.toList_toArray, Bool.not_true, Bool.not_false]
      refine BIf_dneg (by omega) (BIf_dneg (by omega) (BIf_pos rfl ?_))
      try simp only [NN_some, Addr.add_lit', Addr.add_zero, Nat.zero_add, Nat.add_zero]
      refine HCalls.use (Sectors_s hs 0 rfl) ?_
      try simp only [DI_int', DB_bool, DS_string, DP_pointer, DSl_slice, DM_map, DA_agg, DTup_tuple, DCons_cons, DNil_nil, NN_some, BIf_true, BIf_false, BIf_same, List.toList_toArray, Bool.not_true, Bool.not_false]
      refine BIf_beqp rfl ?_
      try simp only [NN_some, Addr.add_lit', Addr.add_zero, Nat.zero_add, Nat.add_zero]
      refine HCalls.use (Size_s hs 0 rfl) ?_
      try simp only [DI_int', DB_bool, DS_string, DP_pointer, DSl_slice, DM_map, DA_agg, DTup_tuple, DCons_cons, DNil_nil, NN_some, BIf_true, BIf_false, BIf_same, List.toList_toArray, Bool.not_true, Bool.not_false]
      refine BIf_beqp rfl ?_
      try simp only [NN_some, Addr.add_lit', Addr.add_zero, Nat.zero_add, Nat.add_zero]
      refine HCalls.use (Down_s hs 0 rfl) ?_
      try simp only [DI_int', DB_bool, DS_string, DP_pointer, DSl_slice, DM_map, DA_agg, DTup_tuple, DCons_cons, DNil_nil, NN_some, BIf_true, BIf_false, BIf_same, List.toList_toArray, Bool.not_true, Bool.not_false]
      refine BIf_pos rfl ?_
      refine (Dirty_tr hok (Dom.fresh sn zn)).use hs [0] rfl rfl ?_
      rintro _ _ H1 ⟨ks, A, cap, hks, hkl, rfl, rfl⟩ hs
      simp only [DI_int', DB_bool, DS_string, DP_pointer, DSl_slice, DM_map, DA_agg, DTup_tuple, DCons_cons, DNil_nil, NN_some, BIf_true, BIf_false, BIf_same, List.toList_toArray, Bool.not_true, Bool.not_false]
      have hk0 : ks = [] := by
        cases ks with
        | nil => rfl
        | cons k ks =>
          have := (hks.mem k).1 (by simp)
          cases this
      subst hk0
      refine BIf_beqp rfl ?_
      try simp only [NN_some, Addr.add_lit', Addr.add_zero, Nat.zero_add, Nat.add_zero]
      refine HCalls.use (Count_s hs 0 rfl) ?_
      simp only [DI_int', DB_bool, DS_string, DP_pointer, DSl_slice, DM_map, DA_agg, DTup_tuple, DCons_cons, DNil_nil, NN_some, BIf_true, BIf_false, BIf_same, List.toList_toArray, Bool.not_true, Bool.not_false]
      refine EqI_eql p_ops (a := [0, 0, 0]) (b := [0, 0, 0]) rfl rfl (by intro x hx; simp at hx; omega) (by intro x hx; simp at hx; omega) rfl rfl ?_
      rw [decide_eq_true rfl]
      exact hs.fin 2 rfl _
  have j4 : ∀ c : Bool, (c = true ↔ Lay.perN z ≠ 0) → W_abacistlaw15_DiskMakes.j4 (Ret (.bool true) H) s z c H := fun c hc => by
    unfold W_abacistlaw15_DiskMakes.j4
    cases c with
    | false => exact BIf_neg rfl (j6 false hc (fun h => by cases h))
    | true =>
      refine BIf_pos rfl ?_
      by_cases h1 : s > 1000
      · refine BIf_dpos h1 ?_
        by_cases h2 : s ≤ 1048576
        · exact BIf_dpos h2 (⟨rfl, Hp.le_refl _⟩)
        · exact BIf_dneg h2 (j6 true hc (fun _ _ => by omega))
      · exact BIf_dneg h1 (j6 true hc (fun _ h => absurd h h1))
  have hy : ∀ n : Int, (n = 32 ∨ n = 64 ∨ n = 128 ∨ n = 256 ∨ n = 512 ∨ n = 1024 ∨ n = 2048 ∨ n = 4096) → Lay.perN n ≠ 0 := by
    rintro n (rfl | rfl | rfl | rfl | rfl | rfl | rfl | rfl) <;> decide
  by_cases h1 : z = 32
  · exact BIf_beqp h1 (j4 true ⟨fun _ => hy z (by omega), fun _ => rfl⟩)
  refine BIf_beqn h1 ?_
  by_cases h2 : z = 64
  · exact BIf_beqp h2 (j4 true ⟨fun _ => hy z (by omega), fun _ => rfl⟩)
  refine BIf_beqn h2 ?_
  by_cases h3 : z = 128
  · exact BIf_beqp h3 (j4 true ⟨fun _ => hy z (by omega), fun _ => rfl⟩)
  refine BIf_beqn h3 ?_
  by_cases h4 : z = 256
  · exact BIf_beqp h4 (j4 true ⟨fun _ => hy z (by omega), fun _ => rfl⟩)
  refine BIf_beqn h4 ?_
  by_cases h5 : z = 512
  · exact BIf_beqp h5 (j4 true ⟨fun _ => hy z (by omega), fun _ => rfl⟩)
  refine BIf_beqn h5 ?_
  by_cases h6 : z = 1024
  · exact BIf_beqp h6 (j4 true ⟨fun _ => hy z (by omega), fun _ => rfl⟩)
  refine BIf_beqn h6 ?_
  by_cases h7 : z = 2048
  · exact BIf_beqp h7 (j4 true ⟨fun _ => hy z (by omega), fun _ => rfl⟩)
  refine BIf_beqn h7 ?_
  refine j4 _ ?_
  constructor
  · intro h
    exact hy z (by have : z = 4096 := by simpa using h
                   omega)
  · intro h
    unfold Lay.perN at h
    rw [if_neg h1, if_neg h2, if_neg h3, if_neg h4, if_neg h5, if_neg h6, if_neg h7] at h
    by_cases h8 : z = 4096
    · simpa using h8
    · rw [if_neg h8] at h; exact absurd rfl h

end Go.Proofs.Ytgkdkemhiglpdaa.Dsk
