/- disk: Dirty, Boot, Crash, Fuse. -/
import Derived.Test.YtbnhfcdagoigkaaDskB
import Derived.Test.YtbnhfcdagoigkaaHwX
set_option maxRecDepth 100000
set_option linter.unusedSimpArgs false
set_option linter.unusedVariables false
set_option linter.unnecessarySimpa false
set_option linter.unusedSectionVars false
namespace Go.Proofs.Ytbnhfcdagoigkaa.Dsk
open Go Go.Hw Go.Form Go.Proofs.Ytbnhfcdagoigkaa.W

/-- Just sectors are in the cache. -/
def Dom (d : D) : Prop := ∀ k, (d.cache k).isSome = true → 0 ≤ k ∧ k < d.sec

theorem strM_some (m : Int → Option (List UInt8)) (k : Int) : (strM m k).isSome = (m k).isSome := by unfold strM; cases m k <;> rfl

theorem Dirty_tr {p : Nat} {d : D} (hok : Ok d) (hd : Dom d) : Tr Try.prog 38 #[.pointer (some ⟨p, 0, none⟩)] [Dk p d] fun v M =>
    ∃ ks A cap, KeysOf (strM d.cache) ks ∧ ks.length ≤ d.sec ∧ v = .slice A ks.length cap ∧ M = [Dk p d, Own 3 1 A ks.length cap (ks.map (Value.int .i64))] := fun H hs => by
  have hsec := hok.sec
  obtain ⟨r1, r2, r3, hs⟩ := Dk.open hs
  apply W_disk_Disk_Dirty.ok
  unfold W_disk_Disk_Dirty
  simp only [NN_some, Addr.add_lit', Addr.add_zero, Nat.zero_add, Nat.add_zero]
  refine hs.ld 0 rfl rfl ?_
  simp only [DI_int', DB_bool, DS_string, DP_pointer, DSl_slice, DM_map, DA_agg, DTup_tuple, DCons_cons, DNil_nil, NN_some, BIf_true, BIf_false, BIf_same, List.toList_toArray, Bool.not_true, Bool.not_false]
  refine (Keys_string r3 H).mono ?_
  rintro _ _ ⟨b, hb, rfl, rfl⟩
  have hs := hs.new hb (.obj (.cells #[.map (some r3)] 32))
  obtain ⟨H1, ⟨l, clock, hr1, hgk⟩, hle⟩ := hs.see 3 rfl
  refine (Sorted_string hgk (N := d.sec) (by omega) (fun k hk => hd k (by rw [strM_some] at hk; exact hk)) _ (hle _ _ hr1) (hs.get 4 rfl)).mono ?_
  rintro _ _ ⟨ks, hks, hkl, ⟨h0, rfl, rfl⟩ | ⟨b', cap, rfl, hcap, hn, rfl⟩⟩
  · simp only [DI_int', DB_bool, DS_string, DP_pointer, DSl_slice, DM_map, DA_agg, DTup_tuple, DCons_cons, DNil_nil, NN_some, BIf_true, BIf_false, BIf_same, List.toList_toArray, Bool.not_true, Bool.not_false]
    subst h0
    refine ⟨_, ⟨[], .none, 0, hks, hkl, rfl, rfl⟩, ?_⟩
    have hs2 : Sep (Own 3 1 .none 0 0 [] :: [pts p (dskO d r1 r2 r3), Mp r1 (strM d.safe), Mp r2 (tchM d.tch), Mp r3 (strM d.cache)]) _ := ⟨fun _ => none, _, fun _ _ h => (nomatch h), Hp.le_refl _, fun _ => .inl rfl, Own.none _ _ _, hs.re [0, 1, 2, 3] rfl⟩
    exact Dk.shut (hs2.re [1, 2, 3, 4, 0] rfl)
  · simp only [DI_int', DB_bool, DS_string, DP_pointer, DSl_slice, DM_map, DA_agg, DTup_tuple, DCons_cons, DNil_nil, NN_some, BIf_true, BIf_false, BIf_same, List.toList_toArray, Bool.not_true, Bool.not_false]
    have hs2 := hs.new hn (.row (ks.map (Value.int .i64)) 3 cap)
    have hs3 := hs2.turn 5 (B := Own 3 1 (some ⟨b', 0, none⟩) ks.length cap (ks.map (Value.int .i64))) rfl fun H1 hH => ⟨by simp, .inr ⟨b', cap, rfl, hH, by omega⟩⟩
    exact ⟨_, ⟨ks, some ⟨b', 0, none⟩, cap, hks, hkl, rfl, rfl⟩, Dk.shut (hs3.re [0, 1, 2, 3, 5] rfl)⟩

theorem Crash_tr {p : Nat} {d : D} : Tr Try.prog 13 #[.pointer (some ⟨p, 7, none⟩)] [Dk p d] fun v M => v = .tuple #[] ∧ M = [Dk p { d with down := true, fuse := 0 }] := fun H hs => by
  obtain ⟨r1, r2, r3, hs⟩ := Dk.open hs
  apply W_disk_power_Crash.ok
  unfold W_disk_power_Crash
  simp only [NN_some, Addr.add_lit', Addr.add_zero, Nat.zero_add, Nat.add_zero]
  refine hs.st 0 rfl (by show 7 < 10; omega) rfl fun H hs => ?_
  refine hs.st 0 rfl (by show 8 < 10; omega) rfl fun H hs => ?_
  exact ⟨_, ⟨trivial, rfl⟩, Dk.shut (d := { d with down := true, fuse := 0 }) hs⟩

theorem Fuse_tr {p : Nat} {d : D} (n : Int) : Tr Try.prog 8 #[.pointer (some ⟨p, 7, none⟩), .int .i64 n] [Dk p d] fun v M => v = .tuple #[] ∧ M = [Dk p { d with fuse := n.toNat }] := fun H hs => by
  obtain ⟨r1, r2, r3, hs⟩ := Dk.open hs
  apply W_disk_power_Fuse.ok
  unfold W_disk_power_Fuse
  simp only [NN_some, Addr.add_lit', Addr.add_zero, Nat.zero_add, Nat.add_zero]
  rw [show (if (0 : Int) > n then (0 : Int) else n) = ((n.toNat : Nat) : Int) by split <;> omega]
  refine hs.st 0 rfl (by show 8 < 10; omega) rfl fun H hs => ?_
  exact ⟨_, ⟨trivial, rfl⟩, Dk.shut (d := { d with fuse := n.toNat }) hs⟩

/-- What is safe behind a boot. -/
def bootS (c : Int → Option (List UInt8)) : (Int → Option (List UInt8)) → List Int → List Bool → (Int → Option (List UInt8))
  | s, k :: ks, b :: bs => bootS c (if b then updB s k ((c k).getD []) else s) ks bs
  | s, _, _ => s
def D.boot (d : D) (ks : List Int) (keep : List Bool) : D := { d with safe := bootS d.cache d.safe ks keep, cache := fun _ => none, down := false }

def boolVals (l : List Bool) : List Value := l.map Value.bool

theorem bootS_nil (c s : Int → Option (List UInt8)) (ks : List Int) : bootS c s ks [] = s := by cases ks <;> rfl

theorem Boot_loop (K : Value → Hp → Prop) {p r1 r2 r3 : Nat} {d : D} {A A4 : Option Addr} {n4 m n m4 : Nat} {all : List Int} {keepAll : List Bool} {R : As} (hR : ∀ H, R H → Cells H A (boolVals keepAll)) (hn : n = keepAll.length) (hn4 : n4 = all.length) (hn40 : n4 ≤ 1048576) (hall : ∀ k ∈ all, (d.cache k).isSome = true) (sF : Int → Option (List UInt8))
    (hK : ∀ H, Sep [pts p (dskO { d with down := false } r1 r2 r3), Mp r1 (strM sF), Mp r2 (tchM d.tch), Mp r3 (strM fun _ => none), Own 3 1 A4 n4 m4 (all.map (Value.int .i64)), R] H → K (.int .i64 0) H) :
    ∀ (ks : List Int) (j : Nat) (s : Int → Option (List UInt8)) (H : Hp), all.drop j = ks → j ≤ n4 → bootS d.cache s ks (keepAll.drop j) = sF →
      Sep [pts p (dskO d r1 r2 r3), Mp r1 (strM s), Mp r2 (tchM d.tch), Mp r3 (strM d.cache), Own 3 1 A4 n4 m4 (all.map (Value.int .i64)), R] H →
      W_disk_Disk_Boot.l4 K (ks.length + 1) (some ⟨p, 0, none⟩) A n m A4 n4 m4 (n4 : Int) (j : Int) H
  | [], j, s, H, hd, hj, hb, hs => by
    have hjn : j = n4 := by
      have := congrArg List.length hd
      simp at this; omega
    subst hjn
    unfold W_disk_Disk_Boot.l4
    refine BIf_dneg (by omega) ?_
    simp only [NN_some, Addr.add_lit', Addr.add_zero, Nat.zero_add, Nat.add_zero]
    refine hs.ld 0 rfl rfl ?_
    simp only [DI_int', DB_bool, DS_string, DP_pointer, DSl_slice, DM_map, DA_agg, DTup_tuple, DCons_cons, DNil_nil, NN_some, BIf_true, BIf_false, BIf_same, List.toList_toArray, Bool.not_true, Bool.not_false]
    refine hs.clearK u_int u_strm 3 rfl fun H hs => ?_
    refine hs.st 0 rfl (by show 7 < 10; omega) rfl fun H hs => ?_
    have hb' : s = sF := hb
    rw [hb'] at hs
    exact hK H hs
  | k :: ks, j, s, H, hd, hj, hb, hs => by
    have hjl : j < all.length := by
      have := congrArg List.length hd
      simp at this; omega
    have hget : all[j] = k := by
      have := List.drop_eq_getElem_cons hjl
      rw [this] at hd
      exact (List.cons.inj hd).1
    have hrest : all.drop (j + 1) = ks := by
      have := List.drop_eq_getElem_cons hjl
      rw [this] at hd
      exact (List.cons.inj hd).2
    have hkc := hall k (by rw [← hget]; exact List.getElem_mem _)
    unfold W_disk_Disk_Boot.l4
    refine BIf_dpos (by omega) ?_
    refine (hs.own 4 rfl).rd1 (v := .int .i64 k) rfl (by rw [List.getElem?_map, List.getElem?_eq_getElem hjl, hget]; rfl) ?_
    simp only [DI_int', DB_bool, DS_string, DP_pointer, DSl_slice, DM_map, DA_agg, DTup_tuple, DCons_cons, DNil_nil, NN_some, BIf_true, BIf_false, BIf_same, List.toList_toArray, Bool.not_true, Bool.not_false]
    by_cases hjk : j < n
    · refine BIf_dpos (by omega) ?_
      have hkl : j < keepAll.length := by omega
      have hkd : keepAll.drop j = keepAll[j] :: keepAll.drop (j + 1) := List.drop_eq_getElem_cons hkl
      rw [hkd] at hb
      obtain ⟨H1, hR1, hle⟩ := hs.see 5 (A := R) rfl
      refine ((hR H1 hR1).le hle).read (v := .bool keepAll[j]) (by unfold boolVals; rw [List.getElem?_map, List.getElem?_eq_getElem hkl]; rfl) rfl (by unfold boolVals; rw [List.length_map]; omega) ?_
      simp only [DI_int', DB_bool, DS_string, DP_pointer, DSl_slice, DM_map, DA_agg, DTup_tuple, DCons_cons, DNil_nil, NN_some, BIf_true, BIf_false, BIf_same, List.toList_toArray, Bool.not_true, Bool.not_false]
      cases hbv : keepAll[j] with
      | true =>
        rw [hbv] at hb
        try simp only [DI_int', DB_bool, DS_string, DP_pointer, DSl_slice, DM_map, DA_agg, DTup_tuple, DCons_cons, DNil_nil, NN_some, BIf_true, BIf_false, BIf_same, List.toList_toArray, Bool.not_true, Bool.not_false]
        try simp only [NN_some, Addr.add_lit', Addr.add_zero, Nat.zero_add, Nat.add_zero]
        refine hs.ld 0 rfl rfl ?_
        simp only [DI_int', DB_bool, DS_string, DP_pointer, DSl_slice, DM_map, DA_agg, DTup_tuple, DCons_cons, DNil_nil, NN_some, BIf_true, BIf_false, BIf_same, List.toList_toArray, Bool.not_true, Bool.not_false]
        refine hs.ld 0 rfl rfl ?_
        simp only [DI_int', DB_bool, DS_string, DP_pointer, DSl_slice, DM_map, DA_agg, DTup_tuple, DCons_cons, DNil_nil, NN_some, BIf_true, BIf_false, BIf_same, List.toList_toArray, Bool.not_true, Bool.not_false]
        obtain ⟨jz, hz1, hz2⟩ := z_str
        obtain ⟨H1, ⟨l, clock, hr1, hgk⟩, hle⟩ := hs.see 3 rfl
        refine lookupK u_int u_strm hz1 hz2 (hle _ _ hr1) false ?_
        rw [hgk.get]
        cases hck : d.cache k with
        | none => rw [hck] at hkc; cases hkc
        | some bs =>
          rw [show strM d.cache k = some (strV bs) by unfold strM; rw [hck]; rfl]
          show DS (.string ⟨bs.toArray⟩) _
          simp only [DI_int', DB_bool, DS_string, DP_pointer, DSl_slice, DM_map, DA_agg, DTup_tuple, DCons_cons, DNil_nil, NN_some, BIf_true, BIf_false, BIf_same, List.toList_toArray, Bool.not_true, Bool.not_false]
          refine hs.upd u_int u_strm 1 rfl fun H hs => ?_
          rw [show (Value.string ⟨bs.toArray⟩) = strV bs from rfl, updB_M] at hs
          rw [i64w (x := (j : Int) + 1) (by omega) (by omega)]
          refine Boot_loop K hR hn hn4 hn40 hall sF hK ks (j + 1) (updB s k bs) H hrest (by omega) ?_ hs
          rw [← hb]
          show _ = bootS d.cache (if true then updB s k ((d.cache k).getD []) else s) ks _
          rw [hck]; rfl
      | false =>
        rw [hbv] at hb
        try simp only [DI_int', DB_bool, DS_string, DP_pointer, DSl_slice, DM_map, DA_agg, DTup_tuple, DCons_cons, DNil_nil, NN_some, BIf_true, BIf_false, BIf_same, List.toList_toArray, Bool.not_true, Bool.not_false]
        rw [i64w (x := (j : Int) + 1) (by omega) (by omega)]
        exact Boot_loop K hR hn hn4 hn40 hall sF hK ks (j + 1) s H hrest (by omega) hb hs
    · refine BIf_dneg (by omega) ?_
      rw [i64w (x := (j : Int) + 1) (by omega) (by omega)]
      rw [List.drop_eq_nil_of_le (by omega), bootS_nil] at hb
      refine Boot_loop K hR hn hn4 hn40 hall sF hK ks (j + 1) s H hrest (by omega) ?_ hs
      rw [List.drop_eq_nil_of_le (by omega), bootS_nil]
      exact hb

/-- The power comes again. -/
theorem Boot_tr {p : Nat} {d : D} (hok : Ok d) (hd : Dom d) (hdn : d.down = true) (A : Option Addr) (n m : Nat) (keep : List Bool) (hn : n = keep.length) (R : As) (hR : ∀ H, R H → Cells H A (boolVals keep)) :
    Tr Try.prog 14 #[.pointer (some ⟨p, 0, none⟩), .slice A n m] [Dk p d, R] fun v M => ∃ ks, KeysOf (strM d.cache) ks ∧ v = .int .i64 0 ∧ M = [Dk p (D.boot d ks keep), R] := fun H hs => by
  have hsec := hok.sec
  obtain ⟨r1, r2, r3, hp⟩ := Dk.see hs 0 rfl
  apply W_disk_Disk_Boot.ok
  unfold W_disk_Disk_Boot
  simp only [NN_some, Addr.add_lit', Addr.add_zero, Nat.zero_add, Nat.add_zero]
  refine Ld_obj hp (v := .bool d.down) rfl ?_
  rw [hdn]
  simp only [DI_int', DB_bool, DS_string, DP_pointer, DSl_slice, DM_map, DA_agg, DTup_tuple, DCons_cons, DNil_nil, NN_some, BIf_true, BIf_false, BIf_same, List.toList_toArray, Bool.not_true, Bool.not_false]
  refine (Dirty_tr hok hd).use hs [0] rfl rfl ?_
  rintro _ _ H ⟨ks, A4, cap, hks, hkl, rfl, rfl⟩ hs
  simp only [DI_int', DB_bool, DS_string, DP_pointer, DSl_slice, DM_map, DA_agg, DTup_tuple, DCons_cons, DNil_nil, NN_some, BIf_true, BIf_false, BIf_same, List.toList_toArray, Bool.not_true, Bool.not_false]
  obtain ⟨r1, r2, r3, hs⟩ := Dk.open hs
  refine ⟨ks.length + 1, ?_⟩
  refine Boot_loop _ (d := d) (A4 := A4) (m4 := cap) (all := ks) (keepAll := keep) (R := R) hR hn rfl (by omega) (fun k hk => by have := (hks.mem k).1 hk; rw [strM_some] at this; exact this) (bootS d.cache d.safe ks keep) (fun H hs => ⟨_, ⟨ks, hks, rfl, rfl⟩, ?_⟩) ks 0 d.safe H rfl (Nat.zero_le _) rfl hs
  exact Dk.shut (d := D.boot d ks keep) (hs.re [0, 1, 2, 3, 5] rfl)

theorem Boot_up {p : Nat} {d : D} (hdn : d.down = false) (A : Option Addr) (n m : Nat) {L : List As} {H : Hp} (hs : Sep L H) (i : Nat) (hi : L[i]? = some (Dk p d)) :
    HCalls Try.prog 14 #[.pointer (some ⟨p, 0, none⟩), .slice A n m] H (RetE (.int .i64 5) H) := by
  obtain ⟨r1, r2, r3, hp⟩ := Dk.see hs i hi
  apply W_disk_Disk_Boot.ok
  unfold W_disk_Disk_Boot
  simp only [NN_some, Addr.add_lit', Addr.add_zero, Nat.zero_add, Nat.add_zero]
  refine Ld_obj hp (v := .bool d.down) rfl ?_
  rw [hdn]
  simp only [DI_int', DB_bool, DS_string, DP_pointer, DSl_slice, DM_map, DA_agg, DTup_tuple, DCons_cons, DNil_nil, NN_some, BIf_true, BIf_false, BIf_same, List.toList_toArray, Bool.not_true, Bool.not_false]
  exact RetE.mk _ _

end Go.Proofs.Ytbnhfcdagoigkaa.Dsk
