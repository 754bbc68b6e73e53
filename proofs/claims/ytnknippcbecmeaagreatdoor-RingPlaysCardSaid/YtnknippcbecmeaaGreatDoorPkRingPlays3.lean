import Derived.Lib.LaidTab
import Derived.Stop.LaidErr
import Derived.Test.YtnknippcbecmeaaGreatDoorProg
import Derived.Shelf.Strconv.Itoa0
import Derived.Shelf.Strings.Trim
import Derived.Test.YtnknippcbecmeaaGreatDoorPkRingPlays2
set_option maxRecDepth 100000
set_option linter.unusedSimpArgs false
set_option linter.unusedVariables false
set_option linter.unnecessarySimpa false
set_option linter.unusedSectionVars false
section
/- disk: Dirty, Boot, Crash, Fuse. -/
namespace Go.Proofs.YtnknippcbecmeaaGreatDoor.Dsk
open Go Go.Hw Go.Form W
def Dom (d : D) : Prop := ∀ k, (d.cache k).isSome = true → 0 ≤ k ∧ k < d.sec
theorem strM_some (m : Int → Option (List UInt8)) (k : Int) : (strM m k).isSome = (m k).isSome := by unfold strM; cases m k <;> rfl
theorem Dirty_tr {p : Nat} {d : D} (hok : Ok d) (hd : Dom d) : Tr Tryz.prog 30 #[.pointer (some ⟨p, 0, none⟩)] [Dk p d] fun v M =>
    ∃ ks A cap, KeysOf (strM d.cache) ks ∧ ks.length ≤ d.sec ∧ v = .slice A ks.length cap ∧ M = [Dk p d, Own 3 1 A ks.length cap (ks.map (Value.int .i64))] := fun H hs => by
  have hsec := hok.sec
  obtain ⟨r1, r2, r3, hs⟩ := Dk.open hs
  apply W_disk_Disk_Dirty.ok
  unfold W_disk_Disk_Dirty
  simp only [NN_some, Addr.add_lit', Addr.add_zero, Nat.zero_add, Nat.add_zero]
  refine hs.ld 0 rfl rfl ?_
  simp only [HV]
  refine (Keys_string r3 H).mono ?_
  rintro _ _ ⟨b, hb, rfl, rfl⟩
  have hs := hs.new hb (.obj (.cells #[.map (some r3)] 45))
  obtain ⟨H1, ⟨l, clock, hr1, hgk⟩, hle⟩ := hs.see 3 rfl
  refine (Sorted_string hgk (N := d.sec) (by omega) (fun k hk => hd k (by rw [strM_some] at hk; exact hk)) _ (hle _ _ hr1) (hs.get 4 rfl)).mono ?_
  rintro _ _ ⟨ks, hks, hkl, ⟨h0, rfl, rfl⟩ | ⟨b', cap, rfl, hcap, hn, rfl⟩⟩
  · simp only [HV]
    subst h0
    refine ⟨_, ⟨[], .none, 0, hks, hkl, rfl, rfl⟩, ?_⟩
    have hs2 : Sep (Own 3 1 .none 0 0 [] :: [pts p (dskO d r1 r2 r3), Mp r1 (strM d.safe), Mp r2 (tchM d.tch), Mp r3 (strM d.cache)]) _ := ⟨fun _ => none, _, fun _ _ h => (nomatch h), Hp.le_refl _, fun _ => .inl rfl, Own.none _ _ _, hs.re [0, 1, 2, 3] rfl⟩
    exact Dk.shut (hs2.re [1, 2, 3, 4, 0] rfl)
  · simp only [HV]
    have hs2 := hs.new hn (.row (ks.map (Value.int .i64)) 3 cap)
    have hs3 := hs2.turn 5 (B := Own 3 1 (some ⟨b', 0, none⟩) ks.length cap (ks.map (Value.int .i64))) rfl fun H1 hH => ⟨by simp, .inr ⟨b', cap, rfl, hH, by omega⟩⟩
    exact ⟨_, ⟨ks, some ⟨b', 0, none⟩, cap, hks, hkl, rfl, rfl⟩, Dk.shut (hs3.re [0, 1, 2, 3, 5] rfl)⟩
theorem Crash_tr {p : Nat} {d : D} : Tr Tryz.prog 31 #[.pointer (some ⟨p, 7, none⟩)] [Dk p d] fun v M => v = .tuple #[] ∧ M = [Dk p { d with down := true, fuse := 0 }] := fun H hs => by
  obtain ⟨r1, r2, r3, hs⟩ := Dk.open hs
  apply W_disk_power_Crash.ok
  unfold W_disk_power_Crash
  simp only [NN_some, Addr.add_lit', Addr.add_zero, Nat.zero_add, Nat.add_zero]
  refine hs.st 0 rfl (by show 7 < 10; omega) rfl fun H hs => ?_
  refine hs.st 0 rfl (by show 8 < 10; omega) rfl fun H hs => ?_
  exact ⟨_, ⟨trivial, rfl⟩, Dk.shut (d := { d with down := true, fuse := 0 }) hs⟩
def bootS (c : Int → Option (List UInt8)) : (Int → Option (List UInt8)) → List Int → List Bool → (Int → Option (List UInt8))
  | s, k :: ks, b :: bs => bootS c (if b then updB s k ((c k).getD []) else s) ks bs
  | s, _, _ => s
def D.boot (d : D) (ks : List Int) (keep : List Bool) : D := { d with safe := bootS d.cache d.safe ks keep, cache := fun _ => none, down := false }
def boolVals (l : List Bool) : List Value := l.map Value.bool
theorem bootS_nil (c s : Int → Option (List UInt8)) (ks : List Int) : bootS c s ks [] = s := by cases ks <;> rfl
theorem Boot_loop (K : Value → Hp → Prop) {p r1 r2 r3 : Nat} {d : D} {A A4 : Option Addr} {n4 m n m4 : Nat} {all : List Int} {keepAll : List Bool} {R : As} (hR : ∀ H, R H → Cells H A (boolVals keepAll)) (hn : n = keepAll.length) (hn4 : n4 = all.length) (hn40 : n4 ≤ 1048576) (hall : ∀ k ∈ all, (d.cache k).isSome = true) (sF : Int → Option (List UInt8))
    (hK : ∀ H, Sep [pts p (dskO { d with down := false } r1 r2 r3), Mp r1 (strM sF), Mp r2 (tchM d.tch), Mp r3 (strM fun _ => none), Own 3 1 A4 n4 m4 (all.map (Value.int .i64)), R] H → K (.int .i64 0) H) :
    ∀ (ks : List Int) (j : Nat) (s : Int → Option (List UInt8)) (H : Hp), all.drop j = ks → j ≤ n4 → bootS d.cache s ks (keepAll.drop j) = sF →
      Sep [pts p (dskO d r1 r2 r3), Mp r1 (strM s), Mp r2 (tchM d.tch), Mp r3 (strM d.cache), Own 3 1 A4 n4 m4 (all.map (Value.int .i64)), R] H →
      W_disk_Disk_Boot.l4 K (ks.length + 1) (some ⟨p, 0, none⟩) A n m A4 n4 m4 (n4 : Int) (j : Int) H
  | [], j, s, H, hd, hj, hb, hs => by
    have hjn : j = n4 := by
      have := congrArg List.length hd
      simp at this; omega
    subst hjn
    unfold W_disk_Disk_Boot.l4
    refine BIf_dneg (by omega) ?_
    simp only [NN_some, Addr.add_lit', Addr.add_zero, Nat.zero_add, Nat.add_zero]
    refine hs.ld 0 rfl rfl ?_
    simp only [HV]
    refine hs.clearK u_int u_strm 3 rfl fun H hs => ?_
    refine hs.st 0 rfl (by show 7 < 10; omega) rfl fun H hs => ?_
    have hb' : s = sF := hb
    rw [hb'] at hs
    exact hK H hs
  | k :: ks, j, s, H, hd, hj, hb, hs => by
    have hjl : j < all.length := by
      have := congrArg List.length hd
      simp at this; omega
    have hget : all[j] = k := by
      have := List.drop_eq_getElem_cons hjl
      rw [this] at hd
      exact (List.cons.inj hd).1
    have hrest : all.drop (j + 1) = ks := by
      have := List.drop_eq_getElem_cons hjl
      rw [this] at hd
      exact (List.cons.inj hd).2
    have hkc := hall k (by rw [← hget]; exact List.getElem_mem _)
    unfold W_disk_Disk_Boot.l4
    refine BIf_dpos (by omega) ?_
    refine (hs.own 4 rfl).rd1 (v := .int .i64 k) rfl (by rw [List.getElem?_map, List.getElem?_eq_getElem hjl, hget]; rfl) ?_
    simp only [HV]
    by_cases hjk : j < n
    · refine BIf_dpos (by omega) ?_
      have hkl : j < keepAll.length := by omega
      have hkd : keepAll.drop j = keepAll[j] :: keepAll.drop (j + 1) := List.drop_eq_getElem_cons hkl
      rw [hkd] at hb
      obtain ⟨H1, hR1, hle⟩ := hs.see 5 (A := R) rfl
      refine ((hR H1 hR1).le hle).read (v := .bool keepAll[j]) (by unfold boolVals; rw [List.getElem?_map, List.getElem?_eq_getElem hkl]; rfl) rfl (by unfold boolVals; rw [List.length_map]; omega) ?_
      simp only [HV]
      cases hbv : keepAll[j] with
      | true =>
        rw [hbv] at hb
        try simp only [HV]
        try simp only [NN_some, Addr.add_lit', Addr.add_zero, Nat.zero_add, Nat.add_zero]
        refine hs.ld 0 rfl rfl ?_
        simp only [HV]
        refine hs.ld 0 rfl rfl ?_
        simp only [HV]
        obtain ⟨jz, hz1, hz2⟩ := z_str
        obtain ⟨H1, ⟨l, clock, hr1, hgk⟩, hle⟩ := hs.see 3 rfl
        refine lookupK u_int u_strm hz1 hz2 (hle _ _ hr1) false ?_
        rw [hgk.get]
        cases hck : d.cache k with
        | none => rw [hck] at hkc; cases hkc
        | some bs =>
          rw [show strM d.cache k = some (strV bs) by unfold strM; rw [hck]; rfl]
          show DS (.string ⟨bs.toArray⟩) _
          simp only [HV]
          refine hs.upd u_int u_strm 1 rfl fun H hs => ?_
          rw [show (Value.string ⟨bs.toArray⟩) = strV bs from rfl, updB_M] at hs
          rw [i64w (x := (j : Int) + 1) (by omega) (by omega)]
          refine Boot_loop K hR hn hn4 hn40 hall sF hK ks (j + 1) (updB s k bs) H hrest (by omega) ?_ hs
          rw [← hb]
          show _ = bootS d.cache (if true then updB s k ((d.cache k).getD []) else s) ks _
          rw [hck]; rfl
      | false =>
        rw [hbv] at hb
        try simp only [HV]
        rw [i64w (x := (j : Int) + 1) (by omega) (by omega)]
        exact Boot_loop K hR hn hn4 hn40 hall sF hK ks (j + 1) s H hrest (by omega) hb hs
    · refine BIf_dneg (by omega) ?_
      rw [i64w (x := (j : Int) + 1) (by omega) (by omega)]
      rw [List.drop_eq_nil_of_le (by omega), bootS_nil] at hb
      refine Boot_loop K hR hn hn4 hn40 hall sF hK ks (j + 1) s H hrest (by omega) ?_ hs
      rw [List.drop_eq_nil_of_le (by omega), bootS_nil]
      exact hb
theorem Boot_tr {p : Nat} {d : D} (hok : Ok d) (hd : Dom d) (hdn : d.down = true) (A : Option Addr) (n m : Nat) (keep : List Bool) (hn : n = keep.length) (R : As) (hR : ∀ H, R H → Cells H A (boolVals keep)) :
    Tr Tryz.prog 33 #[.pointer (some ⟨p, 0, none⟩), .slice A n m] [Dk p d, R] fun v M => ∃ ks, KeysOf (strM d.cache) ks ∧ v = .int .i64 0 ∧ M = [Dk p (D.boot d ks keep), R] := fun H hs => by
  have hsec := hok.sec
  obtain ⟨r1, r2, r3, hp⟩ := Dk.see hs 0 rfl
  apply W_disk_Disk_Boot.ok
  unfold W_disk_Disk_Boot
  simp only [NN_some, Addr.add_lit', Addr.add_zero, Nat.zero_add, Nat.add_zero]
  refine Ld_obj hp (v := .bool d.down) rfl ?_
  rw [hdn]
  simp only [HV]
  refine (Dirty_tr hok hd).use hs [0] rfl rfl ?_
  rintro _ _ H ⟨ks, A4, cap, hks, hkl, rfl, rfl⟩ hs
  simp only [HV]
  obtain ⟨r1, r2, r3, hs⟩ := Dk.open hs
  refine ⟨ks.length + 1, ?_⟩
  refine Boot_loop _ (d := d) (A4 := A4) (m4 := cap) (all := ks) (keepAll := keep) (R := R) hR hn rfl (by omega) (fun k hk => by have := (hks.mem k).1 hk; rw [strM_some] at this; exact this) (bootS d.cache d.safe ks keep) (fun H hs => ⟨_, ⟨ks, hks, rfl, rfl⟩, ?_⟩) ks 0 d.safe H rfl (Nat.zero_le _) rfl hs
  exact Dk.shut (d := D.boot d ks keep) (hs.re [0, 1, 2, 3, 5] rfl)
end Go.Proofs.YtnknippcbecmeaaGreatDoor.Dsk
end
section
/- disk: what stays; the law DiskMakes. -/
namespace Go.Proofs.YtnknippcbecmeaaGreatDoor.Dsk
open Go Go.Hw Go.Form W
theorem bootS_or {c : Int → Option (List UInt8)} : ∀ (ks : List Int) (bs : List Bool) (s : Int → Option (List UInt8)), (∀ k ∈ ks, (c k).isSome = true) → ∀ i, bootS c s ks bs i = s i ∨ ((c i).isSome = true ∧ bootS c s ks bs i = c i)
  | [], bs, s, _, i => .inl rfl
  | k :: ks, [], s, _, i => .inl rfl
  | k :: ks, b :: bs, s, hk, i => by
    have ih := bootS_or ks bs (if b then updB s k ((c k).getD []) else s) (fun k hm => hk k (by simp [hm])) i
    show bootS c (if b then updB s k ((c k).getD []) else s) ks bs i = s i ∨ _ ∧ bootS c (if b then updB s k ((c k).getD []) else s) ks bs i = c i
    rcases ih with h | h
    · rw [h]
      cases b with
      | false => exact .inl rfl
      | true =>
        by_cases e : i = k
        · subst e
          refine .inr ⟨hk i (by simp), ?_⟩
          have := hk i (by simp)
          cases hc : c i with
          | none => rw [hc] at this; cases this
          | some x => simp [updB]
        · exact .inl (by simp [updB, e])
    · exact .inr h
theorem Ok.writeD {d : D} (h : Ok d) (i : Int) (bs : List UInt8) : Ok (d.writeD i bs) := by
  unfold D.writeD
  split
  · exact h
  · split
    · exact h
    · rename_i hl
      have hb := Ok.burnt h
      split
      · exact hb
      · unfold D.wrote
        refine ⟨hb.sec, hb.size, hb.big, hb.per, hb.safe, fun k b hk => ?_, hb.fz⟩
        have hk' : (if k = i then some bs else d.cache k) = some b := hk
        have hsz : d.burnt.size = d.size := (burnt_rd d).2.2.2.1
        split at hk'
        · cases hk'; show bs.length = d.burnt.size; rw [hsz]; omega
        · show b.length = d.burnt.size; rw [hsz]; exact h.cache k b hk'
theorem Dom.writeD {d : D} (h : Dom d) (i : Int) (bs : List UInt8) : Dom (d.writeD i bs) := by
  have hbr := burnt_rd d
  unfold D.writeD
  split
  · exact h
  · rename_i hc
    split
    · exact h
    · split
      · intro k hk
        rw [hbr.2.2.2.2.2.2.1] at hk
        rw [hbr.2.2.2.2.1]
        exact h k hk
      · intro k hk
        have hk' : (if k = i then some bs else d.cache k).isSome = true := hk
        show 0 ≤ k ∧ k < (d.burnt.sec : Int)
        rw [hbr.2.2.2.2.1]
        split at hk'
        · rename_i e; subst e
          have := chk_in (d := d) (i := k) (by simpa using hc)
          omega
        · exact h k hk'
theorem Ok.crash {d : D} (h : Ok d) : Ok { d with down := true, fuse := 0 } := ⟨h.sec, h.size, h.big, h.per, h.safe, h.cache, Nat.zero_le _⟩
theorem Ok.boot {d : D} (h : Ok d) {ks : List Int} (hk : KeysOf (strM d.cache) ks) (keep : List Bool) : Ok (D.boot d ks keep) := by
  refine ⟨h.sec, h.size, h.big, h.per, fun k b hb => ?_, fun k b hb => (by cases hb), h.fz⟩
  have hb' : bootS d.cache d.safe ks keep k = some b := hb
  rcases bootS_or ks keep d.safe (fun k hm => by have := (hk.mem k).1 hm; rw [strM_some] at this; exact this) k with e | ⟨_, e⟩
  · rw [e] at hb'; exact h.safe k b hb'
  · rw [e] at hb'; exact h.cache k b hb'
theorem Dom.boot (d : D) (ks : List Int) (keep : List Bool) : Dom (D.boot d ks keep) := fun k hk => by cases hk
end Go.Proofs.YtnknippcbecmeaaGreatDoor.Dsk
end
section
/- disk: Sync; and what the laws of the layer do with a disk. -/
namespace Go.Proofs.YtnknippcbecmeaaGreatDoor.Dsk
open Go Go.Hw Go.Form W
def mergeB (s c : Int → Option (List UInt8)) : Int → Option (List UInt8) := fun i => match c i with | some b => some b | none => s i
theorem born_inj {l : List (Int × Value × Nat)} (h : (l.map (·.2.2)).Nodup) {x y : Int × Value × Nat} (hx : x ∈ l) (hy : y ∈ l) (e : x.2.2 = y.2.2) : x = y := by
  induction l with
  | nil => simp at hx
  | cons z l ih =>
    simp only [List.map_cons, List.nodup_cons] at h
    rcases List.mem_cons.1 hx with ex | hx'
    · rcases List.mem_cons.1 hy with ey | hy'
      · rw [ex, ey]
      · exact absurd (by rw [← ex, e]; exact List.mem_map_of_mem hy') h.1
    · rcases List.mem_cons.1 hy with ey | hy'
      · exact absurd (by rw [← ey, ← e]; exact List.mem_map_of_mem hx') h.1
      · exact ih h.2 hx' hy'
theorem mcopy_loop (K : Value → Hp → Prop) {r1 r2 it cl : Nat} {c s : Int → Option (List UInt8)} {l : List (Int × Value × Nat)} (hok : OkK l cl (strM c))
    (hK : ∀ H, Sep [Mp r1 (strM (mergeB s c)), pts r2 (kmap l cl)] H → K (.tuple #[]) H) :
    ∀ (t : Nat) (sj : Int → Option (List UInt8)) (seen : Array Nat) (last : Nat) (H : Hp), (unseenK l seen).length ≤ t → (∀ x ∈ l, x.2.2 < last) → (∀ i, (∀ x ∈ unseenK l seen, x.1 ≠ i) → sj i = mergeB s c i) →
      Sep [Mp r1 (strM sj), pts r2 (kmap l cl), pts it (iterO r2 cl seen last)] H → W_maps_Copy_map_int_string_map_int_string_int_string.l1 K (t + 1) (some r1) (.pointer (some ⟨it, 0, none⟩)) H := fun t => by
  induction t with
  | zero =>
    intro sj seen last H ht hlast hsj hs
    unfold W_maps_Copy_map_int_string_map_int_string_int_string.l1
    have h0 : unseenK l seen = [] := List.length_eq_zero_iff.1 (by omega)
    refine next_K (hs.get 2 rfl) (hs.get 1 rfl) hok.bl hlast (fun x hx => by rw [h0] at hx; simp at hx) (fun _ => ?_)
    simp only [Ex, List.getElem?_toArray, List.getElem?_cons_zero, DB_bool, BIf_false]
    refine hK H ?_
    have : sj = mergeB s c := funext fun i => hsj i (fun x hx => by rw [h0] at hx; simp at hx)
    rw [← this]
    exact hs.re [0, 1] rfl
  | succ t ih =>
    intro sj seen last H ht hlast hsj hs
    unfold W_maps_Copy_map_int_string_map_int_string_int_string.l1
    refine next_K (hs.get 2 rfl) (hs.get 1 rfl) hok.bl hlast (fun x hx => ?_) (fun h0 => ?_)
    · simp only [Ex, List.getElem?_toArray, List.getElem?_cons_zero, DB_bool, BIf_true]
      have hxl : x ∈ l := (List.mem_filter.1 hx).1
      have hs := hs.put 2 (iterO r2 cl (seen.push x.2.2) cl) rfl
      refine entry_K (hs.get 2 rfl) (hs.get 1 rfl) hxl (by simp) hok.bn ?_
      simp only [Ex, List.getElem?_toArray, List.getElem?_cons_zero, List.getElem?_cons_succ]
      have hg : strM c x.1 = some x.2.1 := by rw [← hok.get, getK_mem hok.nd hxl]
      obtain ⟨b, hcb, hxb⟩ : ∃ b, c x.1 = some b ∧ x.2.1 = strV b := by
        unfold strM at hg
        cases hc : c x.1 with
        | none => rw [hc] at hg; cases hg
        | some b => rw [hc] at hg; exact ⟨b, rfl, (Option.some.inj hg).symm⟩
      rw [hxb]
      show DI .i64 (.int .i64 x.1) fun x1 => DS (.string ⟨b.toArray⟩) _
      simp only [HV]
      refine hs.upd u_int u_strm 0 rfl fun H hs => ?_
      rw [show (Value.string ⟨b.toArray⟩) = strV b from rfl, updB_M] at hs
      have hlt := unseenK_lt hx
      refine ih (updB sj x.1 b) (seen.push x.2.2) cl H (by omega) hok.bl (fun i hi => ?_) hs
      by_cases e : i = x.1
      · subst e
        unfold mergeB updB
        rw [hcb]; simp
      · unfold updB
        rw [if_neg e]
        refine hsj i fun y hy ey => ?_
        obtain ⟨hyl, hys⟩ := List.mem_filter.1 hy
        have hne : y.2.2 ≠ x.2.2 := fun e2 => e (by rw [← ey, born_inj hok.bn hyl hxl e2])
        refine hi y (List.mem_filter.2 ⟨hyl, ?_⟩) ey
        rw [Array.contains_push]
        simp only [Bool.not_eq_true', Bool.or_eq_false_iff] at hys ⊢
        exact ⟨hys, by simpa using hne⟩
    · simp only [Ex, List.getElem?_toArray, List.getElem?_cons_zero, DB_bool, BIf_false]
      refine hK H ?_
      have : sj = mergeB s c := funext fun i => hsj i (fun x hx => by rw [h0] at hx; simp at hx)
      rw [← this]
      exact hs.re [0, 1] rfl
theorem mcopy_tr (r1 r2 : Nat) (s c : Int → Option (List UInt8)) : Tr Tryz.prog 88 #[.map (some r1), .map (some r2)] [Mp r1 (strM s), Mp r2 (strM c)] fun v M =>
    v = .tuple #[] ∧ M = [Mp r1 (strM (mergeB s c)), Mp r2 (strM c)] := fun H hs => by
  have hs0 := hs
  obtain ⟨H1, ⟨l, clock, hr1, hok⟩, hle⟩ := hs.see 1 rfl
  apply W_maps_Copy_map_int_string_map_int_string_int_string.ok
  unfold W_maps_Copy_map_int_string_map_int_string_int_string
  refine range_K u_strm (hle _ _ hr1) fun it hit => ?_
  have hs1 : Sep [Mp r1 (strM s), pts r2 (kmap l clock)] H := hs.turn' 1 rfl fun H2 hle2 hA => by
    obtain ⟨l2, clock2, h2, _⟩ := hA
    have e1 := hle2 _ _ h2
    have e2 := hle _ _ hr1
    rw [e1] at e2
    show H2 r2 = some (kmap l clock)
    rw [h2, e2]
  have hs2 := hs1.new hit (iterO r2 clock #[] clock)
  refine ⟨l.length + 1, ?_⟩
  refine mcopy_loop _ (s := s) hok (fun H hs => ⟨_, ⟨rfl, rfl⟩, hs.turn 1 rfl fun H2 hA => ⟨l, clock, hA, hok⟩⟩) l.length s #[] clock _ ?_ hok.bl (fun i hi => ?_) hs2
  · unfold unseenK; exact List.length_filter_le _ _
  · unfold mergeB
    have hn : c i = none := by
      have : getK l i = none := getK_none.2 fun x hx => hi x (by unfold unseenK; simp [hx])
      rw [hok.get] at this
      unfold strM at this
      cases hc : c i with
      | none => rfl
      | some b => rw [hc] at this; cases this
    rw [hn]
def D.synced (d : D) : D := { d.burnt with sy := d.sy + 1, safe := mergeB d.safe d.cache, cache := fun _ => none }
def D.syncE (d : D) : Int := if d.down then 8 else if d.burns then 8 else 0
def D.syncD (d : D) : D := if d.down then d else if d.burns then d.burnt else d.synced
theorem Sync_tr {p : Nat} {d : D} (hok : Ok d) (ho : d.sy ≤ 4611686018427387904) : Tr Tryz.prog 47 #[.pointer (some ⟨p, 0, none⟩)] [Dk p d] fun v M => v = .int .i64 d.syncE ∧ M = [Dk p d.syncD] := fun H hs => by
  have hf := hok.fz
  obtain ⟨r1, r2, r3, hp⟩ := Dk.see hs 0 rfl
  apply W_disk_Disk_Sync.ok
  unfold W_disk_Disk_Sync
  simp only [NN_some, Addr.add_lit', Addr.add_zero, Nat.zero_add, Nat.add_zero]
  refine Ld_obj hp (v := .bool d.down) rfl ?_
  simp only [HV]
  cases hdn : d.down with
  | true => exact BIf_pos rfl ⟨_, ⟨by simp [D.syncE, hdn], by simp [D.syncD, hdn]⟩, hs⟩
  | false =>
    refine BIf_neg rfl ?_
    refine (burns_tr hf).use hs [0] rfl rfl ?_
    rintro _ _ H ⟨rfl, rfl⟩ hs
    simp only [HV]
    cases hb : d.burns with
    | true => exact BIf_pos rfl ⟨_, ⟨by simp [D.syncE, hdn, hb], by simp [D.syncD, hdn, hb]; rfl⟩, hs⟩
    | false =>
      refine BIf_neg rfl ?_
      have hbr := burnt_rd d
      obtain ⟨r1, r2, r3, hs⟩ := Dk.open hs
      try simp only [NN_some, Addr.add_lit', Addr.add_zero, Nat.zero_add, Nat.add_zero]
      refine hs.ld 0 rfl rfl ?_
      simp only [HV]
      refine hs.st 0 rfl (by show 5 < 10; omega) rfl fun H hs => ?_
      rw [hbr.2.2.1] at hs
      rw [i64w (x := (d.sy : Int) + 1) (by omega) (by omega)] at hs
      refine hs.ld 0 rfl rfl ?_
      simp only [HV]
      refine hs.ld 0 rfl rfl ?_
      simp only [HV]
      rw [hbr.2.2.2.2.2.1, hbr.2.2.2.2.2.2.1] at hs
      refine (mcopy_tr r1 r3 d.safe d.cache).use hs [1, 3] rfl rfl ?_
      rintro _ _ H ⟨rfl, rfl⟩ hs
      try simp only [HV]
      refine hs.ld 2 rfl rfl ?_
      simp only [HV]
      refine hs.clearK u_int u_strm 1 rfl fun H hs => ?_
      refine ⟨_, ⟨by simp [D.syncE, hdn, hb], by simp [D.syncD, hdn, hb]; rfl⟩, ?_⟩
      exact Dk.shut (d := d.synced) (r1 := r1) (r2 := r2) (r3 := r3) (hs.re [2, 0, 3, 1] rfl)
end Go.Proofs.YtnknippcbecmeaaGreatDoor.Dsk
end
section
/- disk: what the law DiskSafe does with a disk. -/
namespace Go.Proofs.YtnknippcbecmeaaGreatDoor.Dsk
open Go Go.Hw Go.Form W
theorem CellsS.rdA {s : Nat} {H : Hp} {A : Option Addr} {rows : List (List Value)} (h : CellsS s H A rows) {i : Nat} {r : List Value} (hi : rows[i]? = some r) (hr : r.length = s) {x : Int} (hx : x = i) {n : Nat} (hn : rows.length ≤ n) {K : List Value → Prop} (k : K r) :
    ixI x n (NN A fun a => LdA H (a.add (x.toNat * s)) s K) := by
  obtain ⟨a, rfl, hc⟩ := h i r hi
  subst hx
  have := (List.getElem?_eq_some_iff.1 hi).1
  refine ⟨by omega, by omega, ?_⟩
  rw [Int.toNat_natCast]
  have hcells : Cells H (some (a.add (i * s))) r := fun j v hj => ⟨_, rfl, by rw [add_add]; exact hc j v hj⟩
  have := hcells.cells?
  rw [hr] at this
  show LdA H (a.add (i * s)) s K
  unfold LdA
  rw [this]
  exact k
structure Act where
  k : Int
  i : Int
  A : Option Addr
  n : Nat
  m : Nat
  b : List UInt8
  A' : Option Addr
  n' : Nat
  m' : Nat
  ks : List Bool
def actRow (a : Act) : List Value := [.int .i64 a.k, .int .i64 a.i, .slice a.A a.n a.m, .slice a.A' a.n' a.m']
structure OkA (H : Hp) (a : Act) : Prop where
  n : a.n = a.b.length
  b : Cells H a.A (byteVals a.b)
  n' : a.n' = a.ks.length
  ks : Cells H a.A' (boolVals a.ks)
  i : -9223372036854775808 ≤ a.i ∧ a.i ≤ 9223372036854775807
def laidB (bs : List UInt8) : List UInt8 := bs.take 32 ++ List.replicate (32 - bs.length) 0
theorem laidB_len (bs : List UInt8) : (laidB bs).length = 32 := by
  unfold laidB
  rw [List.length_append, List.length_take, List.length_replicate]; omega
end Go.Proofs.YtnknippcbecmeaaGreatDoor.Dsk
end
section
/- disk: an act of the law DiskSafe. -/
namespace Go.Proofs.YtnknippcbecmeaaGreatDoor.Dsk
open Go Go.Hw Go.Form W
structure Calm (d : D) : Prop where
  down : d.down = false
  fuse : d.fuse = 0
structure Next (d d' : D) : Prop where
  ok : Ok d'
  dom : Dom d'
  sec : d'.sec = d.sec
  size : d'.size = d.size
  rd : d'.rd ≤ d.rd + 1
  wr : d'.wr ≤ d.wr + 1
  sy : d'.sy ≤ d.sy + 1
section
variable {d : D} (h : Ok d) (hd : Dom d)
include h hd
theorem Next.refl : Next d d := ⟨h, hd, rfl, rfl, by omega, by omega, by omega⟩
theorem Next.burnt : Next d d.burnt := by
  have hb := burnt_rd d
  refine ⟨Ok.burnt h, fun k hk => ?_, hb.2.2.2.2.1, hb.2.2.2.1, by rw [hb.1]; omega, by rw [hb.2.1]; omega, by rw [hb.2.2.1]; omega⟩
  rw [hb.2.2.2.2.2.2.1] at hk
  rw [hb.2.2.2.2.1]; exact hd k hk
theorem Next.read : Next d { d.burnt with rd := d.rd + 1 } := by
  have hb := Next.burnt h hd
  exact ⟨⟨hb.ok.sec, hb.ok.size, hb.ok.big, hb.ok.per, hb.ok.safe, hb.ok.cache, hb.ok.fz⟩, hb.dom, hb.sec, hb.size, Nat.le_refl _, hb.wr, hb.sy⟩
theorem Next.write (i : Int) (bs : List UInt8) : Next d (d.writeD i bs) := by
  have hb := burnt_rd d
  have h1 := Ok.writeD h i bs
  have h2 := Dom.writeD hd i bs
  have hn := Next.burnt h hd
  unfold D.writeD at h1 h2 ⊢
  split
  · exact Next.refl h hd
  · rename_i c1
    rw [if_neg c1] at h1 h2
    split
    · exact Next.refl h hd
    · rename_i c2
      rw [if_neg c2] at h1 h2
      split
      · exact hn
      · rename_i c3
        rw [if_neg c3] at h1 h2
        exact ⟨h1, h2, hn.sec, hn.size, hn.rd, Nat.le_refl _, hn.sy⟩
theorem Next.sync : Next d d.syncD := by
  have hn := Next.burnt h hd
  have hb := burnt_rd d
  unfold D.syncD
  split
  · exact Next.refl h hd
  · split
    · exact hn
    · refine ⟨⟨hn.ok.sec, hn.ok.size, hn.ok.big, hn.ok.per, fun k b hk => ?_, fun k b hk => (by cases hk), hn.ok.fz⟩, fun k hk => (by cases hk), hn.sec, hn.size, hn.rd, hn.wr, Nat.le_refl _⟩
      have hk' : mergeB d.safe d.cache k = some b := hk
      show b.length = d.burnt.size
      rw [hb.2.2.2.1]
      unfold mergeB at hk'
      split at hk'
      · rename_i b' hc; cases hk'; exact h.cache k b hc
      · exact h.safe k b hk'
theorem Next.boot {ks : List Int} (hk : KeysOf (strM d.cache) ks) (keep : List Bool) : Next d (D.boot d ks keep) := ⟨Ok.boot h hk keep, Dom.boot d ks keep, rfl, rfl, Nat.le_succ _, Nat.le_succ _, Nat.le_succ _⟩
end
def Eff (d d' : D) (a : Act) (e : Int) : Prop := Calm d → a.k ≤ 2 → Calm d' ∧ d'.safe = d.safe ∧
  ((0 ≤ a.k ∧ a.k ≤ 1 ∧ e = 0) → (0 ≤ a.i ∧ a.i < d.sec) ∧ d'.cache = updB d.cache a.i (laidB a.b)) ∧ (¬ (0 ≤ a.k ∧ a.k ≤ 1 ∧ e = 0) → d'.cache = d.cache)
theorem Calm.burns {d : D} (h : Calm d) : d.burns = false := by unfold D.burns; rw [h.fuse]; rfl
theorem Calm.burnt {d : D} (h : Calm d) : d.burnt = d := by unfold D.burnt; rw [if_pos h.fuse]
theorem Eff.same {d : D} {a : Act} {e : Int} (h : ¬ (0 ≤ a.k ∧ a.k ≤ 1 ∧ e = 0)) : Eff d d a e := fun hc _ => ⟨hc, rfl, fun h' => absurd h' h, fun _ => rfl⟩
theorem Eff.write {d : D} {a : Act} (hz : d.size = 32) (hk : 0 ≤ a.k ∧ a.k ≤ 1) : Eff d (d.writeD a.i (laidB a.b)) a (d.writeE a.i 32) := fun hc _ => by
  have hl := laidB_len a.b
  by_cases h0 : d.chk a.i = 0
  · have e1 : d.writeE a.i 32 = 0 := by
      unfold D.writeE
      rw [if_neg (by rw [h0]; simp), if_neg (by omega), hc.burns]; rfl
    have e2 : d.writeD a.i (laidB a.b) = d.wrote a.i (laidB a.b) := by
      unfold D.writeD
      rw [if_neg (by rw [h0]; simp), if_neg (by omega), hc.burns]; rfl
    rw [e1, e2]
    have hb := hc.burnt
    have hr := chk_in h0
    unfold D.wrote
    rw [hb]
    exact ⟨⟨hc.down, hc.fuse⟩, rfl, fun _ => ⟨⟨hr.1, hr.2.1⟩, rfl⟩, fun h => absurd ⟨hk.1, hk.2, rfl⟩ h⟩
  · have e1 : d.writeE a.i 32 = d.chk a.i := by unfold D.writeE; rw [if_pos h0]
    have e2 : d.writeD a.i (laidB a.b) = d := by unfold D.writeD; rw [if_pos h0]
    rw [e1, e2]
    exact ⟨hc, rfl, fun h => absurd h.2.2 h0, fun _ => rfl⟩
theorem Eff.read {d : D} {a : Act} {e : Int} (hk : a.k = 2) : Eff d { d.burnt with rd := d.rd + 1 } a e := fun hc _ => by
  rw [hc.burnt]
  exact ⟨⟨hc.down, hc.fuse⟩, rfl, fun h => by omega, fun _ => rfl⟩
end Go.Proofs.YtnknippcbecmeaaGreatDoor.Dsk
end
section
/- A disk's contents: what calls leave, and what a power leaves that went. -/
namespace Go.Proofs.YtnknippcbecmeaaGreatDoor.Eng
open Go Go.Hw Go.Form Dsk Str
abbrev Cn := Int → List UInt8
structure Clean (d : D) (c : Cn) : Prop where
  ok : Ok d
  down : d.down = false
  cache : ∀ i, d.cache i = none
  sat : ∀ i, d.sat i = c i
theorem Clean.now {d : D} {c : Cn} (h : Clean d c) (i : Int) : d.now i = c i := by
  unfold D.now; rw [h.cache]; exact h.sat i
theorem Clean.dom {d : D} {c : Cn} (h : Clean d c) : Dom d := fun k hk => by rw [h.cache] at hk; cases hk
structure Went (d d' : D) (r w s : Nat) : Prop where
  fuse : d'.fuse = d.fuse - (r + w + s)
  go : d.fuse = 0 ∨ r + w + s < d.fuse
  sec : d'.sec = d.sec
  size : d'.size = d.size
  rd : d'.rd = d.rd + r
  wr : d'.wr = d.wr + w
  sy : d'.sy = d.sy + s
theorem Went.trans {d d1 d2 : D} {r w s r' w' s' : Nat} (h : Went d d1 r w s) (k : Went d1 d2 r' w' s') : Went d d2 (r + r') (w + w') (s + s') := by
  have h1 := h.fuse; have h2 := k.fuse; have h3 := h.go; have h4 := k.go; have h5 := h.rd; have h6 := k.rd; have h7 := h.wr; have h8 := k.wr; have h9 := h.sy; have h10 := k.sy
  exact ⟨by omega, by omega, k.sec.trans h.sec, k.size.trans h.size, by omega, by omega, by omega⟩
section
variable {S : Int → Prop} {d d1 : D} {c : Cn} {r w : Nat}
theorem Clean.prog (h : Clean d c) (p : Prog S d d1 r w) (i : Int) : d1.sat i = c i ∧ (¬ S i → d1.now i = c i) := by
  have e1 : d1.sat i = c i := by rw [← h.sat]; unfold D.sat; rw [p.safe, p.size]
  refine ⟨e1, fun hi => ?_⟩
  unfold D.now
  rw [p.cache i hi, h.cache]; exact e1
end
theorem Clean.fresh {sec size : Nat} (h1 : 1 ≤ sec ∧ sec ≤ 1048576) (h2 : 0 < Lay.perN size) (h3 : sec * size ≤ 67108864) : Clean (D.fresh sec size) fun _ => List.replicate size 0 :=
  ⟨Ok.fresh h1 h2 h3, rfl, fun _ => rfl, fun _ => rfl⟩
end Go.Proofs.YtnknippcbecmeaaGreatDoor.Eng
end
section
/- The frame of the proofs: an append's room; a part of a slice, as a source. -/
namespace Go.Hw
open Go
theorem AppK_cap {P : Program} {e : TypeId} {s x : Value} {H : Hp} {K : Value → Hp → Prop} (h : AppK P e s x H fun v H' => (∀ A n m, v = .slice A n m → n ≤ m) → K v H') : AppK P e s x H K := by
  unfold AppK at h ⊢
  split at h
  · split at h
    · obtain ⟨n, ys, h1, h2, h3, h4, h5, h6, h7, h8, h9⟩ := h
      refine ⟨n, ys, h1, h2, h3, h4, h5, h6, h7, h8, h9.imp ?_ ?_⟩
      · rintro ⟨e1, e2, e3, k0, k⟩
        refine ⟨e1, e2, e3, fun h0 => k0 h0 (fun A n m e => by cases e; exact Nat.le_refl _), fun hp c hc b hb => k hp c hc b hb (fun A n m e => by cases e; exact hc)⟩
      · rintro ⟨b0, xs, m, e1, e2, e3, e4, k⟩
        exact ⟨b0, xs, m, e1, e2, e3, e4, fun c m' hc hl b hb => k c m' hc hl b hb (fun A n m e => by cases e; exact hl)⟩
    · exact h
  · exact h
theorem Nw_cap {P : Program} {e : TypeId} {s : Value} {x : Nat → Value} {H : Hp} {o : AO} {K : Value → Hp → Prop} (h : Nw H o fun b H' => AppK P e s (x b) H' fun v H' => (∀ A n m, v = .slice A n m → n ≤ m) → K v H') : Nw H o fun b H' => AppK P e s (x b) H' K := fun b hb => AppK_cap (h b hb)
theorem own_src {H : Hp} {e : TypeId} {s : Nat} {A : Option Addr} {n m : Nat} {xs : List Value} (h : Own e s A n m xs H) (hnm : n ≤ m) {l r : Nat} (hl : l ≤ r) (hr : r ≤ n) : srcCells H s (r - l) (.slice (slA A m l s) (r - l) (m - l)) = some ((xs.drop (l * s)).take ((r - l) * s)) := by
  obtain ⟨h1, ⟨rfl, rfl, rfl⟩ | ⟨b, mm, rfl, h4, h5⟩⟩ := h
  · obtain rfl : r = 0 := by omega
    obtain rfl : l = 0 := by omega
    rw [Nat.sub_self, Nat.zero_mul, List.take_zero]
    rfl
  · have hrs : r * s ≤ n * s := Nat.mul_le_mul_right s hr
    have hls : l * s + (r - l) * s = r * s := by rw [← Nat.add_mul, show l + (r - l) = r by omega]
    unfold slA
    split
    · obtain rfl : r = l := by omega
      rw [Nat.sub_self, Nat.zero_mul, List.take_zero]
      show H.cells? _ 0 (0 * s) = _
      rw [Nat.zero_mul]; rfl
    · show H.cells? ((⟨b, 0, none⟩ : Addr).add (l * s)) 0 ((r - l) * s) = _
      rw [Addr.add_lit', Nat.zero_add, cells_row h4 (l * s) ((r - l) * s) 0 (by omega), Nat.add_zero]
theorem own_row {L : List As} {H : Hp} (hs : Sep L H) (i : Nat) {b n m : Nat} {xs : List Value} {e : TypeId} {s : Nat} (hi : L[i]? = some (pts b (.row xs e m))) (hx : xs.length = n * s) (hm : m = n * s) : Sep (L.set i (Own e s (some ⟨b, 0, none⟩) n n xs)) H :=
  hs.turn i hi fun H1 hH => ⟨hx, .inr ⟨b, m, rfl, hH, by omega⟩⟩
end Go.Hw
end
section
/- The frame of the proofs: package variables that are laid: what their cells hold. -/
namespace Go.Hw
open Go Go.RowKit
def flatF : Nat → DataW Unit → List Value
  | 0, _ => []
  | _ + 1, .lit (.int k n) => [.int k n]
  | _ + 1, .lit (.string bs) => [.string ⟨bs.toArray⟩]
  | _ + 1, .lit (.bool b) => [.bool b]
  | f + 1, .agg ds => (ds.map (flatF f)).flatten
  | _ + 1, _ => []
def conts (P : Program) : List Field → Nat → Option Nat
  | [], o => some o
  | f :: l, o => if f.offset = o then conts P l (o + P.cellsOf f.type) else none
def flatOK (P : Program) : Nat → TypeId → Bool
  | 0, _ => false
  | f + 1, t =>
    match P.underlying t with
    | some (.int _) => true
    | some .string => true
    | some .bool => true
    | some (.array n e) => flatOK P f e && (P.cellsOf t == n * P.cellsOf e)
    | some (.struct fs) => fs.toList.all (fun x => flatOK P f x.type) && (conts P fs.toList 0 == some (P.cellsOf t))
    | _ => false
theorem chunks {α : Type} (k : Nat) : ∀ (n : Nat) (cs : List α) (ys : List (List α)), cs.length = n * k → ys.length = n → (∀ i, (h : i < ys.length) → (cs.drop (i * k)).take k = ys[i]) → cs = ys.flatten
  | 0, cs, ys, hl, hy, _ => by
    rw [Nat.zero_mul] at hl
    rw [List.length_eq_zero_iff.1 hl, List.length_eq_zero_iff.1 hy]; rfl
  | n + 1, cs, [], _, hy, _ => by simp at hy
  | n + 1, cs, y :: ys, hl, hy, h => by
    have h0 := h 0 (by simp)
    rw [Nat.zero_mul, List.drop_zero, List.getElem_cons_zero] at h0
    have ih := chunks k n (cs.drop k) ys (by rw [List.length_drop, hl, Nat.succ_mul]; omega) (by simpa using hy) fun i hi => by
      have := h (i + 1) (by simpa using hi)
      rw [List.getElem_cons_succ] at this
      rw [List.drop_drop, ← this, Nat.succ_mul, Nat.add_comm]
    rw [List.flatten_cons, ← ih, ← h0, List.take_append_drop]
theorem conts_flat {P : Program} : ∀ (l : List Field) (ys : List (List Value)) (o e : Nat) (cs : List Value), conts P l o = some e → cs.length = e → ys.length = l.length →
    (∀ (i : Nat) (f : Field), l[i]? = some f → ∃ y, ys[i]? = some y ∧ (cs.drop f.offset).take (P.cellsOf f.type) = y) → cs.drop o = ys.flatten
  | [], ys, o, e, cs, h, hl, hy, _ => by
    unfold conts at h
    cases h
    rw [List.drop_eq_nil_of_le (by omega), List.length_eq_zero_iff.1 hy]; rfl
  | f :: l, [], o, e, cs, h, hl, hy, _ => by simp at hy
  | f :: l, y :: ys, o, e, cs, h, hl, hy, hh => by
    unfold conts at h
    split at h
    · rename_i ho
      obtain ⟨y', e1, e2⟩ := hh 0 f (by simp)
      simp only [List.getElem?_cons_zero, Option.some.injEq] at e1
      subst e1
      have ih := conts_flat l ys _ e cs h hl (by simpa using hy) fun i f' hf => by
        have := hh (i + 1) f' (by simpa using hf)
        simpa using this
      rw [List.flatten_cons, ← ih, ← e2, ho, ← List.drop_drop, List.take_append_drop]
    · cases h
theorem flat_of_trod {enc : TypeId × Value → Unit} {P : Program} {w : World} {base : Nat} {sp : Nat → Bool} {held : Bool} : ∀ (f : Nat) {fuel : Nat} {t : TypeId} {cs : List Value} {d : DataW Unit} {p : List MemPlace},
    flatOK P f t = true → DataW.trod enc P w base sp held fuel t cs = some (d, p) → cs = flatF f d
  | 0, _, _, _, _, _, h, _ => by cases h
  | f + 1, fuel, t, cs, d, p, h, ht => by
    unfold flatOK at h
    split at h
    · rename_i k hu
      obtain ⟨n, rfl, e, _⟩ := DataW.trod_int hu ht
      cases e; rfl
    · rename_i hu
      obtain ⟨s, rfl, e, _⟩ := DataW.trod_string hu ht
      cases e; simp [flatF]
    · rename_i hu
      obtain ⟨b, rfl, e⟩ := DataW.trod_bool hu ht
      cases e; rfl
    · rename_i n e hu
      simp only [Bool.and_eq_true, beq_iff_eq] at h
      obtain ⟨xs, m, _, ex, hl, hn, hel⟩ := DataW.trod_array hu ht
      cases ex
      show cs = (((xs.map (·.1))).map (flatF f)).flatten
      refine chunks (P.cellsOf e) n cs _ (by rw [hl, h.2]) (by simpa using hn) fun i hi => ?_
      have hi' : i < xs.length := by simpa using hi
      have h1 := hel i (by omega)
      rw [List.getElem?_eq_getElem hi'] at h1
      have := flat_of_trod f (d := xs[i].1) (p := xs[i].2) h.1 h1
      rw [this]
      simp
    · rename_i fs hu
      simp only [Bool.and_eq_true, beq_iff_eq] at h
      obtain ⟨xs, m, _, ex, hl, hn, hel⟩ := DataW.trod_struct hu ht
      cases ex
      show cs = (((xs.map (·.1))).map (flatF f)).flatten
      have := conts_flat fs.toList (((xs.map (·.1))).map (flatF f)) 0 _ cs h.2 hl (by simpa using hn) fun i fd hi => by
        have hi2 : fs[i]? = some fd := by simpa using hi
        have h1 := hel i fd hi2
        have hi' : i < xs.length := by
          rw [hn]; exact (Array.getElem?_eq_some_iff.1 hi2).1
        rw [List.getElem?_eq_getElem hi'] at h1
        have hall := List.all_eq_true.1 h.1 fd (List.mem_of_getElem? hi)
        exact ⟨flatF f xs[i].1, by simp [hi'], flat_of_trod f (d := xs[i].1) (p := xs[i].2) hall h1⟩
      rw [List.drop_zero] at this
      exact this
    · cases h
theorem laid_at {P : Program} {W : World} {name : String} {d : DataW Unit} {g : Nat} {t : TypeId} (hg : P.globalNamed name = some g) (hty : (P.globals[g]?).map (·.type) = some t) (ho : flatOK P 9 t = true) :
    ∀ {l : List (String × DataW Unit)} (i : Nat), laidMet P l W → l[i]? = some (name, d) → Cells (Full W) (some ⟨g, 0, none⟩) (flatF 9 d)
  | [], i, _, h => by simp at h
  | x :: l, 0, hL, h => by
    simp only [List.getElem?_cons_zero, Option.some.injEq] at h
    subst h
    obtain ⟨ps, ⟨g', t', cs, fuel, p, q, hg', ht', hvar, hd, _, _⟩, _⟩ := hL
    obtain rfl := Option.some.inj (hg.symm.trans hg')
    obtain rfl := Option.some.inj (hty.symm.trans ht')
    have e := flat_of_trod 9 ho hd
    intro j v hj
    refine ⟨_, rfl, ?_⟩
    rw [← e] at hj
    have := World.var?_cell hg hvar j
    rw [Addr.add_lit', Nat.zero_add]
    refine Full.cell ?_
    rw [this]
    simpa using hj
  | x :: l, i + 1, hL, h => laid_at hg hty ho i hL.tail (by simpa using h)
theorem Cells.block {H : Hp} {g : Nat} {v : Value} {vs : List Value} (h : Cells H (some ⟨g, 0, none⟩) (v :: vs)) : ∃ o, H g = some o := by
  obtain ⟨a, ha, hc⟩ := h 0 v rfl
  cases ha
  unfold Hp.cell? at hc
  rw [Addr.add_lit'] at hc
  cases e : H g with
  | none => simp only [e] at hc; cases hc
  | some o => exact ⟨o, rfl⟩
section
variable {L : List As} {H : Hp}
theorem Sep.ldf (h : Sep L H) (i : Nat) {b j : Nat} {c : Array Value} {e : TypeId} {v : Value} {K : Value → Prop} (hi : L[i]? = some (pts b (.obj (.cells c e)))) (hv : nthV c.toList j = some v) (k : K v) : Ld H ((⟨b, 0, none⟩ : Addr).add j) K := by
  rw [Addr.add_lit', Nat.zero_add]; exact h.ld i hi hv k
end
end Go.Hw
end
section
/- Formulas of functions, printed by wip/tools/hwp.py. -/
namespace Go.Proofs.YtnknippcbecmeaaGreatDoor.W
open Go Go.Hw
theorem mixWrecord : Tryz.prog.follows .mixedOrders = true := by kernel_rfl
def W_record_Put (y1 : Array Value) (x1 : Int) (H : Hp) (K : Value → Hp → Prop) : Prop :=
  Nw H (.obj (.cells y1 86)) fun b1 H1 => LdA H1 (⟨b1, 0, none⟩ : Addr) 8 fun l1 => HCalls Tryz.prog 111 #[.agg l1.toArray] H1 fun v1 H2 => DB v1 fun c1 => BIf (!c1) (K (.tuple #[.slice none 0 0, .int .i64 1]) H2) (HCalls Tryz.prog 112 #[.int .i64 x1] H2 fun v2 H3 => DB v2 fun c2 => BIf (!c2) (K (.tuple #[.slice none 0 0, .int .i64 1]) H3) (LdA H3 (⟨b1, 0, none⟩ : Addr) 8 fun l2 => HCalls Tryz.prog 113 #[.agg l2.toArray] H3 fun v3 H4 => DSl v3 fun A1 n1 m1 => MkS Tryz.prog 5 x1 x1 H4 fun v4 H5 => DSl v4 fun A2 n2 m2 => HCalls Tryz.prog 115 #[.slice A1 n1 m1] H5 fun v5 H6 => DI .u64 v5 fun x2 => Nw H6 (.row [.int .u64 x2] 60 1) fun b2 H7 => AppK Tryz.prog 60 (.slice A1 n1 m1) (.slice (some ⟨b2, 0, none⟩) 1 1) H7 fun v6 H8 => DSl v6 fun A3 n3 m3 => HCalls Tryz.prog 114 #[.slice A3 n3 m3] H8 fun v7 H9 => DSl v7 fun A4 n4 m4 => CpK Tryz.prog 5 (.slice A2 n2 m2) (.slice A4 n4 m4) H9 fun v8 H10 => DI .i64 v8 fun x3 => K (.tuple #[.slice A2 n2 m2, .int .i64 0]) H10))
theorem W_record_Put.ok (y1 : Array Value) (x1 : Int) (H : Hp) (K : Value → Hp → Prop) (h : W_record_Put y1 x1 H K) : HCalls Tryz.prog 64 #[.agg y1, .int .i64 x1] H K :=
  hcalls Tryz.func64 rfl (Nat.le_of_ble_eq_true rfl) (hw_safe (Λ := Cuts.none (fun _ => none)) mixWrecord _ _ _ _ _ (Eq.mp (by kernel_rfl) h) (obs_none _ _ _ _ _))
def W_record_After (y1 : Array Value) (y2 : Array Value) (H : Hp) (K : Value → Hp → Prop) : Prop :=
  Nw H (.obj (.cells y1 86)) fun b1 H1 => Nw H1 (.obj (.cells y2 86)) fun b2 H2 => LdA H2 (⟨b1, 0, none⟩ : Addr) 8 fun l1 => HCalls Tryz.prog 111 #[.agg l1.toArray] H2 fun v1 H3 => DB v1 fun c1 => BIf (!c1) (K (.bool false) H3) (LdA H3 (⟨b2, 0, none⟩ : Addr) 8 fun l2 => HCalls Tryz.prog 111 #[.agg l2.toArray] H3 fun v2 H4 => DB v2 fun c2 => BIf (!c2) (K (.bool false) H4) (Ld H4 ((⟨b2, 0, none⟩ : Addr).add 0) fun v3 => DI .u64 v3 fun x1 => Ld H4 ((⟨b1, 0, none⟩ : Addr).add 0) fun v4 => DI .u64 v4 fun x2 => BIf (x1 != (IntKind.u64.wrap (x2 + (1 : Int)))) (K (.bool false) H4) (Ld H4 ((⟨b2, 0, none⟩ : Addr).add 1) fun v5 => DI .i64 v5 fun x3 => BIf (x3 == (1 : Int)) (K (.bool true) H4) (BIf (x3 == (2 : Int)) (Ld H4 ((⟨b1, 0, none⟩ : Addr).add 1) fun v6 => DI .i64 v6 fun x4 => BIf (x4 == (1 : Int)) (Ld H4 ((⟨b1, 0, none⟩ : Addr).add 5) fun v7 => DI .u32 v7 fun x5 => Ld H4 ((⟨b2, 0, none⟩ : Addr).add 5) fun v8 => DI .u32 v8 fun x6 => BIf (x5 == x6) (Ld H4 ((⟨b1, 0, none⟩ : Addr).add 2) fun v9 => DI .i64 v9 fun x7 => Ld H4 ((⟨b2, 0, none⟩ : Addr).add 2) fun v10 => DI .i64 v10 fun x8 => K (.bool (x7 == x8)) H4) (K (.bool false) H4)) (K (.bool false) H4)) (BIf (x3 == (3 : Int)) (Ld H4 ((⟨b1, 0, none⟩ : Addr).add 1) fun v11 => DI .i64 v11 fun x9 => BIf (x9 != (1 : Int)) (LdA H4 (⟨b1, 0, none⟩ : Addr) 8 fun l3 => LdA H4 (⟨b2, 0, none⟩ : Addr) 8 fun l4 => HCalls Tryz.prog 116 #[.agg l3.toArray, .agg l4.toArray] H4 fun v12 H5 => DB v12 fun c3 => BIf c3 (Ld H5 ((⟨b2, 0, none⟩ : Addr).add 7) fun v13 => DI .u32 v13 fun x10 => K (.bool (x10 == (0 : Int))) H5) (K (.bool false) H5)) (K (.bool false) H4)) (Ld H4 ((⟨b1, 0, none⟩ : Addr).add 1) fun v14 => DI .i64 v14 fun x11 => BIf (decide (x11 ≥ (3 : Int))) (LdA H4 (⟨b1, 0, none⟩ : Addr) 8 fun l5 => LdA H4 (⟨b2, 0, none⟩ : Addr) 8 fun l6 => HCalls Tryz.prog 116 #[.agg l5.toArray, .agg l6.toArray] H4 fun v15 H6 => DB v15 fun c4 => BIf c4 (Ld H6 ((⟨b1, 0, none⟩ : Addr).add 3) fun v16 => DI .i64 v16 fun x12 => Ld H6 ((⟨b2, 0, none⟩ : Addr).add 3) fun v17 => DI .i64 v17 fun x13 => BIf (x12 == x13) (Ld H6 ((⟨b2, 0, none⟩ : Addr).add 4) fun v18 => DI .i64 v18 fun x14 => Ld H6 ((⟨b1, 0, none⟩ : Addr).add 4) fun v19 => DI .i64 v19 fun x15 => K (.bool (x14 == (IntKind.i64.wrap (x15 + (1 : Int))))) H6) (K (.bool false) H6)) (K (.bool false) H6)) (K (.bool false) H4)))))))
theorem W_record_After.ok (y1 : Array Value) (y2 : Array Value) (H : Hp) (K : Value → Hp → Prop) (h : W_record_After y1 y2 H K) : HCalls Tryz.prog 66 #[.agg y1, .agg y2] H K :=
  hcalls Tryz.func66 rfl (Nat.le_of_ble_eq_true rfl) (hw_safe (Λ := Cuts.none (fun _ => none)) mixWrecord _ _ _ _ _ (Eq.mp (by kernel_rfl) h) (obs_none _ _ _ _ _))
def W_record_Take (A1 : Option Addr) (n1 : Nat) (m1 : Nat) (H : Hp) (K : Value → Hp → Prop) : Prop :=
  Nw H (.obj (.cells #[.int .u64 0, .int .i64 0, .int .i64 0, .int .i64 0, .int .i64 0, .int .u32 0, .int .u32 0, .int .u32 0] 86)) fun b1 H1 => HCalls Tryz.prog 112 #[.int .i64 ((n1 : Nat) : Int)] H1 fun v1 H2 => DB v1 fun c1 => BIf (!c1) (StA H2 (⟨b1, 0, none⟩ : Addr) #[.int .u64 0, .int .i64 0, .int .i64 0, .int .i64 0, .int .i64 0, .int .u32 0, .int .u32 0, .int .u32 0] 8 fun H3 => LdA H3 (⟨b1, 0, none⟩ : Addr) 8 fun l6 => K (.tuple #[.agg l6.toArray, .int .i64 15]) H3) (HCalls Tryz.prog 120 #[.slice A1 n1 m1] H2 fun v2 H4 => DTup v2 fun l1 => DCons l1 fun v3 l2 => DSl v3 fun A2 n2 m2 => DCons l2 fun v4 l3 => DB v4 fun c2 => DNil l3 (HCalls Tryz.prog 121 #[.slice A2 n2 m2] H4 fun v5 H5 => DA v5 fun y1 => Nw H5 (.obj (.cells #[.int .u64 0, .int .i64 0, .int .i64 0, .int .i64 0, .int .i64 0, .int .u32 0, .int .u32 0, .int .u32 0] 86)) fun b2 H6 => StA H6 (⟨b2, 0, none⟩ : Addr) y1 8 fun H7 => ixI (0 : Int) n2 (NN A2 fun a1 => Ld H7 (a1.add ((0 : Int).toNat * 1)) fun v6 => DI .u64 v6 fun x1 => (0 ≤ (48 : Int) ∧ BIf ((shrI .u64 x1 (48 : Int)) != (21061 : Int)) (StA H7 (⟨b1, 0, none⟩ : Addr) #[.int .u64 0, .int .i64 0, .int .i64 0, .int .i64 0, .int .i64 0, .int .u32 0, .int .u32 0, .int .u32 0] 8 fun H8 => LdA H8 (⟨b1, 0, none⟩ : Addr) 8 fun l7 => K (.tuple #[.agg l7.toArray, .int .i64 10]) H8) (BIf (!c2) (StA H7 (⟨b1, 0, none⟩ : Addr) #[.int .u64 0, .int .i64 0, .int .i64 0, .int .i64 0, .int .i64 0, .int .u32 0, .int .u32 0, .int .u32 0] 8 fun H9 => LdA H9 (⟨b1, 0, none⟩ : Addr) 8 fun l8 => K (.tuple #[.agg l8.toArray, .int .i64 10]) H9) (ixI (3 : Int) n2 (NN A2 fun a2 => Ld H7 (a2.add ((3 : Int).toNat * 1)) fun v7 => DI .u64 v7 fun x2 => slB n2 m2 none (some (3 : Int)) fun n3 n4 => QCall Tryz.prog 115 #[.slice (slA A2 m2 n3 1) (n4 - n3) (m2 - n3)] H7 fun v8 => DI .u64 v8 fun x3 => BIf (x2 != x3) (StA H7 (⟨b1, 0, none⟩ : Addr) #[.int .u64 0, .int .i64 0, .int .i64 0, .int .i64 0, .int .i64 0, .int .u32 0, .int .u32 0, .int .u32 0] 8 fun H10 => LdA H10 (⟨b1, 0, none⟩ : Addr) 8 fun l9 => K (.tuple #[.agg l9.toArray, .int .i64 9]) H10) (LdA H7 (⟨b2, 0, none⟩ : Addr) 8 fun l4 => HCalls Tryz.prog 111 #[.agg l4.toArray] H7 fun v9 H11 => DB v9 fun c3 => BIf (!c3) (StA H11 (⟨b1, 0, none⟩ : Addr) #[.int .u64 0, .int .i64 0, .int .i64 0, .int .i64 0, .int .i64 0, .int .u32 0, .int .u32 0, .int .u32 0] 8 fun H12 => LdA H12 (⟨b1, 0, none⟩ : Addr) 8 fun l10 => K (.tuple #[.agg l10.toArray, .int .i64 1]) H12) (LdA H11 (⟨b2, 0, none⟩ : Addr) 8 fun l5 => StA H11 (⟨b1, 0, none⟩ : Addr) l5.toArray 8 fun H13 => LdA H13 (⟨b1, 0, none⟩ : Addr) 8 fun l11 => K (.tuple #[.agg l11.toArray, .int .i64 0]) H13)))))))))
theorem W_record_Take.ok (A1 : Option Addr) (n1 : Nat) (m1 : Nat) (H : Hp) (K : Value → Hp → Prop) (h : W_record_Take A1 n1 m1 H K) : HCalls Tryz.prog 72 #[.slice A1 n1 m1] H K :=
  hcalls Tryz.func72 rfl (Nat.le_of_ble_eq_true rfl) (hw_safe (Λ := Cuts.none (fun _ => none)) mixWrecord _ _ _ _ _ (Eq.mp (by kernel_rfl) h) (obs_none _ _ _ _ _))
def W_record_Good.j10 (K : Value → Hp → Prop) (a1 : Addr) (H : Hp) : Prop :=
  Ld H (a1.add 4) fun v9 => DI .i64 v9 fun x8 => BIf (x8 == (0 : Int)) (Ld H (a1.add 3) fun v10 => DI .i64 v10 fun x9 => BIf (x9 == (0 : Int)) (Ld H (a1.add 7) fun v11 => DI .u32 v11 fun x10 => K (.bool (x10 == (0 : Int))) H) (K (.bool false) H)) (K (.bool false) H)
def W_record_Good (y1 : Array Value) (H : Hp) (K : Value → Hp → Prop) : Prop :=
  Nw H (.obj (.cells y1 86)) fun b1 H1 => Ld H1 ((⟨b1, 0, none⟩ : Addr).add 0) fun v1 => DI .u64 v1 fun x1 => BIf (decide (x1 < (1 : Int))) (K (.bool false) H1) (Ld H1 ((⟨b1, 0, none⟩ : Addr).add 0) fun v2 => DI .u64 v2 fun x2 => BIf (decide (x2 ≥ (281474976710656 : Int))) (K (.bool false) H1) (Ld H1 ((⟨b1, 0, none⟩ : Addr).add 2) fun v3 => DI .i64 v3 fun x3 => BIf (decide (x3 < (0 : Int))) (K (.bool false) H1) (Ld H1 ((⟨b1, 0, none⟩ : Addr).add 2) fun v4 => DI .i64 v4 fun x4 => BIf (decide (x4 > (32 : Int))) (K (.bool false) H1) (Ld H1 ((⟨b1, 0, none⟩ : Addr).add 3) fun v5 => DI .i64 v5 fun x5 => HCalls Tryz.prog 146 #[.int .i64 x5] H1 fun v6 H2 => DB v6 fun c1 => BIf (!c1) (K (.bool false) H2) (Ld H2 ((⟨b1, 0, none⟩ : Addr).add 1) fun v7 => DI .i64 v7 fun x6 => BIf (x6 == (1 : Int)) (Ld H2 ((⟨b1, 0, none⟩ : Addr).add 6) fun v8 => DI .u32 v8 fun x7 => BIf (x7 != (0 : Int)) (K (.bool false) H2) (W_record_Good.j10 K (⟨b1, 0, none⟩ : Addr) H2)) (BIf (x6 == (2 : Int)) (W_record_Good.j10 K (⟨b1, 0, none⟩ : Addr) H2) (BIf (x6 == (3 : Int)) (Ld H2 ((⟨b1, 0, none⟩ : Addr).add 4) fun v12 => DI .i64 v12 fun x11 => K (.bool (x11 == (0 : Int))) H2) (BIf (x6 == (4 : Int)) (Ld H2 ((⟨b1, 0, none⟩ : Addr).add 4) fun v13 => DI .i64 v13 fun x12 => BIf (decide (x12 ≥ (1 : Int))) (Ld H2 ((⟨b1, 0, none⟩ : Addr).add 4) fun v14 => DI .i64 v14 fun x13 => K (.bool (decide (x13 ≤ (7 : Int)))) H2) (K (.bool false) H2)) (K (.bool false) H2)))))))))
def W_record_Good.Λ (K : Value → Hp → Prop) : Cuts := ⟨fun i => match Nat.beq i 10 with | true => some (fun E D H => eN E 1 fun a1 => DNilD D (W_record_Good.j10 K a1 H)) | false => none, fun i => none, (fun _ => none)⟩
theorem W_record_Good.ok (y1 : Array Value) (H : Hp) (K : Value → Hp → Prop) (h : W_record_Good y1 H K) : HCalls Tryz.prog 111 #[.agg y1] H K :=
  hcalls Tryz.func111 rfl (Nat.le_of_ble_eq_true rfl) (hw_safe (Λ := (W_record_Good.Λ K)) mixWrecord _ _ _ _ _ (Eq.mp (by kernel_rfl) h) (obs_seq obs_region rfl (obs_seq (obs_seq obs_region rfl (obs_cond (obs_seq obs_region rfl obs_ret) obs_skip)) rfl (obs_seq (obs_seq obs_region rfl (obs_block (obs_seq (obs_block (obs_seq (obs_block (obs_seqc (obs_block (obs_seq (obs_block (obs_seq (obs_seq (obs_seq obs_region rfl (obs_cond obs_exit obs_skip)) rfl (obs_seq (obs_seq obs_region rfl (obs_cond obs_exit obs_skip)) rfl (obs_seq (obs_seq obs_region rfl (obs_cond obs_exit obs_skip)) rfl (obs_seq obs_region rfl (obs_cond obs_exit obs_skip))))) rfl obs_exit)) rfl (obs_seq obs_region rfl (obs_cond (obs_seq obs_region rfl obs_ret) obs_skip)))) rfl (fun E D H h => by
      obtain ⟨a1, e1, g3⟩ := GN h
      obtain ⟨rfl, h'⟩ := DNilD.out g3
      exact (hw_safe (Λ := (W_record_Good.Λ K)) mixWrecord _ _ [(1, .pointer (some a1))] [] H (Eq.mp (by kernel_rfl) h') (obs_seq (obs_seq obs_region rfl obs_ret) rfl obs_exit)).weaken (EnvLe.cons e1 (EnvLe.nil _)) (Hp.le_refl _)))) rfl (obs_seq (obs_seq obs_region rfl obs_ret) rfl obs_exit))) rfl (obs_seq (obs_seq obs_region rfl obs_ret) rfl obs_exit)))) rfl (obs_seq obs_region rfl obs_ret)))))
def W_record_sector (x1 : Int) (H : Hp) (K : Value → Hp → Prop) : Prop :=
  HCalls Tryz.prog 41 #[.int .i64 0, .int .i64 x1] H fun v1 H1 => DTup v1 fun l1 => DCons l1 fun v2 l2 => DI .i64 v2 fun x2 => DCons l2 fun v3 l3 => DI .i64 v3 fun x3 => DNil l3 (K (.bool (x3 == (0 : Int))) H1)
theorem W_record_sector.ok (x1 : Int) (H : Hp) (K : Value → Hp → Prop) (h : W_record_sector x1 H K) : HCalls Tryz.prog 112 #[.int .i64 x1] H K :=
  hcalls Tryz.func112 rfl (Nat.le_of_ble_eq_true rfl) (hw_safe (Λ := Cuts.none (fun _ => none)) mixWrecord _ _ _ _ _ (Eq.mp (by kernel_rfl) h) (obs_none _ _ _ _ _))
def W_record_three (y1 : Array Value) (H : Hp) (K : Value → Hp → Prop) : Prop :=
  Nw H (.obj (.cells y1 86)) fun b1 H1 => Ld H1 ((⟨b1, 0, none⟩ : Addr).add 0) fun v1 => DI .u64 v1 fun x1 => Ld H1 ((⟨b1, 0, none⟩ : Addr).add 5) fun v2 => DI .u32 v2 fun x2 => Ld H1 ((⟨b1, 0, none⟩ : Addr).add 4) fun v3 => DI .i64 v3 fun x3 => Ld H1 ((⟨b1, 0, none⟩ : Addr).add 2) fun v4 => DI .i64 v4 fun x4 => Ld H1 ((⟨b1, 0, none⟩ : Addr).add 3) fun v5 => DI .i64 v5 fun x5 => Ld H1 ((⟨b1, 0, none⟩ : Addr).add 1) fun v6 => DI .i64 v6 fun x6 => Ld H1 ((⟨b1, 0, none⟩ : Addr).add 6) fun v7 => DI .u32 v7 fun x7 => Ld H1 ((⟨b1, 0, none⟩ : Addr).add 7) fun v8 => DI .u32 v8 fun x8 => (Nw H1 (.row [.int .u64 21061, .int .u64 48, .int .u64 x1, .int .u64 0] 240 4) fun b2 H2 => QCall Tryz.prog 147 #[.slice (some ⟨b2, 0, none⟩) 2 2] H2 fun v9 => DI .u64 v9 fun x9 => (Nw H2 (.row [.int .u64 (IntKind.u64.wrap x2), .int .u64 32, .int .u64 (IntKind.u64.wrap x3), .int .u64 24, .int .u64 (IntKind.u64.wrap x4), .int .u64 16, .int .u64 (IntKind.u64.wrap x5), .int .u64 8, .int .u64 (IntKind.u64.wrap x6), .int .u64 0] 240 10) fun b3 H3 => QCall Tryz.prog 147 #[.slice (some ⟨b3, 0, none⟩) 5 5] H3 fun v10 => DI .u64 v10 fun x10 => Nw H3 (.row [.int .u64 (IntKind.u64.wrap x7), .int .u64 32, .int .u64 (IntKind.u64.wrap x8), .int .u64 0] 240 4) fun b4 H4 => QCall Tryz.prog 147 #[.slice (some ⟨b4, 0, none⟩) 2 2] H4 fun v11 => DI .u64 v11 fun x11 => Nw H4 (.row [.int .u64 x9, .int .u64 x10, .int .u64 x11] 60 3) fun b5 H5 => K (.slice (some ⟨b5, 0, none⟩) 3 3) H5) ∧ (Nw H2 (.row [.int .u64 (IntKind.u64.wrap x7), .int .u64 32, .int .u64 (IntKind.u64.wrap x8), .int .u64 0] 240 4) fun b6 H6 => Nw H6 (.row [.int .u64 (IntKind.u64.wrap x2), .int .u64 32, .int .u64 (IntKind.u64.wrap x3), .int .u64 24, .int .u64 (IntKind.u64.wrap x4), .int .u64 16, .int .u64 (IntKind.u64.wrap x5), .int .u64 8, .int .u64 (IntKind.u64.wrap x6), .int .u64 0] 240 10) fun b7 H7 => QCall Tryz.prog 147 #[.slice (some ⟨b7, 0, none⟩) 5 5] H7 fun v12 => DI .u64 v12 fun x12 => QCall Tryz.prog 147 #[.slice (some ⟨b6, 0, none⟩) 2 2] H7 fun v13 => DI .u64 v13 fun x13 => Nw H7 (.row [.int .u64 x9, .int .u64 x12, .int .u64 x13] 60 3) fun b8 H8 => K (.slice (some ⟨b8, 0, none⟩) 3 3) H8)) ∧ (Nw H1 (.row [.int .u64 (IntKind.u64.wrap x2), .int .u64 32, .int .u64 (IntKind.u64.wrap x3), .int .u64 24, .int .u64 (IntKind.u64.wrap x4), .int .u64 16, .int .u64 (IntKind.u64.wrap x5), .int .u64 8, .int .u64 (IntKind.u64.wrap x6), .int .u64 0] 240 10) fun b9 H9 => (Nw H9 (.row [.int .u64 21061, .int .u64 48, .int .u64 x1, .int .u64 0] 240 4) fun b10 H10 => QCall Tryz.prog 147 #[.slice (some ⟨b10, 0, none⟩) 2 2] H10 fun v14 => DI .u64 v14 fun x14 => QCall Tryz.prog 147 #[.slice (some ⟨b9, 0, none⟩) 5 5] H10 fun v15 => DI .u64 v15 fun x15 => Nw H10 (.row [.int .u64 (IntKind.u64.wrap x7), .int .u64 32, .int .u64 (IntKind.u64.wrap x8), .int .u64 0] 240 4) fun b11 H11 => QCall Tryz.prog 147 #[.slice (some ⟨b11, 0, none⟩) 2 2] H11 fun v16 => DI .u64 v16 fun x16 => Nw H11 (.row [.int .u64 x14, .int .u64 x15, .int .u64 x16] 60 3) fun b12 H12 => K (.slice (some ⟨b12, 0, none⟩) 3 3) H12) ∧ (Nw H9 (.row [.int .u64 (IntKind.u64.wrap x7), .int .u64 32, .int .u64 (IntKind.u64.wrap x8), .int .u64 0] 240 4) fun b13 H13 => Nw H13 (.row [.int .u64 21061, .int .u64 48, .int .u64 x1, .int .u64 0] 240 4) fun b14 H14 => QCall Tryz.prog 147 #[.slice (some ⟨b14, 0, none⟩) 2 2] H14 fun v17 => DI .u64 v17 fun x17 => QCall Tryz.prog 147 #[.slice (some ⟨b9, 0, none⟩) 5 5] H14 fun v18 => DI .u64 v18 fun x18 => QCall Tryz.prog 147 #[.slice (some ⟨b13, 0, none⟩) 2 2] H14 fun v19 => DI .u64 v19 fun x19 => Nw H14 (.row [.int .u64 x17, .int .u64 x18, .int .u64 x19] 60 3) fun b15 H15 => K (.slice (some ⟨b15, 0, none⟩) 3 3) H15)) ∧ (Nw H1 (.row [.int .u64 (IntKind.u64.wrap x7), .int .u64 32, .int .u64 (IntKind.u64.wrap x8), .int .u64 0] 240 4) fun b16 H16 => (Nw H16 (.row [.int .u64 21061, .int .u64 48, .int .u64 x1, .int .u64 0] 240 4) fun b17 H17 => QCall Tryz.prog 147 #[.slice (some ⟨b17, 0, none⟩) 2 2] H17 fun v20 => DI .u64 v20 fun x20 => Nw H17 (.row [.int .u64 (IntKind.u64.wrap x2), .int .u64 32, .int .u64 (IntKind.u64.wrap x3), .int .u64 24, .int .u64 (IntKind.u64.wrap x4), .int .u64 16, .int .u64 (IntKind.u64.wrap x5), .int .u64 8, .int .u64 (IntKind.u64.wrap x6), .int .u64 0] 240 10) fun b18 H18 => QCall Tryz.prog 147 #[.slice (some ⟨b18, 0, none⟩) 5 5] H18 fun v21 => DI .u64 v21 fun x21 => QCall Tryz.prog 147 #[.slice (some ⟨b16, 0, none⟩) 2 2] H18 fun v22 => DI .u64 v22 fun x22 => Nw H18 (.row [.int .u64 x20, .int .u64 x21, .int .u64 x22] 60 3) fun b19 H19 => K (.slice (some ⟨b19, 0, none⟩) 3 3) H19) ∧ (Nw H16 (.row [.int .u64 (IntKind.u64.wrap x2), .int .u64 32, .int .u64 (IntKind.u64.wrap x3), .int .u64 24, .int .u64 (IntKind.u64.wrap x4), .int .u64 16, .int .u64 (IntKind.u64.wrap x5), .int .u64 8, .int .u64 (IntKind.u64.wrap x6), .int .u64 0] 240 10) fun b20 H20 => Nw H20 (.row [.int .u64 21061, .int .u64 48, .int .u64 x1, .int .u64 0] 240 4) fun b21 H21 => QCall Tryz.prog 147 #[.slice (some ⟨b21, 0, none⟩) 2 2] H21 fun v23 => DI .u64 v23 fun x23 => QCall Tryz.prog 147 #[.slice (some ⟨b20, 0, none⟩) 5 5] H21 fun v24 => DI .u64 v24 fun x24 => QCall Tryz.prog 147 #[.slice (some ⟨b16, 0, none⟩) 2 2] H21 fun v25 => DI .u64 v25 fun x25 => Nw H21 (.row [.int .u64 x23, .int .u64 x24, .int .u64 x25] 60 3) fun b22 H22 => K (.slice (some ⟨b22, 0, none⟩) 3 3) H22))
theorem W_record_three.ok (y1 : Array Value) (H : Hp) (K : Value → Hp → Prop) (h : W_record_three y1 H K) : HCalls Tryz.prog 113 #[.agg y1] H K :=
  hcalls Tryz.func113 rfl (Nat.le_of_ble_eq_true rfl) (hw_safe (Λ := Cuts.none (fun i => match Nat.beq i 1 with | true => some ([2, 5, 7, 8, 11, 12, 15, 16, 19, 20, 23, 24, 27, 29, 30, 33, 34, 37], [0, 0, 2, 6, 15, 31, 0, 64, 192, 448, 0, 1024, 3072, 7168, 0, 16384, 49152, 114688, 0, 262144, 786432, 1835008, 0, 4194304, 12582912, 29360128, 67108800, 134217727, 0, 268435456, 805306368, 1879048192, 0, 4294967296, 12884901888, 30064771072, 68451041280, 137438953471, 274877906943, 549755813887], 0) | false => none)) mixWrecord _ _ _ _ _ (Eq.mp (by kernel_rfl) h) (obs_none _ _ _ _ _))
def W_record_seal (A1 : Option Addr) (n1 : Nat) (m1 : Nat) (H : Hp) (K : Value → Hp → Prop) : Prop :=
  HCalls Tryz.prog 149 #[.slice A1 n1 m1] H fun v1 H1 => DI .u32 v1 fun x1 => Nw H1 (.row [.int .u64 (IntKind.u64.wrap (bXor .u32 IntKind.u32.max x1)), .int .u64 32, .int .u64 (IntKind.u64.wrap x1), .int .u64 0] 240 4) fun b1 H2 => HCalls Tryz.prog 147 #[.slice (some ⟨b1, 0, none⟩) 2 2] H2 fun v2 H3 => DI .u64 v2 fun x2 => K (.int .u64 x2) H3
theorem W_record_seal.ok (A1 : Option Addr) (n1 : Nat) (m1 : Nat) (H : Hp) (K : Value → Hp → Prop) (h : W_record_seal A1 n1 m1 H K) : HCalls Tryz.prog 115 #[.slice A1 n1 m1] H K :=
  hcalls Tryz.func115 rfl (Nat.le_of_ble_eq_true rfl) (hw_safe (Λ := Cuts.none (fun _ => none)) mixWrecord _ _ _ _ _ (Eq.mp (by kernel_rfl) h) (obs_none _ _ _ _ _))
def W_record_same (y1 : Array Value) (y2 : Array Value) (H : Hp) (K : Value → Hp → Prop) : Prop :=
  Nw H (.obj (.cells y1 86)) fun b1 H1 => Nw H1 (.obj (.cells y2 86)) fun b2 H2 => Ld H2 ((⟨b1, 0, none⟩ : Addr).add 5) fun v1 => DI .u32 v1 fun x1 => Ld H2 ((⟨b2, 0, none⟩ : Addr).add 5) fun v2 => DI .u32 v2 fun x2 => BIf (x1 == x2) (Ld H2 ((⟨b1, 0, none⟩ : Addr).add 2) fun v3 => DI .i64 v3 fun x3 => Ld H2 ((⟨b2, 0, none⟩ : Addr).add 2) fun v4 => DI .i64 v4 fun x4 => BIf (x3 == x4) (Ld H2 ((⟨b1, 0, none⟩ : Addr).add 6) fun v5 => DI .u32 v5 fun x5 => Ld H2 ((⟨b2, 0, none⟩ : Addr).add 6) fun v6 => DI .u32 v6 fun x6 => K (.bool (x5 == x6)) H2) (K (.bool false) H2)) (K (.bool false) H2)
theorem W_record_same.ok (y1 : Array Value) (y2 : Array Value) (H : Hp) (K : Value → Hp → Prop) (h : W_record_same y1 y2 H K) : HCalls Tryz.prog 116 #[.agg y1, .agg y2] H K :=
  hcalls Tryz.func116 rfl (Nat.le_of_ble_eq_true rfl) (hw_safe (Λ := Cuts.none (fun _ => none)) mixWrecord _ _ _ _ _ (Eq.mp (by kernel_rfl) h) (obs_none _ _ _ _ _))
def W_record_all.l2 (K : Value → Hp → Prop) : Nat → Option Addr → Nat → Nat → Option Addr → Nat → Nat → Int → Hp → Prop
  | 0, _, _, _, _, _, _, _, _ => False
  | k + 1, A2, n2, m2, A3, n3, m3, x1, H =>
    let R2 := W_record_all.l2 K k
    BIf (decide (x1 < (4 : Int))) (HCalls Tryz.prog 130 #[.slice A2 n2 m2, .int .i64 x1] H fun v1 H1 => DTup v1 fun l1 => DCons l1 fun v2 l2 => DI .u64 v2 fun x2 => DCons l2 fun v3 l3 => DI .i64 v3 fun x3 => DNil l3 (Nw H1 (.row [.int .u64 x2] 60 1) fun b1 H2 => AppK Tryz.prog 60 (.slice A3 n3 m3) (.slice (some ⟨b1, 0, none⟩) 1 1) H2 fun v4 H3 => DSl v4 fun A4 n4 m4 => R2 A2 n2 m2 A4 n4 m4 (IntKind.i64.wrap (x1 + (1 : Int))) H3)) (slB n2 m2 (some (32 : Int)) none fun n5 n6 => BsK H (slA A2 m2 n5 1) (n6 - n5) fun s1 => HCalls Tryz.prog 152 #[.string s1, .string (⟨#[0]⟩)] H fun v5 H4 => DS v5 fun s2 => K (.tuple #[.slice A3 n3 m3, .bool (s2.toList == ((⟨#[]⟩) : ByteArray).toList)]) H4)
def W_record_all (A1 : Option Addr) (n1 : Nat) (m1 : Nat) (H : Hp) (K : Value → Hp → Prop) : Prop :=
  (∃ k, W_record_all.l2 K k A1 n1 m1 none 0 0 (0 : Int) H)
def W_record_all.l2.L (K : Value → Hp → Prop) (k : Nat) : Mid := fun E D H =>
  DG (E.get? 0) fun w0 => DSl w0 fun A2 n2 m2 => DG (E.get? 2) fun w2 => DSl w2 fun A3 n3 m3 => eI E 7 .i64 fun x1 => DNilD D (W_record_all.l2 K k A2 n2 m2 A3 n3 m3 x1 H)
def W_record_all.Λ2 (_ : Value → Hp → Prop) (_R2 : Option Addr → Nat → Nat → Option Addr → Nat → Nat → Int → Hp → Prop) : Cuts := Cuts.none (fun _ => none)
def W_record_all.Λ (K : Value → Hp → Prop) : Cuts := ⟨fun i => none, fun i => match Nat.beq i 2 with | true => some (fun E D H => ∃ k, W_record_all.l2.L K k E D H) | false => none, (fun _ => none)⟩
theorem W_record_all.ok (A1 : Option Addr) (n1 : Nat) (m1 : Nat) (H : Hp) (K : Value → Hp → Prop) (h : W_record_all A1 n1 m1 H K) : HCalls Tryz.prog 120 #[.slice A1 n1 m1] H K :=
  hcalls Tryz.func120 rfl (Nat.le_of_ble_eq_true rfl) (hw_safe (Λ := (W_record_all.Λ K)) mixWrecord _ _ _ _ _ (Eq.mp (by kernel_rfl) h) (obs_seq obs_region rfl (obs_seq (obs_seq obs_region rfl (obs_block (obs_loop rfl (fun E D H h => by
      refine Safe.loop' (W_record_all.l2.L K) (fun E D H h => ?_) (fun k E D H h => ?_) E D H h
      · obtain ⟨w0, e0, g1⟩ := DG.out h; obtain ⟨A2, n2, m2, rfl, g2⟩ := DSl.out g1; obtain ⟨w2, e2, g3⟩ := DG.out g2; obtain ⟨A3, n3, m3, rfl, g4⟩ := DSl.out g3; obtain ⟨w7, e7, g5⟩ := DG.out g4; obtain ⟨x1, rfl, g6⟩ := DI.out g5; obtain ⟨rfl, h'⟩ := DNilD.out g6; exact h'
      · obtain ⟨w0, e0, g1⟩ := DG.out h
        obtain ⟨A2, n2, m2, rfl, g2⟩ := DSl.out g1
        obtain ⟨w2, e2, g3⟩ := DG.out g2
        obtain ⟨A3, n3, m3, rfl, g4⟩ := DSl.out g3
        obtain ⟨x1, e7, g6⟩ := GI g4
        obtain ⟨rfl, h'⟩ := DNilD.out g6
        exact (hw_safe (Λ := (W_record_all.Λ2 K (W_record_all.l2 K k))) mixWrecord _ _ [(0, .slice A2 n2 m2), (2, .slice A3 n3 m3), (7, .int .i64 x1)] [] H (Eq.mp (by kernel_rfl) h') (obs_seq obs_region rfl (obs_seq (obs_cond obs_skip obs_exit) rfl (obs_seq (obs_block (obs_seq obs_region rfl (obs_seq obs_region rfl obs_region))) rfl obs_region)))).weaken (EnvLe.cons e0 (EnvLe.cons e2 (EnvLe.cons e7 (EnvLe.nil _)))) (Hp.le_refl _))))) rfl (obs_seq obs_region rfl obs_ret))))
def W_record_of (A1 : Option Addr) (n1 : Nat) (m1 : Nat) (H : Hp) (K : Value → Hp → Prop) : Prop :=
  Nw H (.obj (.cells #[.int .u64 0, .int .i64 0, .int .i64 0, .int .i64 0, .int .i64 0, .int .u32 0, .int .u32 0, .int .u32 0] 86)) fun b1 H1 => ixI (0 : Int) n1 (NN A1 fun a1 => Ld H1 (a1.add ((0 : Int).toNat * 1)) fun v1 => DI .u64 v1 fun x1 => ixI (1 : Int) n1 (NN A1 fun a2 => Ld H1 (a2.add ((1 : Int).toNat * 1)) fun v2 => DI .u64 v2 fun x2 => ixI (1 : Int) n1 (NN A1 fun a3 => Ld H1 (a3.add ((1 : Int).toNat * 1)) fun v3 => DI .u64 v3 fun x3 => (0 ≤ (8 : Int) ∧ ixI (1 : Int) n1 (NN A1 fun a4 => Ld H1 (a4.add ((1 : Int).toNat * 1)) fun v4 => DI .u64 v4 fun x4 => (0 ≤ (16 : Int) ∧ ixI (1 : Int) n1 (NN A1 fun a5 => Ld H1 (a5.add ((1 : Int).toNat * 1)) fun v5 => DI .u64 v5 fun x5 => (0 ≤ (24 : Int) ∧ ixI (1 : Int) n1 (NN A1 fun a6 => Ld H1 (a6.add ((1 : Int).toNat * 1)) fun v6 => DI .u64 v6 fun x6 => (0 ≤ (32 : Int) ∧ ixI (2 : Int) n1 (NN A1 fun a7 => Ld H1 (a7.add ((2 : Int).toNat * 1)) fun v7 => DI .u64 v7 fun x7 => (0 ≤ (32 : Int) ∧ ixI (2 : Int) n1 (NN A1 fun a8 => Ld H1 (a8.add ((2 : Int).toNat * 1)) fun v8 => DI .u64 v8 fun x8 => StA H1 (⟨b1, 0, none⟩ : Addr) #[.int .u64 (bAnd .u64 x1 (281474976710655 : Int)), .int .i64 (IntKind.i64.wrap (bAnd .u64 x2 (255 : Int))), .int .i64 (IntKind.i64.wrap (bAnd .u64 (shrI .u64 x4 (16 : Int)) (255 : Int))), .int .i64 (IntKind.i64.wrap (bAnd .u64 (shrI .u64 x3 (8 : Int)) (255 : Int))), .int .i64 (IntKind.i64.wrap (bAnd .u64 (shrI .u64 x5 (24 : Int)) (255 : Int))), .int .u32 (IntKind.u32.wrap (shrI .u64 x6 (32 : Int))), .int .u32 (IntKind.u32.wrap (shrI .u64 x7 (32 : Int))), .int .u32 (IntKind.u32.wrap x8)] 8 fun H2 => LdA H2 (⟨b1, 0, none⟩ : Addr) 8 fun l1 => K (.agg l1.toArray) H2)))))))))))))
theorem W_record_of.ok (A1 : Option Addr) (n1 : Nat) (m1 : Nat) (H : Hp) (K : Value → Hp → Prop) (h : W_record_of A1 n1 m1 H K) : HCalls Tryz.prog 121 #[.slice A1 n1 m1] H K :=
  hcalls Tryz.func121 rfl (Nat.le_of_ble_eq_true rfl) (hw_safe (Λ := Cuts.none (fun i => match Nat.beq i 1 with | true => some ([], [0, 1, 2, 3, 4, 5, 6, 7, 8, 9, 10, 11, 12, 13, 14, 15, 16, 17, 18, 19, 20, 21, 22, 23, 24, 25, 26, 27, 28, 29, 30, 31, 32, 33, 34, 35, 36, 37, 38, 39, 40, 41], 42) | false => none)) mixWrecord _ _ _ _ _ (Eq.mp (by kernel_rfl) h) (obs_none _ _ _ _ _))
def W_record_direction (x1 : Int) (H : Hp) (K : Value → Hp → Prop) : Prop :=
  BIf (x1 == (0 : Int)) (K (.bool true) H) (K (.bool (x1 == (1 : Int))) H)
theorem W_record_direction.ok (x1 : Int) (H : Hp) (K : Value → Hp → Prop) (h : W_record_direction x1 H K) : HCalls Tryz.prog 146 #[.int .i64 x1] H K :=
  hcalls Tryz.func146 rfl (Nat.le_of_ble_eq_true rfl) (hw_safe (Λ := Cuts.none (fun _ => none)) mixWrecord _ _ _ _ _ (Eq.mp (by kernel_rfl) h) (obs_none _ _ _ _ _))
def W_record_join.l3 (K : Value → Hp → Prop) : Nat → Int → Option Addr → Nat → Nat → Int → Int → Hp → Prop
  | 0, _, _, _, _, _, _, _ => False
  | k + 1, x1, A2, n2, m2, x2, x3, H =>
    let R3 := W_record_join.l3 K k
    BIf (decide (x3 < x2)) (ixI x3 n2 (NN A2 fun a1 => LdA H (a1.add (x3.toNat * 2)) 2 fun l1 => Nw H (.obj (.cells #[.int .u64 0, .int .u64 0] 240)) fun b1 H1 => StA H1 (⟨b1, 0, none⟩ : Addr) l1.toArray 2 fun H2 => Ld H2 ((⟨b1, 0, none⟩ : Addr).add 0) fun v1 => DI .u64 v1 fun x4 => Ld H2 ((⟨b1, 0, none⟩ : Addr).add 1) fun v2 => DI .u64 v2 fun x5 => (0 ≤ x5 ∧ R3 (bOr .u64 x1 (shlI .u64 x4 x5)) A2 n2 m2 x2 (IntKind.i64.wrap (x3 + (1 : Int))) H2))) (K (.int .u64 x1) H)
def W_record_join (A1 : Option Addr) (n1 : Nat) (m1 : Nat) (H : Hp) (K : Value → Hp → Prop) : Prop :=
  (∃ k, W_record_join.l3 K k (0 : Int) A1 n1 m1 ((n1 : Nat) : Int) (0 : Int) H)
def W_record_join.l3.L (K : Value → Hp → Prop) (k : Nat) : Mid := fun E D H =>
  eI E 3 .u64 fun x1 => DG (E.get? 6) fun w6 => DSl w6 fun A2 n2 m2 => eI E 7 .i64 fun x2 => eI E 8 .i64 fun x3 => DNilD D (W_record_join.l3 K k x1 A2 n2 m2 x2 x3 H)
def W_record_join.Λ3 (_ : Value → Hp → Prop) (_R3 : Int → Option Addr → Nat → Nat → Int → Int → Hp → Prop) : Cuts := Cuts.none (fun _ => none)
def W_record_join.Λ (K : Value → Hp → Prop) : Cuts := ⟨fun i => none, fun i => match Nat.beq i 3 with | true => some (fun E D H => ∃ k, W_record_join.l3.L K k E D H) | false => none, (fun _ => none)⟩
theorem W_record_join.ok (A1 : Option Addr) (n1 : Nat) (m1 : Nat) (H : Hp) (K : Value → Hp → Prop) (h : W_record_join A1 n1 m1 H K) : HCalls Tryz.prog 147 #[.slice A1 n1 m1] H K :=
  hcalls Tryz.func147 rfl (Nat.le_of_ble_eq_true rfl) (hw_safe (Λ := (W_record_join.Λ K)) mixWrecord _ _ _ _ _ (Eq.mp (by kernel_rfl) h) (obs_seq obs_region rfl (obs_seq obs_region rfl (obs_seq (obs_seq obs_region rfl (obs_block (obs_loop rfl (fun E D H h => by
      refine Safe.loop' (W_record_join.l3.L K) (fun E D H h => ?_) (fun k E D H h => ?_) E D H h
      · obtain ⟨w3, e3, g1⟩ := DG.out h; obtain ⟨x1, rfl, g2⟩ := DI.out g1; obtain ⟨w6, e6, g3⟩ := DG.out g2; obtain ⟨A2, n2, m2, rfl, g4⟩ := DSl.out g3; obtain ⟨w7, e7, g5⟩ := DG.out g4; obtain ⟨x2, rfl, g6⟩ := DI.out g5; obtain ⟨w8, e8, g7⟩ := DG.out g6; obtain ⟨x3, rfl, g8⟩ := DI.out g7; obtain ⟨rfl, h'⟩ := DNilD.out g8; exact h'
      · obtain ⟨x1, e3, g2⟩ := GI h
        obtain ⟨w6, e6, g3⟩ := DG.out g2
        obtain ⟨A2, n2, m2, rfl, g4⟩ := DSl.out g3
        obtain ⟨x2, e7, g6⟩ := GI g4; obtain ⟨x3, e8, g8⟩ := GI g6; obtain ⟨rfl, h'⟩ := DNilD.out g8
        exact (hw_safe (Λ := (W_record_join.Λ3 K (W_record_join.l3 K k))) mixWrecord _ _ [(3, .int .u64 x1), (6, .slice A2 n2 m2), (7, .int .i64 x2), (8, .int .i64 x3)] [] H (Eq.mp (by kernel_rfl) h') (obs_seq obs_region rfl (obs_seq (obs_cond obs_skip obs_exit) rfl (obs_seq (obs_block (obs_seq obs_region rfl obs_region)) rfl obs_region)))).weaken (EnvLe.cons e3 (EnvLe.cons e6 (EnvLe.cons e7 (EnvLe.cons e8 (EnvLe.nil _))))) (Hp.le_refl _))))) rfl (obs_seq obs_region rfl obs_ret)))))
end Go.Proofs.YtnknippcbecmeaaGreatDoor.W
end
section
/- Formulas of functions, printed by wip/tools/hwp.py. -/
namespace Go.Proofs.YtnknippcbecmeaaGreatDoor.W
open Go Go.Hw
theorem mixWabacistref20 : Tryz.prog.follows .mixedOrders = true := by kernel_rfl
def W_abacistref20_Good (y1 : Array Value) (H : Hp) (K : Value → Hp → Prop) : Prop :=
  Nw H (.obj (.cells y1 86)) fun b1 H1 => Ld H1 ((⟨b1, 0, none⟩ : Addr).add 0) fun v1 => DI .u64 v1 fun x1 => BIf (decide (x1 < (1 : Int))) (K (.bool false) H1) (Ld H1 ((⟨b1, 0, none⟩ : Addr).add 0) fun v2 => DI .u64 v2 fun x2 => BIf (decide (x2 ≥ (281474976710656 : Int))) (K (.bool false) H1) (Ld H1 ((⟨b1, 0, none⟩ : Addr).add 2) fun v3 => DI .i64 v3 fun x3 => BIf (decide (x3 < (0 : Int))) (K (.bool false) H1) (Ld H1 ((⟨b1, 0, none⟩ : Addr).add 2) fun v4 => DI .i64 v4 fun x4 => BIf (decide (x4 > (32 : Int))) (K (.bool false) H1) (Ld H1 ((⟨b1, 0, none⟩ : Addr).add 3) fun v5 => DI .i64 v5 fun x5 => BIf (decide (x5 < (0 : Int))) (K (.bool false) H1) (Ld H1 ((⟨b1, 0, none⟩ : Addr).add 3) fun v6 => DI .i64 v6 fun x6 => BIf (decide (x6 > (1 : Int))) (K (.bool false) H1) (Ld H1 ((⟨b1, 0, none⟩ : Addr).add 1) fun v7 => DI .i64 v7 fun x7 => BIf (decide (x7 < (1 : Int))) (K (.bool false) H1) (Ld H1 ((⟨b1, 0, none⟩ : Addr).add 1) fun v8 => DI .i64 v8 fun x8 => BIf (decide (x8 > (4 : Int))) (K (.bool false) H1) (Ld H1 ((⟨b1, 0, none⟩ : Addr).add 1) fun v9 => DI .i64 v9 fun x9 => BIf (x9 == (4 : Int)) (Ld H1 ((⟨b1, 0, none⟩ : Addr).add 4) fun v10 => DI .i64 v10 fun x10 => BIf (decide (x10 ≥ (1 : Int))) (Ld H1 ((⟨b1, 0, none⟩ : Addr).add 4) fun v11 => DI .i64 v11 fun x11 => K (.bool (decide (x11 ≤ (7 : Int)))) H1) (K (.bool false) H1)) (Ld H1 ((⟨b1, 0, none⟩ : Addr).add 1) fun v12 => DI .i64 v12 fun x12 => BIf (x12 == (1 : Int)) (Ld H1 ((⟨b1, 0, none⟩ : Addr).add 6) fun v13 => DI .u32 v13 fun x13 => BIf (x13 != (0 : Int)) (K (.bool false) H1) (Ld H1 ((⟨b1, 0, none⟩ : Addr).add 1) fun v14 => DI .i64 v14 fun x14 => BIf (decide (x14 ≤ (2 : Int))) (Ld H1 ((⟨b1, 0, none⟩ : Addr).add 3) fun v16 => DI .i64 v16 fun x16 => BIf (x16 != (0 : Int)) (K (.bool false) H1) (Ld H1 ((⟨b1, 0, none⟩ : Addr).add 7) fun v18 => DI .u32 v18 fun x18 => BIf (x18 != (0 : Int)) (K (.bool false) H1) (Ld H1 ((⟨b1, 0, none⟩ : Addr).add 4) fun v20 => DI .i64 v20 fun x20 => K (.bool (x20 == (0 : Int))) H1))) (Ld H1 ((⟨b1, 0, none⟩ : Addr).add 4) fun v21 => DI .i64 v21 fun x21 => K (.bool (x21 == (0 : Int))) H1))) (Ld H1 ((⟨b1, 0, none⟩ : Addr).add 1) fun v15 => DI .i64 v15 fun x15 => BIf (decide (x15 ≤ (2 : Int))) (Ld H1 ((⟨b1, 0, none⟩ : Addr).add 3) fun v17 => DI .i64 v17 fun x17 => BIf (x17 != (0 : Int)) (K (.bool false) H1) (Ld H1 ((⟨b1, 0, none⟩ : Addr).add 7) fun v19 => DI .u32 v19 fun x19 => BIf (x19 != (0 : Int)) (K (.bool false) H1) (Ld H1 ((⟨b1, 0, none⟩ : Addr).add 4) fun v22 => DI .i64 v22 fun x22 => K (.bool (x22 == (0 : Int))) H1))) (Ld H1 ((⟨b1, 0, none⟩ : Addr).add 4) fun v23 => DI .i64 v23 fun x23 => K (.bool (x23 == (0 : Int))) H1)))))))))))
theorem W_abacistref20_Good.ok (y1 : Array Value) (H : Hp) (K : Value → Hp → Prop) (h : W_abacistref20_Good y1 H K) : HCalls Tryz.prog 27 #[.agg y1] H K :=
  hcalls Tryz.func27 rfl (Nat.le_of_ble_eq_true rfl) (hw_safe (Λ := Cuts.none (fun _ => none)) mixWabacistref20 _ _ _ _ _ (Eq.mp (by kernel_rfl) h) (obs_none _ _ _ _ _))
def W_abacistref20_After (y1 : Array Value) (y2 : Array Value) (H : Hp) (K : Value → Hp → Prop) : Prop :=
  Nw H (.obj (.cells y1 86)) fun b1 H1 => Nw H1 (.obj (.cells y2 86)) fun b2 H2 => LdA H2 (⟨b1, 0, none⟩ : Addr) 8 fun l1 => HCalls Tryz.prog 27 #[.agg l1.toArray] H2 fun v1 H3 => DB v1 fun c1 => BIf (!c1) (K (.bool false) H3) (LdA H3 (⟨b2, 0, none⟩ : Addr) 8 fun l2 => HCalls Tryz.prog 27 #[.agg l2.toArray] H3 fun v2 H4 => DB v2 fun c2 => BIf (!c2) (K (.bool false) H4) (Ld H4 ((⟨b2, 0, none⟩ : Addr).add 0) fun v3 => DI .u64 v3 fun x1 => Ld H4 ((⟨b1, 0, none⟩ : Addr).add 0) fun v4 => DI .u64 v4 fun x2 => BIf (x1 != (IntKind.u64.wrap (x2 + (1 : Int)))) (K (.bool false) H4) (Ld H4 ((⟨b2, 0, none⟩ : Addr).add 1) fun v5 => DI .i64 v5 fun x3 => BIf (x3 == (1 : Int)) (K (.bool true) H4) (Ld H4 ((⟨b1, 0, none⟩ : Addr).add 5) fun v6 => DI .u32 v6 fun x4 => Ld H4 ((⟨b2, 0, none⟩ : Addr).add 5) fun v7 => DI .u32 v7 fun x5 => BIf (x4 != x5) (K (.bool false) H4) (Ld H4 ((⟨b1, 0, none⟩ : Addr).add 2) fun v8 => DI .i64 v8 fun x6 => Ld H4 ((⟨b2, 0, none⟩ : Addr).add 2) fun v9 => DI .i64 v9 fun x7 => BIf (x6 != x7) (K (.bool false) H4) (Ld H4 ((⟨b2, 0, none⟩ : Addr).add 1) fun v10 => DI .i64 v10 fun x8 => BIf (x8 == (2 : Int)) (Ld H4 ((⟨b1, 0, none⟩ : Addr).add 1) fun v11 => DI .i64 v11 fun x9 => K (.bool (x9 == (1 : Int))) H4) (Ld H4 ((⟨b1, 0, none⟩ : Addr).add 1) fun v12 => DI .i64 v12 fun x10 => BIf (x10 == (1 : Int)) (K (.bool false) H4) (Ld H4 ((⟨b1, 0, none⟩ : Addr).add 6) fun v13 => DI .u32 v13 fun x11 => Ld H4 ((⟨b2, 0, none⟩ : Addr).add 6) fun v14 => DI .u32 v14 fun x12 => BIf (x11 != x12) (K (.bool false) H4) (Ld H4 ((⟨b2, 0, none⟩ : Addr).add 1) fun v15 => DI .i64 v15 fun x13 => BIf (x13 == (3 : Int)) (Ld H4 ((⟨b2, 0, none⟩ : Addr).add 7) fun v16 => DI .u32 v16 fun x14 => K (.bool (x14 == (0 : Int))) H4) (Ld H4 ((⟨b1, 0, none⟩ : Addr).add 1) fun v17 => DI .i64 v17 fun x15 => BIf (x15 == (2 : Int)) (K (.bool false) H4) (Ld H4 ((⟨b1, 0, none⟩ : Addr).add 3) fun v18 => DI .i64 v18 fun x16 => Ld H4 ((⟨b2, 0, none⟩ : Addr).add 3) fun v19 => DI .i64 v19 fun x17 => BIf (x16 != x17) (K (.bool false) H4) (Ld H4 ((⟨b1, 0, none⟩ : Addr).add 1) fun v20 => DI .i64 v20 fun x18 => BIf (x18 == (3 : Int)) (Ld H4 ((⟨b2, 0, none⟩ : Addr).add 4) fun v21 => DI .i64 v21 fun x19 => K (.bool (x19 == (1 : Int))) H4) (Ld H4 ((⟨b2, 0, none⟩ : Addr).add 4) fun v22 => DI .i64 v22 fun x20 => Ld H4 ((⟨b1, 0, none⟩ : Addr).add 4) fun v23 => DI .i64 v23 fun x21 => K (.bool (x20 == (IntKind.i64.wrap (x21 + (1 : Int))))) H4)))))))))))))
theorem W_abacistref20_After.ok (y1 : Array Value) (y2 : Array Value) (H : Hp) (K : Value → Hp → Prop) (h : W_abacistref20_After y1 y2 H K) : HCalls Tryz.prog 39 #[.agg y1, .agg y2] H K :=
  hcalls Tryz.func39 rfl (Nat.le_of_ble_eq_true rfl) (hw_safe (Λ := Cuts.none (fun _ => none)) mixWabacistref20 _ _ _ _ _ (Eq.mp (by kernel_rfl) h) (obs_none _ _ _ _ _))
def W_abacistref20_Take.l4 (K : Value → Hp → Prop) : Nat → ByteArray → Addr → Int → Hp → Prop
  | 0, _, _, _, _ => False
  | k + 1, s2, a1, x2, H =>
    let R4 := W_abacistref20_Take.l4 K k
    BIf (decide (x2 < ((s2.size : Nat) : Int))) ((0 ≤ x2 ∧ ixB s2 x2.toNat fun x3 => BIf (x3 != (0 : Int)) (StA H a1 #[.int .u64 0, .int .i64 0, .int .i64 0, .int .i64 0, .int .i64 0, .int .u32 0, .int .u32 0, .int .u32 0] 8 fun H4 => LdA H4 a1 8 fun l4 => K (.tuple #[.agg l4.toArray, .int .i64 10]) H4) (R4 s2 a1 (IntKind.i64.wrap (x2 + (1 : Int))) H))) (HCalls Tryz.prog 109 #[.string s2, .int .i64 0] H fun v2 H5 => DI .u64 v2 fun x4 => HCalls Tryz.prog 109 #[.string s2, .int .i64 8] H5 fun v3 H6 => DI .u64 v3 fun x5 => HCalls Tryz.prog 109 #[.string s2, .int .i64 16] H6 fun v4 H7 => DI .u64 v4 fun x6 => ((281474976710656 : Int) ≠ 0 ∧ IntKind.u64 = IntKind.u64 ∧ BIf ((IntKind.u64.wrap (Int.tdiv x4 (281474976710656 : Int))) != (21061 : Int)) (StA H7 a1 #[.int .u64 0, .int .i64 0, .int .i64 0, .int .i64 0, .int .i64 0, .int .u32 0, .int .u32 0, .int .u32 0] 8 fun H8 => LdA H8 a1 8 fun l5 => K (.tuple #[.agg l5.toArray, .int .i64 10]) H8) (Nw H7 (.row [.int .u64 x4, .int .u64 x5, .int .u64 x6] 60 3) fun b2 H9 => HCalls Tryz.prog 10 #[.slice (some ⟨b2, 0, none⟩) 3 3] H9 fun v5 H10 => DI .u32 v5 fun x7 => HCalls Tryz.prog 109 #[.string s2, .int .i64 24] H10 fun v6 H11 => DI .u64 v6 fun x8 => BIf (x8 != (IntKind.u64.wrap ((IntKind.u64.wrap ((IntKind.u64.wrap ((4294967295 : Int) - (IntKind.u64.wrap x7))) * (4294967296 : Int))) + (IntKind.u64.wrap x7)))) (StA H11 a1 #[.int .u64 0, .int .i64 0, .int .i64 0, .int .i64 0, .int .i64 0, .int .u32 0, .int .u32 0, .int .u32 0] 8 fun H12 => LdA H12 a1 8 fun l6 => K (.tuple #[.agg l6.toArray, .int .i64 9]) H12) (((281474976710656 : Int) ≠ 0 ∧ IntKind.u64 = IntKind.u64 ∧ ((256 : Int) ≠ 0 ∧ IntKind.u64 = IntKind.u64 ∧ ((256 : Int) ≠ 0 ∧ IntKind.u64 = IntKind.u64 ∧ ((256 : Int) ≠ 0 ∧ IntKind.u64 = IntKind.u64 ∧ ((65536 : Int) ≠ 0 ∧ IntKind.u64 = IntKind.u64 ∧ ((256 : Int) ≠ 0 ∧ IntKind.u64 = IntKind.u64 ∧ ((16777216 : Int) ≠ 0 ∧ IntKind.u64 = IntKind.u64 ∧ ((256 : Int) ≠ 0 ∧ IntKind.u64 = IntKind.u64 ∧ ((4294967296 : Int) ≠ 0 ∧ IntKind.u64 = IntKind.u64 ∧ ((4294967296 : Int) ≠ 0 ∧ IntKind.u64 = IntKind.u64 ∧ ((4294967296 : Int) ≠ 0 ∧ IntKind.u64 = IntKind.u64 ∧ Nw H11 (.obj (.cells #[.int .u64 0, .int .i64 0, .int .i64 0, .int .i64 0, .int .i64 0, .int .u32 0, .int .u32 0, .int .u32 0] 86)) fun b3 H13 => StA H13 (⟨b3, 0, none⟩ : Addr) #[.int .u64 (Int.tmod x4 (281474976710656 : Int)), .int .i64 (IntKind.i64.wrap (Int.tmod x5 (256 : Int))), .int .i64 (IntKind.i64.wrap (Int.tmod (IntKind.u64.wrap (Int.tdiv x5 (65536 : Int))) (256 : Int))), .int .i64 (IntKind.i64.wrap (Int.tmod (IntKind.u64.wrap (Int.tdiv x5 (256 : Int))) (256 : Int))), .int .i64 (IntKind.i64.wrap (Int.tmod (IntKind.u64.wrap (Int.tdiv x5 (16777216 : Int))) (256 : Int))), .int .u32 (IntKind.u32.wrap (IntKind.u64.wrap (Int.tdiv x5 (4294967296 : Int)))), .int .u32 (IntKind.u32.wrap (IntKind.u64.wrap (Int.tdiv x6 (4294967296 : Int)))), .int .u32 (IntKind.u32.wrap (Int.tmod x6 (4294967296 : Int)))] 8 fun H14 => LdA H14 (⟨b3, 0, none⟩ : Addr) 8 fun l1 => HCalls Tryz.prog 27 #[.agg l1.toArray] H14 fun v7 H15 => DB v7 fun c1 => BIf (!c1) (StA H15 a1 #[.int .u64 0, .int .i64 0, .int .i64 0, .int .i64 0, .int .i64 0, .int .u32 0, .int .u32 0, .int .u32 0] 8 fun H16 => LdA H16 a1 8 fun l7 => K (.tuple #[.agg l7.toArray, .int .i64 1]) H16) (LdA H15 (⟨b3, 0, none⟩ : Addr) 8 fun l2 => StA H15 a1 l2.toArray 8 fun H17 => LdA H17 a1 8 fun l8 => K (.tuple #[.agg l8.toArray, .int .i64 0]) H17))))))))))))))))
def W_abacistref20_Take (s1 : ByteArray) (H : Hp) (K : Value → Hp → Prop) : Prop :=
  Nw H (.obj (.cells #[.int .u64 0, .int .i64 0, .int .i64 0, .int .i64 0, .int .i64 0, .int .u32 0, .int .u32 0, .int .u32 0] 86)) fun b1 H1 => HCalls Tryz.prog 108 #[.int .i64 ((s1.size : Nat) : Int)] H1 fun v1 H2 => DI .i64 v1 fun x1 => BIf (decide (x1 < (0 : Int))) (StA H2 (⟨b1, 0, none⟩ : Addr) #[.int .u64 0, .int .i64 0, .int .i64 0, .int .i64 0, .int .i64 0, .int .u32 0, .int .u32 0, .int .u32 0] 8 fun H3 => LdA H3 (⟨b1, 0, none⟩ : Addr) 8 fun l3 => K (.tuple #[.agg l3.toArray, .int .i64 15]) H3) ((∃ k, W_abacistref20_Take.l4 K k s1 (⟨b1, 0, none⟩ : Addr) (32 : Int) H2))
def W_abacistref20_Take.l4.L (K : Value → Hp → Prop) (k : Nat) : Mid := fun E D H =>
  DG (E.get? 0) fun w0 => DS w0 fun s2 => eN E 2 fun a1 => eI E 4 .i64 fun x2 => DNilD D (W_abacistref20_Take.l4 K k s2 a1 x2 H)
def W_abacistref20_Take.Λ4 (_ : Value → Hp → Prop) (_R4 : ByteArray → Addr → Int → Hp → Prop) : Cuts := Cuts.none (fun _ => none)
def W_abacistref20_Take.Λ (K : Value → Hp → Prop) : Cuts := ⟨fun i => none, fun i => match Nat.beq i 4 with | true => some (fun E D H => ∃ k, W_abacistref20_Take.l4.L K k E D H) | false => none, (fun _ => none)⟩
theorem W_abacistref20_Take.ok (s1 : ByteArray) (H : Hp) (K : Value → Hp → Prop) (h : W_abacistref20_Take s1 H K) : HCalls Tryz.prog 62 #[.string s1] H K :=
  hcalls Tryz.func62 rfl (Nat.le_of_ble_eq_true rfl) (hw_safe (Λ := (W_abacistref20_Take.Λ K)) mixWabacistref20 _ _ _ _ _ (Eq.mp (by kernel_rfl) h) (obs_seq obs_region rfl (obs_seq (obs_seq obs_region rfl (obs_cond (obs_seq obs_region rfl obs_ret) obs_skip)) rfl (obs_seq (obs_seq obs_region rfl (obs_block (obs_loop rfl (fun E D H h => by
      refine Safe.loop' (W_abacistref20_Take.l4.L K) (fun E D H h => ?_) (fun k E D H h => ?_) E D H h
      · obtain ⟨w0, e0, g1⟩ := DG.out h; obtain ⟨s2, rfl, g2⟩ := DS.out g1; obtain ⟨w2, e2, g3⟩ := DG.out g2; obtain ⟨pw2, rfl, g4⟩ := DP.out g3; obtain ⟨a1, rfl, g5⟩ := NN.out g4; obtain ⟨w4, e4, g6⟩ := DG.out g5; obtain ⟨x2, rfl, g7⟩ := DI.out g6; obtain ⟨rfl, h'⟩ := DNilD.out g7; exact h'
      · obtain ⟨w0, e0, g1⟩ := DG.out h
        obtain ⟨s2, rfl, g2⟩ := DS.out g1
        obtain ⟨a1, e2, g5⟩ := GN g2; obtain ⟨x2, e4, g7⟩ := GI g5; obtain ⟨rfl, h'⟩ := DNilD.out g7
        exact (hw_safe (Λ := (W_abacistref20_Take.Λ4 K (W_abacistref20_Take.l4 K k))) mixWabacistref20 _ _ [(0, .string s2), (2, .pointer (some a1)), (4, .int .i64 x2)] [] H (Eq.mp (by kernel_rfl) h') (obs_seq (obs_seq obs_region rfl (obs_cond obs_skip obs_exit)) rfl (obs_seq (obs_block (obs_seq obs_region rfl (obs_cond (obs_seq obs_region rfl obs_ret) obs_skip))) rfl obs_region))).weaken (EnvLe.cons e0 (EnvLe.cons e2 (EnvLe.cons e4 (EnvLe.nil _)))) (Hp.le_refl _))))) rfl (obs_seq obs_region rfl (obs_seq obs_region rfl (obs_seq obs_region rfl (obs_seq (obs_seq obs_region rfl (obs_cond (obs_seq obs_region rfl obs_ret) obs_skip)) rfl (obs_seq obs_region rfl (obs_seq (obs_seq obs_region rfl (obs_cond (obs_seq obs_region rfl obs_ret) obs_skip)) rfl (obs_seq obs_region rfl (obs_seq (obs_seq obs_region rfl (obs_cond (obs_seq obs_region rfl obs_ret) obs_skip)) rfl (obs_seq obs_region rfl obs_ret)))))))))))))
end Go.Proofs.YtnknippcbecmeaaGreatDoor.W
end
section
/- record: right records; which may stand behind which. -/
namespace Go.Proofs.YtnknippcbecmeaaGreatDoor.Rec
open Go Go.Hw W
structure R where
  s : Nat
  kd : Int
  kk : Int
  dir : Int
  ps : Int
  ld : Nat
  inp : Nat
  out : Nat
def R.c (r : R) : Array Value := #[.int .u64 (r.s : Int), .int .i64 r.kd, .int .i64 r.kk, .int .i64 r.dir, .int .i64 r.ps, .int .u32 (r.ld : Int), .int .u32 (r.inp : Int), .int .u32 (r.out : Int)]
def recO (r : R) : AO := .obj (.cells r.c 86)
abbrev R.good (r : R) : Prop := 1 ≤ r.s ∧ r.s < 281474976710656 ∧ 0 ≤ r.kk ∧ r.kk ≤ 32 ∧ (r.dir = 0 ∨ r.dir = 1) ∧
  ((r.kd = 1 ∧ r.inp = 0 ∧ r.ps = 0 ∧ r.dir = 0 ∧ r.out = 0) ∨ (r.kd = 2 ∧ r.ps = 0 ∧ r.dir = 0 ∧ r.out = 0) ∨ (r.kd = 3 ∧ r.ps = 0) ∨ (r.kd = 4 ∧ 1 ≤ r.ps ∧ r.ps ≤ 7))
theorem direction_ok (x : Int) (H : Hp) : HCalls Tryz.prog 146 #[.int .i64 x] H (RetE (.bool (decide (x = 0 ∨ x = 1))) H) := by
  apply W_record_direction.ok
  unfold W_record_direction
  by_cases h : x = 0
  · rw [decide_eq_true (.inl h)]
    exact BIf_beqp h (RetE.mk _ _)
  · refine BIf_beqn h ⟨?_, rfl⟩
    by_cases h1 : x = 1
    · rw [decide_eq_true (.inr h1), h1]; rfl
    · rw [decide_eq_false (by omega), beq_eq_false_iff_ne.2 h1]
section
variable {r : R} {H0 H : Hp} {b1 : Nat}
theorem out_no (hs : Sep [own H0, pts b1 (recO r)] H) (h : ¬ r.good) : Ret (.bool (decide r.good)) H0 (.bool false) H := by
  rw [decide_eq_false h]; exact hs.fin 0 rfl _
theorem out_b (hs : Sep [own H0, pts b1 (recO r)] H) {b : Bool} (h : b = true ↔ r.good) : Ret (.bool (decide r.good)) H0 (.bool b) H := by
  have : decide r.good = b := by
    cases b with
    | true => exact decide_eq_true (h.1 rfl)
    | false => exact decide_eq_false fun g => by have := h.2 g; cases this
  rw [this]; exact hs.fin 0 rfl _
theorem Good_j10 (hs : Sep [own H0, pts b1 (recO r)] H) (h : (r.ps = 0 ∧ r.dir = 0 ∧ r.out = 0) ↔ r.good) : W_record_Good.j10 (Ret (.bool (decide r.good)) H0) ⟨b1, 0, none⟩ H := by
  unfold W_record_Good.j10
  refine hs.ldf 1 rfl rfl ?_
  simp only [HV]
  by_cases h1 : r.ps = 0
  · refine BIf_beqp h1 ?_
    refine hs.ldf 1 rfl rfl ?_
    simp only [HV]
    by_cases h2 : r.dir = 0
    · refine BIf_beqp h2 ?_
      refine hs.ldf 1 rfl rfl ?_
      simp only [HV]
      refine out_b hs ?_
      rw [← h, beq_iff_eq]
      omega
    · exact BIf_beqn h2 (out_no hs fun g => h2 (h.2 g).2.1)
  · exact BIf_beqn h1 (out_no hs fun g => h1 (h.2 g).1)
end
theorem Good_ok (r : R) (H : Hp) : HCalls Tryz.prog 111 #[.agg r.c] H (RetE (.bool (decide r.good)) H) := HCalls.ret (by
  apply W_record_Good.ok
  unfold W_record_Good
  refine (Sep.start H).nw fun b1 H1 hs => ?_
  have hs : Sep [own H, pts b1 (recO r)] H1 := hs
  refine hs.ldf 1 rfl rfl ?_
  simp only [HV]
  by_cases h1 : (r.s : Int) < 1
  · exact BIf_dpos h1 (out_no hs fun g => by have := g.1; omega)
  refine BIf_dneg h1 ?_
  refine hs.ldf 1 rfl rfl ?_
  simp only [HV]
  by_cases h2 : (r.s : Int) ≥ 281474976710656
  · exact BIf_dpos h2 (out_no hs fun g => by have := g.2.1; omega)
  refine BIf_dneg h2 ?_
  refine hs.ldf 1 rfl rfl ?_
  simp only [HV]
  by_cases h3 : r.kk < 0
  · exact BIf_dpos h3 (out_no hs fun g => by have := g.2.2.1; omega)
  refine BIf_dneg h3 ?_
  refine hs.ldf 1 rfl rfl ?_
  simp only [HV]
  by_cases h4 : r.kk > 32
  · exact BIf_dpos h4 (out_no hs fun g => by have := g.2.2.2.1; omega)
  refine BIf_dneg h4 ?_
  refine hs.ldf 1 rfl rfl ?_
  simp only [HV]
  refine HCalls.use (direction_ok r.dir H1) ?_
  simp only [HV]
  by_cases h5 : r.dir = 0 ∨ r.dir = 1
  case neg =>
    rw [decide_eq_false h5]
    exact BIf_pos rfl (out_no hs fun g => h5 g.2.2.2.2.1)
  rw [decide_eq_true h5]
  refine BIf_neg rfl ?_
  have hd : ∀ {P : Prop}, (P ↔ ((r.kd = 1 ∧ r.inp = 0 ∧ r.ps = 0 ∧ r.dir = 0 ∧ r.out = 0) ∨ (r.kd = 2 ∧ r.ps = 0 ∧ r.dir = 0 ∧ r.out = 0) ∨ (r.kd = 3 ∧ r.ps = 0) ∨ (r.kd = 4 ∧ 1 ≤ r.ps ∧ r.ps ≤ 7))) → (P ↔ r.good) := fun h => by
    rw [h]
    exact ⟨fun g => ⟨by omega, by omega, by omega, by omega, h5, g⟩, fun g => g.2.2.2.2.2⟩
  refine hs.ldf 1 rfl rfl ?_
  simp only [HV]
  by_cases k1 : r.kd = 1
  · refine BIf_beqp k1 ?_
    refine hs.ldf 1 rfl rfl ?_
    simp only [HV]
    by_cases h6 : (r.inp : Int) = 0
    · exact BIf_bnen h6 (Good_j10 hs (hd (by omega)))
    · exact BIf_bnep h6 (out_no hs fun g => by have := g.2.2.2.2.2; omega)
  refine BIf_beqn k1 ?_
  by_cases k2 : r.kd = 2
  · exact BIf_beqp k2 (Good_j10 hs (hd (by omega)))
  refine BIf_beqn k2 ?_
  by_cases k3 : r.kd = 3
  · refine BIf_beqp k3 ?_
    refine hs.ldf 1 rfl rfl ?_
    simp only [HV]
    refine out_b hs (hd ?_)
    rw [beq_iff_eq]; omega
  refine BIf_beqn k3 ?_
  by_cases k4 : r.kd = 4
  · refine BIf_beqp k4 ?_
    refine hs.ldf 1 rfl rfl ?_
    simp only [HV]
    by_cases h7 : r.ps ≥ 1
    · refine BIf_dpos h7 ?_
      refine hs.ldf 1 rfl rfl ?_
      simp only [HV]
      refine out_b hs (hd ?_)
      rw [decide_eq_true_eq]; omega
    · exact BIf_dneg h7 (out_no hs fun g => by have := g.2.2.2.2.2; omega)
  · exact BIf_beqn k4 (out_no hs fun g => by have := g.2.2.2.2.2; omega))
theorem rGood_ok (r : R) (H : Hp) : HCalls Tryz.prog 27 #[.agg r.c] H (RetE (.bool (decide r.good)) H) := HCalls.ret (by
  apply W_abacistref20_Good.ok
  unfold W_abacistref20_Good
  refine (Sep.start H).nw fun b1 H1 hs => ?_
  have hs : Sep [own H, pts b1 (recO r)] H1 := hs
  refine hs.ldf 1 rfl rfl ?_
  simp only [HV]
  by_cases h1 : (r.s : Int) < 1
  · exact BIf_dpos h1 (out_no hs fun g => by have := g.1; omega)
  refine BIf_dneg h1 ?_
  refine hs.ldf 1 rfl rfl ?_
  simp only [HV]
  by_cases h2 : (r.s : Int) ≥ 281474976710656
  · exact BIf_dpos h2 (out_no hs fun g => by have := g.2.1; omega)
  refine BIf_dneg h2 ?_
  refine hs.ldf 1 rfl rfl ?_
  simp only [HV]
  by_cases h3 : r.kk < 0
  · exact BIf_dpos h3 (out_no hs fun g => by have := g.2.2.1; omega)
  refine BIf_dneg h3 ?_
  refine hs.ldf 1 rfl rfl ?_
  simp only [HV]
  by_cases h4 : r.kk > 32
  · exact BIf_dpos h4 (out_no hs fun g => by have := g.2.2.2.1; omega)
  refine BIf_dneg h4 ?_
  refine hs.ldf 1 rfl rfl ?_
  simp only [HV]
  by_cases h5 : r.dir < 0
  · exact BIf_dpos h5 (out_no hs fun g => by have := g.2.2.2.2.1; omega)
  refine BIf_dneg h5 ?_
  refine hs.ldf 1 rfl rfl ?_
  simp only [HV]
  by_cases h6 : r.dir > 1
  · exact BIf_dpos h6 (out_no hs fun g => by have := g.2.2.2.2.1; omega)
  refine BIf_dneg h6 ?_
  refine hs.ldf 1 rfl rfl ?_
  simp only [HV]
  by_cases h7 : r.kd < 1
  · exact BIf_dpos h7 (out_no hs fun g => by have := g.2.2.2.2.2; omega)
  refine BIf_dneg h7 ?_
  refine hs.ldf 1 rfl rfl ?_
  simp only [HV]
  by_cases h8 : r.kd > 4
  · exact BIf_dpos h8 (out_no hs fun g => by have := g.2.2.2.2.2; omega)
  refine BIf_dneg h8 ?_
  have hd : ∀ {P : Prop}, (P ↔ ((r.kd = 1 ∧ r.inp = 0 ∧ r.ps = 0 ∧ r.dir = 0 ∧ r.out = 0) ∨ (r.kd = 2 ∧ r.ps = 0 ∧ r.dir = 0 ∧ r.out = 0) ∨ (r.kd = 3 ∧ r.ps = 0) ∨ (r.kd = 4 ∧ 1 ≤ r.ps ∧ r.ps ≤ 7))) → (P ↔ r.good) := fun h => by
    rw [h]
    exact ⟨fun g => ⟨by omega, by omega, by omega, by omega, by omega, g⟩, fun g => g.2.2.2.2.2⟩
  refine hs.ldf 1 rfl rfl ?_
  simp only [HV]
  by_cases k4 : r.kd = 4
  · refine BIf_beqp k4 ?_
    refine hs.ldf 1 rfl rfl ?_
    simp only [HV]
    by_cases h7 : r.ps ≥ 1
    · refine BIf_dpos h7 ?_
      refine hs.ldf 1 rfl rfl ?_
      simp only [HV]
      refine out_b hs (hd ?_)
      rw [decide_eq_true_eq]; omega
    · exact BIf_dneg h7 (out_no hs fun g => by have := g.2.2.2.2.2; omega)
  refine BIf_beqn k4 ?_
  refine hs.ldf 1 rfl rfl ?_
  simp only [HV]
  by_cases k1 : r.kd = 1
  · refine BIf_beqp k1 ?_
    refine hs.ldf 1 rfl rfl ?_
    simp only [HV]
    by_cases h9 : (r.inp : Int) = 0
    · refine BIf_bnen h9 ?_
      refine hs.ldf 1 rfl rfl ?_
      simp only [HV]
      refine BIf_dpos (by omega) ?_
      refine hs.ldf 1 rfl rfl ?_
      simp only [HV]
      by_cases h10 : r.dir = 0
      · refine BIf_bnen h10 ?_
        refine hs.ldf 1 rfl rfl ?_
        simp only [HV]
        by_cases h11 : (r.out : Int) = 0
        · refine BIf_bnen h11 ?_
          refine hs.ldf 1 rfl rfl ?_
          simp only [HV]
          refine out_b hs (hd ?_)
          rw [beq_iff_eq]; omega
        · exact BIf_bnep h11 (out_no hs fun g => by have := g.2.2.2.2.2; omega)
      · exact BIf_bnep h10 (out_no hs fun g => by have := g.2.2.2.2.2; omega)
    · exact BIf_bnep h9 (out_no hs fun g => by have := g.2.2.2.2.2; omega)
  refine BIf_beqn k1 ?_
  refine hs.ldf 1 rfl rfl ?_
  simp only [HV]
  by_cases k2 : r.kd ≤ 2
  · refine BIf_dpos k2 ?_
    refine hs.ldf 1 rfl rfl ?_
    simp only [HV]
    by_cases h10 : r.dir = 0
    · refine BIf_bnen h10 ?_
      refine hs.ldf 1 rfl rfl ?_
      simp only [HV]
      by_cases h11 : (r.out : Int) = 0
      · refine BIf_bnen h11 ?_
        refine hs.ldf 1 rfl rfl ?_
        simp only [HV]
        refine out_b hs (hd ?_)
        rw [beq_iff_eq]; omega
      · exact BIf_bnep h11 (out_no hs fun g => by have := g.2.2.2.2.2; omega)
    · exact BIf_bnep h10 (out_no hs fun g => by have := g.2.2.2.2.2; omega)
  · refine BIf_dneg k2 ?_
    refine hs.ldf 1 rfl rfl ?_
    simp only [HV]
    refine out_b hs (hd ?_)
    rw [beq_iff_eq]; omega)
end Go.Proofs.YtnknippcbecmeaaGreatDoor.Rec
end
section
/- Formulas of functions, printed by wip/tools/hwp.py. -/
namespace Go.Proofs.YtnknippcbecmeaaGreatDoor.W
open Go Go.Hw
theorem mixWlslices : Tryz.prog.follows .mixedOrders = true := by kernel_rfl
def W_slices_SortFunc_api_Record_api_Record (A1 : Option Addr) (n1 : Nat) (m1 : Nat) (fd1 : FuncId) (F1 : Array Value) (C1 : Array Value) (H : Hp) (K : Value → Hp → Prop) : Prop :=
  HCalls Tryz.prog 123 #[.int .u64 (IntKind.u64.wrap ((n1 : Nat) : Int))] H fun v1 H1 => DI .i64 v1 fun x1 => HCalls Tryz.prog 122 #[.slice A1 n1 m1, .int .i64 0, .int .i64 ((n1 : Nat) : Int), .int .i64 x1, .func (.func fd1) F1 C1] H1 fun v2 H2 => K (.tuple #[]) H2
theorem W_slices_SortFunc_api_Record_api_Record.ok (A1 : Option Addr) (n1 : Nat) (m1 : Nat) (fd1 : FuncId) (F1 : Array Value) (C1 : Array Value) (H : Hp) (K : Value → Hp → Prop) (h : W_slices_SortFunc_api_Record_api_Record A1 n1 m1 fd1 F1 C1 H K) : HCalls Tryz.prog 73 #[.slice A1 n1 m1, .func (.func fd1) F1 C1] H K :=
  hcalls Tryz.func73 rfl (Nat.le_of_ble_eq_true rfl) (hw_safe (Λ := Cuts.none (fun _ => none)) mixWlslices _ _ _ _ _ (Eq.mp (by kernel_rfl) h) (obs_none _ _ _ _ _))
def W_slices_pdqsortCmpFunc_api_Record.j20 (K : Value → Hp → Prop) (R2 : Option Addr → Nat → Nat → Int → Int → Int → FuncId → Array Value → Array Value → Bool → Bool → Hp → Prop) (A6 : Option Addr) (n6 : Nat) (m6 : Nat) (x26 : Int) (x27 : Int) (x28 : Int) (fd6 : FuncId) (F6 : Array Value) (C6 : Array Value) (x29 : Int) (x30 : Int) (H : Hp) : Prop :=
  HCalls Tryz.prog 160 #[.slice A6 n6 m6, .int .i64 x26, .int .i64 x27, .int .i64 x30, .func (.func fd6) F6 C6] H fun v12 H9 => DTup v12 fun l6 => DCons l6 fun v13 l7 => DI .i64 v13 fun x31 => DCons l7 fun v14 l8 => DB v14 fun c10 => DNil l8 (((8 : Int) ≠ 0 ∧ IntKind.i64 = IntKind.i64 ∧ BIf (decide ((IntKind.i64.wrap (x31 - x26)) < (IntKind.i64.wrap (x27 - x31)))) (HCalls Tryz.prog 122 #[.slice A6 n6 m6, .int .i64 x26, .int .i64 x31, .int .i64 x28, .func (.func fd6) F6 C6] H9 fun v15 H10 => R2 A6 n6 m6 (IntKind.i64.wrap (x31 + (1 : Int))) x27 x28 fd6 F6 C6 (decide ((IntKind.i64.wrap (x31 - x26)) ≥ (IntKind.i64.wrap (Int.tdiv x29 (8 : Int))))) c10 H10) (HCalls Tryz.prog 122 #[.slice A6 n6 m6, .int .i64 (IntKind.i64.wrap (x31 + (1 : Int))), .int .i64 x27, .int .i64 x28, .func (.func fd6) F6 C6] H9 fun v16 H11 => R2 A6 n6 m6 x26 x31 x28 fd6 F6 C6 (decide ((IntKind.i64.wrap (x27 - x31)) ≥ (IntKind.i64.wrap (Int.tdiv x29 (8 : Int))))) c10 H11)))
def W_slices_pdqsortCmpFunc_api_Record.j17 (K : Value → Hp → Prop) (R2 : Option Addr → Nat → Nat → Int → Int → Int → FuncId → Array Value → Array Value → Bool → Bool → Hp → Prop) (A5 : Option Addr) (n5 : Nat) (m5 : Nat) (x19 : Int) (x20 : Int) (x21 : Int) (fd5 : FuncId) (F5 : Array Value) (C5 : Array Value) (c8 : Bool) (c9 : Bool) (x22 : Int) (x23 : Int) (H : Hp) : Prop :=
  BIf (decide (x19 > (0 : Int))) (ixI (IntKind.i64.wrap (x19 - (1 : Int))) n5 (NN A5 fun a1 => LdA H (a1.add ((IntKind.i64.wrap (x19 - (1 : Int))).toNat * 8)) 8 fun l4 => ixI x23 n5 (NN A5 fun a2 => LdA H (a2.add (x23.toNat * 8)) 8 fun l5 => CallK Tryz.prog fd5 ((F5 ++ #[.agg l4.toArray, .agg l5.toArray]) ++ C5) H fun v9 H7 => DR Tryz.prog (resTypes Tryz.prog fd5) v9 fun v10 => DI .i64 v10 fun x24 => BIf (!(decide (x24 < (0 : Int)))) (HCalls Tryz.prog 159 #[.slice A5 n5 m5, .int .i64 x19, .int .i64 x20, .int .i64 x23, .func (.func fd5) F5 C5] H7 fun v11 H8 => DI .i64 v11 fun x25 => R2 A5 n5 m5 x25 x20 x21 fd5 F5 C5 c8 c9 H8) (W_slices_pdqsortCmpFunc_api_Record.j20 K R2 A5 n5 m5 x19 x20 x21 fd5 F5 C5 x22 x23 H7)))) (W_slices_pdqsortCmpFunc_api_Record.j20 K R2 A5 n5 m5 x19 x20 x21 fd5 F5 C5 x22 x23 H)
def W_slices_pdqsortCmpFunc_api_Record.j15 (K : Value → Hp → Prop) (R2 : Option Addr → Nat → Nat → Int → Int → Int → FuncId → Array Value → Array Value → Bool → Bool → Hp → Prop) (A4 : Option Addr) (n4 : Nat) (m4 : Nat) (x13 : Int) (x14 : Int) (x15 : Int) (fd4 : FuncId) (F4 : Array Value) (C4 : Array Value) (c5 : Bool) (c6 : Bool) (x16 : Int) (x17 : Int) (x18 : Int) (H : Hp) : Prop :=
  BIf c5 (BIf c6 (BIf (x18 == (1 : Int)) (HCalls Tryz.prog 158 #[.slice A4 n4 m4, .int .i64 x13, .int .i64 x14, .func (.func fd4) F4 C4] H fun v8 H6 => DB v8 fun c7 => BIf c7 (K (.tuple #[]) H6) (W_slices_pdqsortCmpFunc_api_Record.j17 K R2 A4 n4 m4 x13 x14 x15 fd4 F4 C4 c5 c6 x16 x17 H6)) (W_slices_pdqsortCmpFunc_api_Record.j17 K R2 A4 n4 m4 x13 x14 x15 fd4 F4 C4 c5 c6 x16 x17 H)) (W_slices_pdqsortCmpFunc_api_Record.j17 K R2 A4 n4 m4 x13 x14 x15 fd4 F4 C4 c5 c6 x16 x17 H)) (W_slices_pdqsortCmpFunc_api_Record.j17 K R2 A4 n4 m4 x13 x14 x15 fd4 F4 C4 c5 c6 x16 x17 H)
def W_slices_pdqsortCmpFunc_api_Record.j10 (K : Value → Hp → Prop) (R2 : Option Addr → Nat → Nat → Int → Int → Int → FuncId → Array Value → Array Value → Bool → Bool → Hp → Prop) (A3 : Option Addr) (n3 : Nat) (m3 : Nat) (x7 : Int) (x8 : Int) (x9 : Int) (fd3 : FuncId) (F3 : Array Value) (C3 : Array Value) (c3 : Bool) (c4 : Bool) (x10 : Int) (H : Hp) : Prop :=
  HCalls Tryz.prog 156 #[.slice A3 n3 m3, .int .i64 x7, .int .i64 x8, .func (.func fd3) F3 C3] H fun v4 H4 => DTup v4 fun l1 => DCons l1 fun v5 l2 => DI .i64 v5 fun x11 => DCons l2 fun v6 l3 => DI .i64 v6 fun x12 => DNil l3 (BIf (x12 == (2 : Int)) (HCalls Tryz.prog 157 #[.slice A3 n3 m3, .int .i64 x7, .int .i64 x8, .func (.func fd3) F3 C3] H4 fun v7 H5 => W_slices_pdqsortCmpFunc_api_Record.j15 K R2 A3 n3 m3 x7 x8 x9 fd3 F3 C3 c3 c4 x10 (IntKind.i64.wrap ((IntKind.i64.wrap (x8 - (1 : Int))) - (IntKind.i64.wrap (x11 - x7)))) (1 : Int) H5) (W_slices_pdqsortCmpFunc_api_Record.j15 K R2 A3 n3 m3 x7 x8 x9 fd3 F3 C3 c3 c4 x10 x11 x12 H4))
def W_slices_pdqsortCmpFunc_api_Record.l2 (K : Value → Hp → Prop) : Nat → Option Addr → Nat → Nat → Int → Int → Int → FuncId → Array Value → Array Value → Bool → Bool → Hp → Prop
  | 0, _, _, _, _, _, _, _, _, _, _, _, _ => False
  | k + 1, A2, n2, m2, x4, x5, x6, fd2, F2, C2, c1, c2, H =>
    let R2 := W_slices_pdqsortCmpFunc_api_Record.l2 K k
    BIf (decide ((IntKind.i64.wrap (x5 - x4)) ≤ (12 : Int))) (HCalls Tryz.prog 153 #[.slice A2 n2 m2, .int .i64 x4, .int .i64 x5, .func (.func fd2) F2 C2] H fun v1 H1 => K (.tuple #[]) H1) (BIf (x6 == (0 : Int)) (HCalls Tryz.prog 154 #[.slice A2 n2 m2, .int .i64 x4, .int .i64 x5, .func (.func fd2) F2 C2] H fun v2 H2 => K (.tuple #[]) H2) (BIf (!c1) (HCalls Tryz.prog 155 #[.slice A2 n2 m2, .int .i64 x4, .int .i64 x5, .func (.func fd2) F2 C2] H fun v3 H3 => W_slices_pdqsortCmpFunc_api_Record.j10 K R2 A2 n2 m2 x4 x5 (IntKind.i64.wrap (x6 - (1 : Int))) fd2 F2 C2 c1 c2 (IntKind.i64.wrap (x5 - x4)) H3) (W_slices_pdqsortCmpFunc_api_Record.j10 K R2 A2 n2 m2 x4 x5 x6 fd2 F2 C2 c1 c2 (IntKind.i64.wrap (x5 - x4)) H)))
def W_slices_pdqsortCmpFunc_api_Record (A1 : Option Addr) (n1 : Nat) (m1 : Nat) (x1 : Int) (x2 : Int) (x3 : Int) (fd1 : FuncId) (F1 : Array Value) (C1 : Array Value) (H : Hp) (K : Value → Hp → Prop) : Prop :=
  (∃ k, W_slices_pdqsortCmpFunc_api_Record.l2 K k A1 n1 m1 x1 x2 x3 fd1 F1 C1 true true H)
def W_slices_pdqsortCmpFunc_api_Record.l2.L (K : Value → Hp → Prop) (k : Nat) : Mid := fun E D H =>
  DG (E.get? 0) fun w0 => DSl w0 fun A2 n2 m2 => eI E 1 .i64 fun x4 => eI E 2 .i64 fun x5 => eI E 3 .i64 fun x6 => DG (E.get? 4) fun w4 => DFn w4 fun fd2 F2 C2 => DG (E.get? 10) fun w10 => DB w10 fun c1 => DG (E.get? 11) fun w11 => DB w11 fun c2 => DNilD D (W_slices_pdqsortCmpFunc_api_Record.l2 K k A2 n2 m2 x4 x5 x6 fd2 F2 C2 c1 c2 H)
def W_slices_pdqsortCmpFunc_api_Record.Λ2 (K : Value → Hp → Prop) (R2 : Option Addr → Nat → Nat → Int → Int → Int → FuncId → Array Value → Array Value → Bool → Bool → Hp → Prop) : Cuts := ⟨fun i => match Nat.beq i 20 with | true => some (fun E D H => DG (E.get? 0) fun w0 => DSl w0 fun A6 n6 m6 => eI E 1 .i64 fun x26 => eI E 2 .i64 fun x27 => eI E 3 .i64 fun x28 => DG (E.get? 4) fun w4 => DFn w4 fun fd6 F6 C6 => eI E 12 .i64 fun x29 => eI E 13 .i64 fun x30 => DNilD D (W_slices_pdqsortCmpFunc_api_Record.j20 K R2 A6 n6 m6 x26 x27 x28 fd6 F6 C6 x29 x30 H)) | false => match Nat.beq i 17 with | true => some (fun E D H => DG (E.get? 0) fun w0 => DSl w0 fun A5 n5 m5 => eI E 1 .i64 fun x19 => eI E 2 .i64 fun x20 => eI E 3 .i64 fun x21 => DG (E.get? 4) fun w4 => DFn w4 fun fd5 F5 C5 => DG (E.get? 10) fun w10 => DB w10 fun c8 => DG (E.get? 11) fun w11 => DB w11 fun c9 => eI E 12 .i64 fun x22 => eI E 13 .i64 fun x23 => DNilD D (W_slices_pdqsortCmpFunc_api_Record.j17 K R2 A5 n5 m5 x19 x20 x21 fd5 F5 C5 c8 c9 x22 x23 H)) | false => match Nat.beq i 15 with | true => some (fun E D H => DG (E.get? 0) fun w0 => DSl w0 fun A4 n4 m4 => eI E 1 .i64 fun x13 => eI E 2 .i64 fun x14 => eI E 3 .i64 fun x15 => DG (E.get? 4) fun w4 => DFn w4 fun fd4 F4 C4 => DG (E.get? 10) fun w10 => DB w10 fun c5 => DG (E.get? 11) fun w11 => DB w11 fun c6 => eI E 12 .i64 fun x16 => eI E 13 .i64 fun x17 => eI E 14 .i64 fun x18 => DNilD D (W_slices_pdqsortCmpFunc_api_Record.j15 K R2 A4 n4 m4 x13 x14 x15 fd4 F4 C4 c5 c6 x16 x17 x18 H)) | false => match Nat.beq i 10 with | true => some (fun E D H => DG (E.get? 0) fun w0 => DSl w0 fun A3 n3 m3 => eI E 1 .i64 fun x7 => eI E 2 .i64 fun x8 => eI E 3 .i64 fun x9 => DG (E.get? 4) fun w4 => DFn w4 fun fd3 F3 C3 => DG (E.get? 10) fun w10 => DB w10 fun c3 => DG (E.get? 11) fun w11 => DB w11 fun c4 => eI E 12 .i64 fun x10 => DNilD D (W_slices_pdqsortCmpFunc_api_Record.j10 K R2 A3 n3 m3 x7 x8 x9 fd3 F3 C3 c3 c4 x10 H)) | false => none, fun i => none, (fun i => match Nat.beq i 17 with | true => some ([], [0, 1, 2, 3, 4, 5, 6, 7, 8, 9, 10, 11, 12], 13) | false => none)⟩
def W_slices_pdqsortCmpFunc_api_Record.Λ (K : Value → Hp → Prop) : Cuts := ⟨fun i => none, fun i => match Nat.beq i 2 with | true => some (fun E D H => ∃ k, W_slices_pdqsortCmpFunc_api_Record.l2.L K k E D H) | false => none, (fun i => match Nat.beq i 17 with | true => some ([], [0, 1, 2, 3, 4, 5, 6, 7, 8, 9, 10, 11, 12], 13) | false => none)⟩
theorem W_slices_pdqsortCmpFunc_api_Record.ok (A1 : Option Addr) (n1 : Nat) (m1 : Nat) (x1 : Int) (x2 : Int) (x3 : Int) (fd1 : FuncId) (F1 : Array Value) (C1 : Array Value) (H : Hp) (K : Value → Hp → Prop) (h : W_slices_pdqsortCmpFunc_api_Record A1 n1 m1 x1 x2 x3 fd1 F1 C1 H K) : HCalls Tryz.prog 122 #[.slice A1 n1 m1, .int .i64 x1, .int .i64 x2, .int .i64 x3, .func (.func fd1) F1 C1] H K :=
  hcalls Tryz.func122 rfl (Nat.le_of_ble_eq_true rfl) (hw_safe (Λ := (W_slices_pdqsortCmpFunc_api_Record.Λ K)) mixWlslices _ _ _ _ _ (Eq.mp (by kernel_rfl) h) (obs_seq obs_region rfl (obs_seq obs_region rfl (obs_block (obs_loop rfl (fun E D H h => by
      refine Safe.loop' (W_slices_pdqsortCmpFunc_api_Record.l2.L K) (fun E D H h => ?_) (fun k E D H h => ?_) E D H h
      · obtain ⟨w0, e0, g1⟩ := DG.out h; obtain ⟨A2, n2, m2, rfl, g2⟩ := DSl.out g1; obtain ⟨w1, e1, g3⟩ := DG.out g2; obtain ⟨x4, rfl, g4⟩ := DI.out g3; obtain ⟨w2, e2, g5⟩ := DG.out g4; obtain ⟨x5, rfl, g6⟩ := DI.out g5; obtain ⟨w3, e3, g7⟩ := DG.out g6; obtain ⟨x6, rfl, g8⟩ := DI.out g7; obtain ⟨w4, e4, g9⟩ := DG.out g8; obtain ⟨fd2, F2, C2, rfl, g10⟩ := DFn.out g9; obtain ⟨w10, e10, g11⟩ := DG.out g10; obtain ⟨c1, rfl, g12⟩ := DB.out g11; obtain ⟨w11, e11, g13⟩ := DG.out g12; obtain ⟨c2, rfl, g14⟩ := DB.out g13; obtain ⟨rfl, h'⟩ := DNilD.out g14; exact h'
      · obtain ⟨w0, e0, g1⟩ := DG.out h
        obtain ⟨A2, n2, m2, rfl, g2⟩ := DSl.out g1
        obtain ⟨x4, e1, g4⟩ := GI g2; obtain ⟨x5, e2, g6⟩ := GI g4; obtain ⟨x6, e3, g8⟩ := GI g6; obtain ⟨w4, e4, g9⟩ := DG.out g8
        obtain ⟨fd2, F2, C2, rfl, g10⟩ := DFn.out g9
        obtain ⟨w10, e10, g11⟩ := DG.out g10
        obtain ⟨c1, rfl, g12⟩ := DB.out g11
        obtain ⟨w11, e11, g13⟩ := DG.out g12
        obtain ⟨c2, rfl, g14⟩ := DB.out g13
        obtain ⟨rfl, h'⟩ := DNilD.out g14
        exact (hw_safe (Λ := (W_slices_pdqsortCmpFunc_api_Record.Λ2 K (W_slices_pdqsortCmpFunc_api_Record.l2 K k))) mixWlslices _ _ [(0, .slice A2 n2 m2), (1, .int .i64 x4), (2, .int .i64 x5), (3, .int .i64 x6), (4, .func (.func fd2) F2 C2), (10, .bool c1), (11, .bool c2)] [] H (Eq.mp (by kernel_rfl) h') (obs_block (obs_seq obs_region rfl (obs_seq (obs_seq obs_region rfl (obs_cond (obs_seq obs_region rfl obs_ret) obs_skip)) rfl (obs_seq (obs_seq obs_region rfl (obs_cond (obs_seq obs_region rfl obs_ret) obs_skip)) rfl (obs_seqc (obs_seq obs_region rfl (obs_cond (obs_seq obs_region rfl obs_region) obs_skip)) rfl (fun E D H h => by
            obtain ⟨w0, e0, g1⟩ := DG.out h
            obtain ⟨A3, n3, m3, rfl, g2⟩ := DSl.out g1
            obtain ⟨x7, e1, g4⟩ := GI g2; obtain ⟨x8, e2, g6⟩ := GI g4; obtain ⟨x9, e3, g8⟩ := GI g6; obtain ⟨w4, e4, g9⟩ := DG.out g8
            obtain ⟨fd3, F3, C3, rfl, g10⟩ := DFn.out g9
            obtain ⟨w10, e10, g11⟩ := DG.out g10
            obtain ⟨c3, rfl, g12⟩ := DB.out g11
            obtain ⟨w11, e11, g13⟩ := DG.out g12
            obtain ⟨c4, rfl, g14⟩ := DB.out g13
            obtain ⟨x10, e12, g16⟩ := GI g14
            obtain ⟨rfl, h'⟩ := DNilD.out g16
            exact (hw_safe (Λ := (W_slices_pdqsortCmpFunc_api_Record.Λ2 K (W_slices_pdqsortCmpFunc_api_Record.l2 K k))) mixWlslices _ _ [(0, .slice A3 n3 m3), (1, .int .i64 x7), (2, .int .i64 x8), (3, .int .i64 x9), (4, .func (.func fd3) F3 C3), (10, .bool c3), (11, .bool c4), (12, .int .i64 x10)] [] H (Eq.mp (by kernel_rfl) h') (obs_seq obs_region rfl (obs_seqc (obs_seq obs_region rfl (obs_cond (obs_seq obs_region rfl (obs_seq obs_region rfl obs_region)) obs_skip)) rfl (fun E D H h => by
                obtain ⟨w0, e0, g1⟩ := DG.out h
                obtain ⟨A4, n4, m4, rfl, g2⟩ := DSl.out g1
                obtain ⟨x13, e1, g4⟩ := GI g2; obtain ⟨x14, e2, g6⟩ := GI g4; obtain ⟨x15, e3, g8⟩ := GI g6; obtain ⟨w4, e4, g9⟩ := DG.out g8
                obtain ⟨fd4, F4, C4, rfl, g10⟩ := DFn.out g9
                obtain ⟨w10, e10, g11⟩ := DG.out g10
                obtain ⟨c5, rfl, g12⟩ := DB.out g11
                obtain ⟨w11, e11, g13⟩ := DG.out g12
                obtain ⟨c6, rfl, g14⟩ := DB.out g13
                obtain ⟨x16, e12, g16⟩ := GI g14; obtain ⟨x17, e13, g18⟩ := GI g16; obtain ⟨x18, e14, g20⟩ := GI g18; obtain ⟨rfl, h'⟩ := DNilD.out g20
                exact (hw_safe (Λ := (W_slices_pdqsortCmpFunc_api_Record.Λ2 K (W_slices_pdqsortCmpFunc_api_Record.l2 K k))) mixWlslices _ _ [(0, .slice A4 n4 m4), (1, .int .i64 x13), (2, .int .i64 x14), (3, .int .i64 x15), (4, .func (.func fd4) F4 C4), (10, .bool c5), (11, .bool c6), (12, .int .i64 x16), (13, .int .i64 x17), (14, .int .i64 x18)] [] H (Eq.mp (by kernel_rfl) h') (obs_seqc (obs_seq obs_region rfl (obs_cond (obs_seq obs_region rfl (obs_cond obs_ret obs_skip)) obs_skip)) rfl (fun E D H h => by
                    obtain ⟨w0, e0, g1⟩ := DG.out h
                    obtain ⟨A5, n5, m5, rfl, g2⟩ := DSl.out g1
                    obtain ⟨x19, e1, g4⟩ := GI g2; obtain ⟨x20, e2, g6⟩ := GI g4; obtain ⟨x21, e3, g8⟩ := GI g6; obtain ⟨w4, e4, g9⟩ := DG.out g8
                    obtain ⟨fd5, F5, C5, rfl, g10⟩ := DFn.out g9
                    obtain ⟨w10, e10, g11⟩ := DG.out g10
                    obtain ⟨c8, rfl, g12⟩ := DB.out g11
                    obtain ⟨w11, e11, g13⟩ := DG.out g12
                    obtain ⟨c9, rfl, g14⟩ := DB.out g13
                    obtain ⟨x22, e12, g16⟩ := GI g14; obtain ⟨x23, e13, g18⟩ := GI g16; obtain ⟨rfl, h'⟩ := DNilD.out g18
                    exact (hw_safe (Λ := (W_slices_pdqsortCmpFunc_api_Record.Λ2 K (W_slices_pdqsortCmpFunc_api_Record.l2 K k))) mixWlslices _ _ [(0, .slice A5 n5 m5), (1, .int .i64 x19), (2, .int .i64 x20), (3, .int .i64 x21), (4, .func (.func fd5) F5 C5), (10, .bool c8), (11, .bool c9), (12, .int .i64 x22), (13, .int .i64 x23)] [] H (Eq.mp (by kernel_rfl) h') (obs_seqc (obs_seq obs_region rfl (obs_cond (obs_seq obs_region rfl (obs_seq obs_region rfl obs_exit)) obs_skip)) rfl (fun E D H h => by
                        obtain ⟨w0, e0, g1⟩ := DG.out h
                        obtain ⟨A6, n6, m6, rfl, g2⟩ := DSl.out g1
                        obtain ⟨x26, e1, g4⟩ := GI g2; obtain ⟨x27, e2, g6⟩ := GI g4; obtain ⟨x28, e3, g8⟩ := GI g6; obtain ⟨w4, e4, g9⟩ := DG.out g8
                        obtain ⟨fd6, F6, C6, rfl, g10⟩ := DFn.out g9
                        obtain ⟨x29, e12, g12⟩ := GI g10; obtain ⟨x30, e13, g14⟩ := GI g12; obtain ⟨rfl, h'⟩ := DNilD.out g14
                        exact (hw_safe (Λ := (W_slices_pdqsortCmpFunc_api_Record.Λ2 K (W_slices_pdqsortCmpFunc_api_Record.l2 K k))) mixWlslices _ _ [(0, .slice A6 n6 m6), (1, .int .i64 x26), (2, .int .i64 x27), (3, .int .i64 x28), (4, .func (.func fd6) F6 C6), (12, .int .i64 x29), (13, .int .i64 x30)] [] H (Eq.mp (by kernel_rfl) h') (obs_seq obs_region rfl (obs_seq obs_region rfl (obs_seq obs_region rfl (obs_seq obs_region rfl (obs_seq obs_region rfl (obs_cond (obs_seq obs_region rfl (obs_seq obs_region rfl obs_region)) (obs_seq obs_region rfl (obs_seq obs_region rfl obs_region))))))))).weaken (EnvLe.cons e0 (EnvLe.cons e1 (EnvLe.cons e2 (EnvLe.cons e3 (EnvLe.cons e4 (EnvLe.cons e12 (EnvLe.cons e13 (EnvLe.nil _)))))))) (Hp.le_refl _)))).weaken (EnvLe.cons e0 (EnvLe.cons e1 (EnvLe.cons e2 (EnvLe.cons e3 (EnvLe.cons e4 (EnvLe.cons e10 (EnvLe.cons e11 (EnvLe.cons e12 (EnvLe.cons e13 (EnvLe.nil _)))))))))) (Hp.le_refl _)))).weaken (EnvLe.cons e0 (EnvLe.cons e1 (EnvLe.cons e2 (EnvLe.cons e3 (EnvLe.cons e4 (EnvLe.cons e10 (EnvLe.cons e11 (EnvLe.cons e12 (EnvLe.cons e13 (EnvLe.cons e14 (EnvLe.nil _))))))))))) (Hp.le_refl _))))).weaken (EnvLe.cons e0 (EnvLe.cons e1 (EnvLe.cons e2 (EnvLe.cons e3 (EnvLe.cons e4 (EnvLe.cons e10 (EnvLe.cons e11 (EnvLe.cons e12 (EnvLe.nil _))))))))) (Hp.le_refl _)))))))).weaken (EnvLe.cons e0 (EnvLe.cons e1 (EnvLe.cons e2 (EnvLe.cons e3 (EnvLe.cons e4 (EnvLe.cons e10 (EnvLe.cons e11 (EnvLe.nil _)))))))) (Hp.le_refl _)))))))
def W_slices_insertionSortCmpFunc_api_Record.l4 (K : Value → Hp → Prop) (R1 : Option Addr → Nat → Nat → Int → Int → FuncId → Array Value → Array Value → Int → Hp → Prop) : Nat → Option Addr → Nat → Nat → Int → Int → FuncId → Array Value → Array Value → Int → Int → Hp → Prop
  | 0, _, _, _, _, _, _, _, _, _, _, _ => False
  | k + 1, A3, n3, m3, x6, x7, fd3, F3, C3, x8, x9, H =>
    let R4 := W_slices_insertionSortCmpFunc_api_Record.l4 K R1 k
    BIf (decide (x9 > x6)) (ixI x9 n3 (NN A3 fun a1 => LdA H (a1.add (x9.toNat * 8)) 8 fun l1 => ixI (IntKind.i64.wrap (x9 - (1 : Int))) n3 (NN A3 fun a2 => LdA H (a2.add ((IntKind.i64.wrap (x9 - (1 : Int))).toNat * 8)) 8 fun l2 => CallK Tryz.prog fd3 ((F3 ++ #[.agg l1.toArray, .agg l2.toArray]) ++ C3) H fun v1 H1 => DR Tryz.prog (resTypes Tryz.prog fd3) v1 fun v2 => DI .i64 v2 fun x10 => BIf (decide (x10 < (0 : Int))) (ixI (IntKind.i64.wrap (x9 - (1 : Int))) n3 (NN A3 fun a3 => ixI x9 n3 (NN A3 fun a4 => (LdA H1 (a3.add ((IntKind.i64.wrap (x9 - (1 : Int))).toNat * 8)) 8 fun l3 => LdA H1 (a4.add (x9.toNat * 8)) 8 fun l4 => ixI x9 n3 (NN A3 fun a5 => StA H1 (a5.add (x9.toNat * 8)) l3.toArray 8 fun H2 => ixI (IntKind.i64.wrap (x9 - (1 : Int))) n3 (NN A3 fun a6 => StA H2 (a6.add ((IntKind.i64.wrap (x9 - (1 : Int))).toNat * 8)) l4.toArray 8 fun H3 => R4 A3 n3 m3 x6 x7 fd3 F3 C3 x8 (IntKind.i64.wrap (x9 - (1 : Int))) H3))) ∧ (LdA H1 (a4.add (x9.toNat * 8)) 8 fun l5 => LdA H1 (a3.add ((IntKind.i64.wrap (x9 - (1 : Int))).toNat * 8)) 8 fun l6 => ixI x9 n3 (NN A3 fun a7 => StA H1 (a7.add (x9.toNat * 8)) l6.toArray 8 fun H4 => ixI (IntKind.i64.wrap (x9 - (1 : Int))) n3 (NN A3 fun a8 => StA H4 (a8.add ((IntKind.i64.wrap (x9 - (1 : Int))).toNat * 8)) l5.toArray 8 fun H5 => R4 A3 n3 m3 x6 x7 fd3 F3 C3 x8 (IntKind.i64.wrap (x9 - (1 : Int))) H5)))))) (R1 A3 n3 m3 x6 x7 fd3 F3 C3 (IntKind.i64.wrap (x8 + (1 : Int))) H1)))) (R1 A3 n3 m3 x6 x7 fd3 F3 C3 (IntKind.i64.wrap (x8 + (1 : Int))) H)
def W_slices_insertionSortCmpFunc_api_Record.l1 (K : Value → Hp → Prop) : Nat → Option Addr → Nat → Nat → Int → Int → FuncId → Array Value → Array Value → Int → Hp → Prop
  | 0, _, _, _, _, _, _, _, _, _, _ => False
  | k + 1, A2, n2, m2, x3, x4, fd2, F2, C2, x5, H =>
    let R1 := W_slices_insertionSortCmpFunc_api_Record.l1 K k
    BIf (decide (x5 < x4)) ((∃ k, W_slices_insertionSortCmpFunc_api_Record.l4 K R1 k A2 n2 m2 x3 x4 fd2 F2 C2 x5 x5 H)) (K (.tuple #[]) H)
def W_slices_insertionSortCmpFunc_api_Record (A1 : Option Addr) (n1 : Nat) (m1 : Nat) (x1 : Int) (x2 : Int) (fd1 : FuncId) (F1 : Array Value) (C1 : Array Value) (H : Hp) (K : Value → Hp → Prop) : Prop :=
  (∃ k, W_slices_insertionSortCmpFunc_api_Record.l1 K k A1 n1 m1 x1 x2 fd1 F1 C1 (IntKind.i64.wrap (x1 + (1 : Int))) H)
def W_slices_insertionSortCmpFunc_api_Record.l1.L (K : Value → Hp → Prop) (k : Nat) : Mid := fun E D H =>
  DG (E.get? 0) fun w0 => DSl w0 fun A2 n2 m2 => eI E 1 .i64 fun x3 => eI E 2 .i64 fun x4 => DG (E.get? 3) fun w3 => DFn w3 fun fd2 F2 C2 => eI E 8 .i64 fun x5 => DNilD D (W_slices_insertionSortCmpFunc_api_Record.l1 K k A2 n2 m2 x3 x4 fd2 F2 C2 x5 H)
def W_slices_insertionSortCmpFunc_api_Record.l4.L (K : Value → Hp → Prop) (R1 : Option Addr → Nat → Nat → Int → Int → FuncId → Array Value → Array Value → Int → Hp → Prop) (k : Nat) : Mid := fun E D H =>
  DG (E.get? 0) fun w0 => DSl w0 fun A3 n3 m3 => eI E 1 .i64 fun x6 => eI E 2 .i64 fun x7 => DG (E.get? 3) fun w3 => DFn w3 fun fd3 F3 C3 => eI E 8 .i64 fun x8 => eI E 9 .i64 fun x9 => DNilD D (W_slices_insertionSortCmpFunc_api_Record.l4 K R1 k A3 n3 m3 x6 x7 fd3 F3 C3 x8 x9 H)
def W_slices_insertionSortCmpFunc_api_Record.Λ4 (_ : Value → Hp → Prop) (_R1 : Option Addr → Nat → Nat → Int → Int → FuncId → Array Value → Array Value → Int → Hp → Prop) (_R4 : Option Addr → Nat → Nat → Int → Int → FuncId → Array Value → Array Value → Int → Int → Hp → Prop) : Cuts := Cuts.none (fun i => match Nat.beq i 6 with | true => some ([], [0, 0, 0, 0, 8, 0, 0, 64, 224, 480, 0, 0, 3072, 7168, 16355, 32739, 65535, 131071], 0) | false => match Nat.beq i 4 with | true => some ([], [0, 1, 2, 3, 4, 5, 6, 7, 8, 9, 10, 11, 12, 13], 14) | false => none)
def W_slices_insertionSortCmpFunc_api_Record.Λ1 (K : Value → Hp → Prop) (R1 : Option Addr → Nat → Nat → Int → Int → FuncId → Array Value → Array Value → Int → Hp → Prop) : Cuts := ⟨fun i => none, fun i => match Nat.beq i 4 with | true => some (fun E D H => ∃ k, W_slices_insertionSortCmpFunc_api_Record.l4.L K R1 k E D H) | false => none, (fun i => match Nat.beq i 6 with | true => some ([], [0, 0, 0, 0, 8, 0, 0, 64, 224, 480, 0, 0, 3072, 7168, 16355, 32739, 65535, 131071], 0) | false => match Nat.beq i 4 with | true => some ([], [0, 1, 2, 3, 4, 5, 6, 7, 8, 9, 10, 11, 12, 13], 14) | false => none)⟩
def W_slices_insertionSortCmpFunc_api_Record.Λ (K : Value → Hp → Prop) : Cuts := ⟨fun i => none, fun i => match Nat.beq i 1 with | true => some (fun E D H => ∃ k, W_slices_insertionSortCmpFunc_api_Record.l1.L K k E D H) | false => none, (fun i => match Nat.beq i 6 with | true => some ([], [0, 0, 0, 0, 8, 0, 0, 64, 224, 480, 0, 0, 3072, 7168, 16355, 32739, 65535, 131071], 0) | false => match Nat.beq i 4 with | true => some ([], [0, 1, 2, 3, 4, 5, 6, 7, 8, 9, 10, 11, 12, 13], 14) | false => none)⟩
theorem W_slices_insertionSortCmpFunc_api_Record.ok (A1 : Option Addr) (n1 : Nat) (m1 : Nat) (x1 : Int) (x2 : Int) (fd1 : FuncId) (F1 : Array Value) (C1 : Array Value) (H : Hp) (K : Value → Hp → Prop) (h : W_slices_insertionSortCmpFunc_api_Record A1 n1 m1 x1 x2 fd1 F1 C1 H K) : HCalls Tryz.prog 153 #[.slice A1 n1 m1, .int .i64 x1, .int .i64 x2, .func (.func fd1) F1 C1] H K :=
  hcalls Tryz.func153 rfl (Nat.le_of_ble_eq_true rfl) (hw_safe (Λ := (W_slices_insertionSortCmpFunc_api_Record.Λ K)) mixWlslices _ _ _ _ _ (Eq.mp (by kernel_rfl) h) (obs_seq obs_region rfl (obs_block (obs_loop rfl (fun E D H h => by
      refine Safe.loop' (W_slices_insertionSortCmpFunc_api_Record.l1.L K) (fun E D H h => ?_) (fun k E D H h => ?_) E D H h
      · obtain ⟨w0, e0, g1⟩ := DG.out h; obtain ⟨A2, n2, m2, rfl, g2⟩ := DSl.out g1; obtain ⟨w1, e1, g3⟩ := DG.out g2; obtain ⟨x3, rfl, g4⟩ := DI.out g3; obtain ⟨w2, e2, g5⟩ := DG.out g4; obtain ⟨x4, rfl, g6⟩ := DI.out g5; obtain ⟨w3, e3, g7⟩ := DG.out g6; obtain ⟨fd2, F2, C2, rfl, g8⟩ := DFn.out g7; obtain ⟨w8, e8, g9⟩ := DG.out g8; obtain ⟨x5, rfl, g10⟩ := DI.out g9; obtain ⟨rfl, h'⟩ := DNilD.out g10; exact h'
      · obtain ⟨w0, e0, g1⟩ := DG.out h
        obtain ⟨A2, n2, m2, rfl, g2⟩ := DSl.out g1
        obtain ⟨x3, e1, g4⟩ := GI g2; obtain ⟨x4, e2, g6⟩ := GI g4; obtain ⟨w3, e3, g7⟩ := DG.out g6
        obtain ⟨fd2, F2, C2, rfl, g8⟩ := DFn.out g7
        obtain ⟨x5, e8, g10⟩ := GI g8
        obtain ⟨rfl, h'⟩ := DNilD.out g10
        exact (hw_safe (Λ := (W_slices_insertionSortCmpFunc_api_Record.Λ1 K (W_slices_insertionSortCmpFunc_api_Record.l1 K k))) mixWlslices _ _ [(0, .slice A2 n2 m2), (1, .int .i64 x3), (2, .int .i64 x4), (3, .func (.func fd2) F2 C2), (8, .int .i64 x5)] [] H (Eq.mp (by kernel_rfl) h') (obs_seq (obs_seq obs_region rfl (obs_cond obs_skip obs_exit)) rfl (obs_seq (obs_block (obs_seq obs_region rfl (obs_block (obs_loop rfl (fun E D H h => by
            refine Safe.loop' (W_slices_insertionSortCmpFunc_api_Record.l4.L K (W_slices_insertionSortCmpFunc_api_Record.l1 K k)) (fun E D H h => ?_) (fun k E D H h => ?_) E D H h
            · obtain ⟨w0, e0, g1⟩ := DG.out h; obtain ⟨A3, n3, m3, rfl, g2⟩ := DSl.out g1; obtain ⟨w1, e1, g3⟩ := DG.out g2; obtain ⟨x6, rfl, g4⟩ := DI.out g3; obtain ⟨w2, e2, g5⟩ := DG.out g4; obtain ⟨x7, rfl, g6⟩ := DI.out g5; obtain ⟨w3, e3, g7⟩ := DG.out g6; obtain ⟨fd3, F3, C3, rfl, g8⟩ := DFn.out g7; obtain ⟨w8, e8, g9⟩ := DG.out g8; obtain ⟨x8, rfl, g10⟩ := DI.out g9; obtain ⟨w9, e9, g11⟩ := DG.out g10; obtain ⟨x9, rfl, g12⟩ := DI.out g11; obtain ⟨rfl, h'⟩ := DNilD.out g12; exact h'
            · obtain ⟨w0, e0, g1⟩ := DG.out h
              obtain ⟨A3, n3, m3, rfl, g2⟩ := DSl.out g1
              obtain ⟨x6, e1, g4⟩ := GI g2; obtain ⟨x7, e2, g6⟩ := GI g4; obtain ⟨w3, e3, g7⟩ := DG.out g6
              obtain ⟨fd3, F3, C3, rfl, g8⟩ := DFn.out g7
              obtain ⟨x8, e8, g10⟩ := GI g8; obtain ⟨x9, e9, g12⟩ := GI g10; obtain ⟨rfl, h'⟩ := DNilD.out g12
              exact (hw_safe (Λ := (W_slices_insertionSortCmpFunc_api_Record.Λ4 K (W_slices_insertionSortCmpFunc_api_Record.l1 K k) (W_slices_insertionSortCmpFunc_api_Record.l4 K (W_slices_insertionSortCmpFunc_api_Record.l1 K k) k))) mixWlslices _ _ [(0, .slice A3 n3 m3), (1, .int .i64 x6), (2, .int .i64 x7), (3, .func (.func fd3) F3 C3), (8, .int .i64 x8), (9, .int .i64 x9)] [] H (Eq.mp (by kernel_rfl) h') (obs_seq (obs_seq obs_region rfl (obs_cond obs_skip obs_exit)) rfl (obs_seq (obs_block obs_region) rfl obs_region))).weaken (EnvLe.cons e0 (EnvLe.cons e1 (EnvLe.cons e2 (EnvLe.cons e3 (EnvLe.cons e8 (EnvLe.cons e9 (EnvLe.nil _))))))) (Hp.le_refl _)))))) rfl obs_region))).weaken (EnvLe.cons e0 (EnvLe.cons e1 (EnvLe.cons e2 (EnvLe.cons e3 (EnvLe.cons e8 (EnvLe.nil _)))))) (Hp.le_refl _))))))
end Go.Proofs.YtnknippcbecmeaaGreatDoor.W
end
section
/- Formulas of functions, printed by wip/tools/hwp.py. -/
namespace Go.Proofs.YtnknippcbecmeaaGreatDoor.W
open Go Go.Hw
theorem mixWlcmp : Tryz.prog.follows .mixedOrders = true := by kernel_rfl
def W_cmp_Compare_uint64 (x1 : Int) (x2 : Int) (H : Hp) (K : Value → Hp → Prop) : Prop :=
  HCalls Tryz.prog 124 #[.int .u64 x1] H fun v1 H1 => DB v1 fun c1 => HCalls Tryz.prog 124 #[.int .u64 x2] H1 fun v2 H2 => DB v2 fun c2 => BIf c1 (BIf c2 (K (.int .i64 0) H2) (K (.int .i64 (-1)) H2)) (BIf c2 (K (.int .i64 1) H2) (BIf (decide (x1 < x2)) (K (.int .i64 (-1)) H2) (BIf (decide (x1 > x2)) (K (.int .i64 1) H2) (K (.int .i64 0) H2))))
theorem W_cmp_Compare_uint64.ok (x1 : Int) (x2 : Int) (H : Hp) (K : Value → Hp → Prop) (h : W_cmp_Compare_uint64 x1 x2 H K) : HCalls Tryz.prog 75 #[.int .u64 x1, .int .u64 x2] H K :=
  hcalls Tryz.func75 rfl (Nat.le_of_ble_eq_true rfl) (hw_safe (Λ := Cuts.none (fun _ => none)) mixWlcmp _ _ _ _ _ (Eq.mp (by kernel_rfl) h) (obs_none _ _ _ _ _))
def W_cmp_isNaN_uint64 (x1 : Int) (H : Hp) (K : Value → Hp → Prop) : Prop :=
  K (.bool (x1 != x1)) H
theorem W_cmp_isNaN_uint64.ok (x1 : Int) (H : Hp) (K : Value → Hp → Prop) (h : W_cmp_isNaN_uint64 x1 H K) : HCalls Tryz.prog 124 #[.int .u64 x1] H K :=
  hcalls Tryz.func124 rfl (Nat.le_of_ble_eq_true rfl) (hw_safe (Λ := Cuts.none (fun _ => none)) mixWlcmp _ _ _ _ _ (Eq.mp (by kernel_rfl) h) (obs_none _ _ _ _ _))
end Go.Proofs.YtnknippcbecmeaaGreatDoor.W
end
section
/- Formulas of functions, printed by wip/tools/hwp.py. -/
namespace Go.Proofs.YtnknippcbecmeaaGreatDoor.W
open Go Go.Hw
theorem mixWring : Tryz.prog.follows .mixedOrders = true := by kernel_rfl
def W_ring_New (p1 : Option Addr) (x1 : Int) (x2 : Int) (x3 : Int) (H : Hp) (K : Value → Hp → Prop) : Prop :=
  Nw H (.obj (.cells #[.int .i64 x1, .int .i64 x2, .int .i64 x3] 30)) fun b1 H1 => BIf p1.isNone (K (.tuple #[.pointer none, .int .i64 1]) H1) (Ld H1 ((⟨b1, 0, none⟩ : Addr).add 1) fun v1 => DI .i64 v1 fun x4 => BIf (decide (x4 < (2 : Int))) (K (.tuple #[.pointer none, .int .i64 2]) H1) (Ld H1 ((⟨b1, 0, none⟩ : Addr).add 0) fun v2 => DI .i64 v2 fun x5 => BIf (decide (x5 < (0 : Int))) (K (.tuple #[.pointer none, .int .i64 2]) H1) (Ld H1 ((⟨b1, 0, none⟩ : Addr).add 0) fun v3 => DI .i64 v3 fun x6 => NN p1 fun a1 => QCall Tryz.prog 44 #[.pointer (some (a1.add 0))] H1 fun v4 => DI .i64 v4 fun x7 => BIf (decide (x6 ≥ x7)) (K (.tuple #[.pointer none, .int .i64 2]) H1) (Ld H1 ((⟨b1, 0, none⟩ : Addr).add 1) fun v5 => DI .i64 v5 fun x8 => NN p1 fun a2 => QCall Tryz.prog 44 #[.pointer (some (a2.add 0))] H1 fun v6 => DI .i64 v6 fun x9 => Ld H1 ((⟨b1, 0, none⟩ : Addr).add 0) fun v7 => DI .i64 v7 fun x10 => BIf (decide (x8 > (IntKind.i64.wrap (x9 - x10)))) (K (.tuple #[.pointer none, .int .i64 2]) H1) (LdA H1 (⟨b1, 0, none⟩ : Addr) 3 fun l1 => DCons l1.toArray.toList fun v8 l2 => DI .i64 v8 fun x11 => DCons l2 fun v9 l3 => DI .i64 v9 fun x12 => DCons l3 fun v10 l4 => DI .i64 v10 fun x13 => DNil l4 (Nw H1 (.obj (.cells #[.int .i64 x11, .int .i64 x12, .int .i64 x13, .pointer p1] 139)) fun b2 H2 => K (.tuple #[.pointer (some (⟨b2, 0, none⟩ : Addr)), .int .i64 0]) H2))))))
theorem W_ring_New.ok (p1 : Option Addr) (x1 : Int) (x2 : Int) (x3 : Int) (H : Hp) (K : Value → Hp → Prop) (h : W_ring_New p1 x1 x2 x3 H K) : HCalls Tryz.prog 22 #[.pointer p1, .agg #[.int .i64 x1, .int .i64 x2, .int .i64 x3]] H K :=
  hcalls Tryz.func22 rfl (Nat.le_of_ble_eq_true rfl) (hw_safe (Λ := Cuts.none (fun _ => none)) mixWring _ _ _ _ _ (Eq.mp (by kernel_rfl) h) (obs_none _ _ _ _ _))
def W_ring_Ring_Slots (p1 : Option Addr) (H : Hp) (K : Value → Hp → Prop) : Prop :=
  NN p1 fun a1 => Ld H ((a1.add 0).add 1) fun v1 => DI .i64 v1 fun x1 => K (.int .i64 x1) H
theorem W_ring_Ring_Slots.ok (p1 : Option Addr) (H : Hp) (K : Value → Hp → Prop) (h : W_ring_Ring_Slots p1 H K) : HCalls Tryz.prog 23 #[.pointer p1] H K :=
  hcalls Tryz.func23 rfl (Nat.le_of_ble_eq_true rfl) (hw_safe (Λ := Cuts.none (fun _ => none)) mixWring _ _ _ _ _ (Eq.mp (by kernel_rfl) h) (obs_none _ _ _ _ _))
def W_ring_Ring_Append.j9 (K : Value → Hp → Prop) (p5 : Option Addr) (a5 : Addr) (A5 : Option Addr) (n5 : Nat) (m5 : Nat) (H : Hp) : Prop :=
  NN p5 fun a6 => Ld H (a6.add 3) fun v24 => DP v24 fun p6 => Ld H (a5.add 0) fun v25 => DI .u64 v25 fun x13 => QCall Tryz.prog 67 #[.pointer p5, .int .u64 x13] H fun v26 => DI .i64 v26 fun x14 => HCalls Tryz.prog 35 #[.pointer p6, .int .i64 x14, .slice A5 n5 m5] H fun v27 H12 => DI .i64 v27 fun x15 => BIf (x15 != (0 : Int)) (K (.int .i64 x15) H12) (NN p5 fun a7 => Ld H12 (a7.add 3) fun v28 => DP v28 fun p7 => HCalls Tryz.prog 47 #[.pointer p7] H12 fun v29 H13 => DI .i64 v29 fun x16 => K (.int .i64 x16) H13)
def W_ring_Ring_Append.j2 (K : Value → Hp → Prop) (p4 : Option Addr) (a4 : Addr) (A4 : Option Addr) (n4 : Nat) (m4 : Nat) (x7 : Int) (H : Hp) : Prop :=
  BIf (x7 != (0 : Int)) (K (.int .i64 10) H) (HCalls Tryz.prog 32 #[.pointer p4] H fun v15 H8 => DTup v15 fun l13 => DCons l13 fun v16 l14 => DA v16 fun y2 => DCons l14 fun v17 l15 => DB v17 fun c1 => DCons l15 fun v18 l16 => DI .i64 v18 fun x8 => DNil l16 (Nw H8 (.obj (.cells #[.int .u64 0, .int .i64 0, .int .i64 0, .int .i64 0, .int .i64 0, .int .u32 0, .int .u32 0, .int .u32 0] 86)) fun b2 H9 => StA H9 (⟨b2, 0, none⟩ : Addr) y2 8 fun H10 => BIf (x8 != (0 : Int)) (K (.int .i64 x8) H10) (BIf c1 (LdA H10 (⟨b2, 0, none⟩ : Addr) 8 fun l17 => LdA H10 a4 8 fun l18 => HCalls Tryz.prog 66 #[.agg l17.toArray, .agg l18.toArray] H10 fun v19 H11 => DB v19 fun c2 => BIf (!c2) (K (.int .i64 5) H11) (BIf (!c1) (Ld H11 (a4.add 0) fun v20 => DI .u64 v20 fun x9 => BIf (x9 != (1 : Int)) (K (.int .i64 5) H11) (Ld H11 (a4.add 1) fun v22 => DI .i64 v22 fun x11 => BIf (x11 != (1 : Int)) (K (.int .i64 5) H11) (W_ring_Ring_Append.j9 K p4 a4 A4 n4 m4 H11))) (W_ring_Ring_Append.j9 K p4 a4 A4 n4 m4 H11))) (BIf (!c1) (Ld H10 (a4.add 0) fun v21 => DI .u64 v21 fun x10 => BIf (x10 != (1 : Int)) (K (.int .i64 5) H10) (Ld H10 (a4.add 1) fun v23 => DI .i64 v23 fun x12 => BIf (x12 != (1 : Int)) (K (.int .i64 5) H10) (W_ring_Ring_Append.j9 K p4 a4 A4 n4 m4 H10))) (W_ring_Ring_Append.j9 K p4 a4 A4 n4 m4 H10)))))
def W_ring_Ring_Append (p1 : Option Addr) (y1 : Array Value) (H : Hp) (K : Value → Hp → Prop) : Prop :=
  Nw H (.obj (.cells y1 86)) fun b1 H1 => NN p1 fun a1 => (LdA H1 (⟨b1, 0, none⟩ : Addr) 8 fun l1 => Ld H1 (a1.add 3) fun v1 => DP v1 fun p2 => NN p2 fun a2 => HCalls Tryz.prog 65 #[.pointer (some (a2.add 0))] H1 fun v2 H2 => DI .i64 v2 fun x1 => HCalls Tryz.prog 64 #[.agg l1.toArray, .int .i64 x1] H2 fun v3 H3 => DTup v3 fun l2 => DCons l2 fun v4 l3 => DSl v4 fun A1 n1 m1 => DCons l3 fun v5 l4 => DI .i64 v5 fun x2 => DNil l4 (W_ring_Ring_Append.j2 K p1 (⟨b1, 0, none⟩ : Addr) A1 n1 m1 x2 H3)) ∧ (Ld H1 (a1.add 3) fun v6 => DP v6 fun p3 => NN p3 fun a3 => (LdA H1 (⟨b1, 0, none⟩ : Addr) 8 fun l5 => HCalls Tryz.prog 65 #[.pointer (some (a3.add 0))] H1 fun v7 H4 => DI .i64 v7 fun x3 => HCalls Tryz.prog 64 #[.agg l5.toArray, .int .i64 x3] H4 fun v8 H5 => DTup v8 fun l6 => DCons l6 fun v9 l7 => DSl v9 fun A2 n2 m2 => DCons l7 fun v10 l8 => DI .i64 v10 fun x4 => DNil l8 (W_ring_Ring_Append.j2 K p1 (⟨b1, 0, none⟩ : Addr) A2 n2 m2 x4 H5)) ∧ (HCalls Tryz.prog 65 #[.pointer (some (a3.add 0))] H1 fun v11 H6 => DI .i64 v11 fun x5 => LdA H6 (⟨b1, 0, none⟩ : Addr) 8 fun l9 => HCalls Tryz.prog 64 #[.agg l9.toArray, .int .i64 x5] H6 fun v12 H7 => DTup v12 fun l10 => DCons l10 fun v13 l11 => DSl v13 fun A3 n3 m3 => DCons l11 fun v14 l12 => DI .i64 v14 fun x6 => DNil l12 (W_ring_Ring_Append.j2 K p1 (⟨b1, 0, none⟩ : Addr) A3 n3 m3 x6 H7)))
def W_ring_Ring_Append.Λ (K : Value → Hp → Prop) : Cuts := ⟨fun i => match Nat.beq i 9 with | true => some (fun E D H => eP E 0 fun p5 => eN E 3 fun a5 => DG (E.get? 5) fun w5 => DSl w5 fun A5 n5 m5 => DNilD D (W_ring_Ring_Append.j9 K p5 a5 A5 n5 m5 H)) | false => match Nat.beq i 2 with | true => some (fun E D H => eP E 0 fun p4 => eN E 3 fun a4 => DG (E.get? 5) fun w5 => DSl w5 fun A4 n4 m4 => eI E 6 .i64 fun x7 => DNilD D (W_ring_Ring_Append.j2 K p4 a4 A4 n4 m4 x7 H)) | false => none, fun i => none, (fun i => match Nat.beq i 9 with | true => some ([], [0, 1, 2, 3, 4, 5, 6, 7, 8], 9) | false => match Nat.beq i 1 with | true => some ([], [0, 0, 2, 6, 14, 30, 62, 126, 255, 511, 1023, 1023, 2047, 8191], 0) | false => none)⟩
theorem W_ring_Ring_Append.ok (p1 : Option Addr) (y1 : Array Value) (H : Hp) (K : Value → Hp → Prop) (h : W_ring_Ring_Append p1 y1 H K) : HCalls Tryz.prog 26 #[.pointer p1, .agg y1] H K :=
  hcalls Tryz.func26 rfl (Nat.le_of_ble_eq_true rfl) (hw_safe (Λ := (W_ring_Ring_Append.Λ K)) mixWring _ _ _ _ _ (Eq.mp (by kernel_rfl) h) (obs_seq obs_region rfl (obs_seqc obs_region rfl (fun E D H h => by
      obtain ⟨p4, e0, g2⟩ := GP h; obtain ⟨a4, e3, g5⟩ := GN g2; obtain ⟨w5, e5, g6⟩ := DG.out g5
      obtain ⟨A4, n4, m4, rfl, g7⟩ := DSl.out g6
      obtain ⟨x7, e6, g9⟩ := GI g7
      obtain ⟨rfl, h'⟩ := DNilD.out g9
      exact (hw_safe (Λ := (W_ring_Ring_Append.Λ K)) mixWring _ _ [(0, .pointer p4), (3, .pointer (some a4)), (5, .slice A4 n4 m4), (6, .int .i64 x7)] [] H (Eq.mp (by kernel_rfl) h') (obs_seq (obs_seq obs_region rfl (obs_cond (obs_seq obs_region rfl obs_ret) obs_skip)) rfl (obs_seq obs_region rfl (obs_seqc (obs_block (obs_seq obs_region rfl (obs_cond (obs_seq obs_region rfl obs_ret) (obs_seq obs_region rfl (obs_cond (obs_seq obs_region rfl obs_ret) obs_skip))))) rfl (fun E D H h => by
          obtain ⟨p5, e0, g2⟩ := GP h; obtain ⟨a5, e3, g5⟩ := GN g2; obtain ⟨w5, e5, g6⟩ := DG.out g5
          obtain ⟨A5, n5, m5, rfl, g7⟩ := DSl.out g6
          obtain ⟨rfl, h'⟩ := DNilD.out g7
          exact (hw_safe (Λ := (W_ring_Ring_Append.Λ K)) mixWring _ _ [(0, .pointer p5), (3, .pointer (some a5)), (5, .slice A5 n5 m5)] [] H (Eq.mp (by kernel_rfl) h') (obs_seq (obs_seq obs_region rfl (obs_seq obs_region rfl (obs_cond (obs_seq obs_region rfl obs_ret) obs_skip))) rfl (obs_seq obs_region rfl obs_ret))).weaken (EnvLe.cons e0 (EnvLe.cons e3 (EnvLe.cons e5 (EnvLe.nil _)))) (Hp.le_refl _)))))).weaken (EnvLe.cons e0 (EnvLe.cons e3 (EnvLe.cons e5 (EnvLe.cons e6 (EnvLe.nil _))))) (Hp.le_refl _)))))
def W_ring_Ring_Last (p1 : Option Addr) (H : Hp) (K : Value → Hp → Prop) : Prop :=
  Nw H (.obj (.cells #[.int .u64 0, .int .i64 0, .int .i64 0, .int .i64 0, .int .i64 0, .int .u32 0, .int .u32 0, .int .u32 0] 86)) fun b1 H1 => HCalls Tryz.prog 37 #[.pointer p1] H1 fun v1 H2 => DTup v1 fun l1 => DCons l1 fun v2 l2 => DSl v2 fun A1 n1 m1 => DCons l2 fun v3 l3 => DI .i64 v3 fun x1 => DNil l3 (BIf (x1 != (0 : Int)) (StA H2 (⟨b1, 0, none⟩ : Addr) #[.int .u64 0, .int .i64 0, .int .i64 0, .int .i64 0, .int .i64 0, .int .u32 0, .int .u32 0, .int .u32 0] 8 fun H3 => LdA H3 (⟨b1, 0, none⟩ : Addr) 8 fun l5 => K (.tuple #[.agg l5.toArray, .bool false, .int .i64 x1]) H3) (BIf (((n1 : Nat) : Int) == (0 : Int)) (StA H2 (⟨b1, 0, none⟩ : Addr) #[.int .u64 0, .int .i64 0, .int .i64 0, .int .i64 0, .int .i64 0, .int .u32 0, .int .u32 0, .int .u32 0] 8 fun H4 => LdA H4 (⟨b1, 0, none⟩ : Addr) 8 fun l6 => K (.tuple #[.agg l6.toArray, .bool false, .int .i64 x1]) H4) (ixI (IntKind.i64.wrap (((n1 : Nat) : Int) - (1 : Int))) n1 (NN A1 fun a1 => LdA H2 (a1.add ((IntKind.i64.wrap (((n1 : Nat) : Int) - (1 : Int))).toNat * 8)) 8 fun l4 => StA H2 (⟨b1, 0, none⟩ : Addr) l4.toArray 8 fun H5 => LdA H5 (⟨b1, 0, none⟩ : Addr) 8 fun l7 => K (.tuple #[.agg l7.toArray, .bool true, .int .i64 0]) H5))))
theorem W_ring_Ring_Last.ok (p1 : Option Addr) (H : Hp) (K : Value → Hp → Prop) (h : W_ring_Ring_Last p1 H K) : HCalls Tryz.prog 32 #[.pointer p1] H K :=
  hcalls Tryz.func32 rfl (Nat.le_of_ble_eq_true rfl) (hw_safe (Λ := Cuts.none (fun _ => none)) mixWring _ _ _ _ _ (Eq.mp (by kernel_rfl) h) (obs_none _ _ _ _ _))
def W_ring_Ring_Clear.l2 (K : Value → Hp → Prop) : Nat → Option Addr → Int → Int → Hp → Prop
  | 0, _, _, _, _ => False
  | k + 1, p2, x2, x3, H =>
    let R2 := W_ring_Ring_Clear.l2 K k
    BIf (decide (x3 < x2)) (NN p2 fun a2 => NN p2 fun a3 => NN p2 fun a4 => Ld H (a4.add 3) fun v2 => DP v2 fun p3 => NN p3 fun a5 => QCall Tryz.prog 65 #[.pointer (some (a5.add 0))] H fun v3 => DI .i64 v3 fun x4 => (Ld H (a2.add 3) fun v4 => DP v4 fun p4 => (Ld H ((a3.add 0).add 0) fun v5 => DI .i64 v5 fun x5 => MkS Tryz.prog 5 x4 x4 H fun v6 H1 => DSl v6 fun A1 n1 m1 => HCalls Tryz.prog 35 #[.pointer p4, .int .i64 (IntKind.i64.wrap (x5 + x3)), .slice A1 n1 m1] H1 fun v7 H2 => DI .i64 v7 fun x6 => BIf (x6 != (0 : Int)) (K (.int .i64 x6) H2) (R2 p2 x2 (IntKind.i64.wrap (x3 + (1 : Int))) H2)) ∧ (MkS Tryz.prog 5 x4 x4 H fun v8 H3 => DSl v8 fun A2 n2 m2 => Ld H3 ((a3.add 0).add 0) fun v9 => DI .i64 v9 fun x7 => HCalls Tryz.prog 35 #[.pointer p4, .int .i64 (IntKind.i64.wrap (x7 + x3)), .slice A2 n2 m2] H3 fun v10 H4 => DI .i64 v10 fun x8 => BIf (x8 != (0 : Int)) (K (.int .i64 x8) H4) (R2 p2 x2 (IntKind.i64.wrap (x3 + (1 : Int))) H4))) ∧ (Ld H ((a3.add 0).add 0) fun v11 => DI .i64 v11 fun x9 => (Ld H (a2.add 3) fun v12 => DP v12 fun p5 => MkS Tryz.prog 5 x4 x4 H fun v13 H5 => DSl v13 fun A3 n3 m3 => HCalls Tryz.prog 35 #[.pointer p5, .int .i64 (IntKind.i64.wrap (x9 + x3)), .slice A3 n3 m3] H5 fun v14 H6 => DI .i64 v14 fun x10 => BIf (x10 != (0 : Int)) (K (.int .i64 x10) H6) (R2 p2 x2 (IntKind.i64.wrap (x3 + (1 : Int))) H6)) ∧ (MkS Tryz.prog 5 x4 x4 H fun v15 H7 => DSl v15 fun A4 n4 m4 => Ld H7 (a2.add 3) fun v16 => DP v16 fun p6 => HCalls Tryz.prog 35 #[.pointer p6, .int .i64 (IntKind.i64.wrap (x9 + x3)), .slice A4 n4 m4] H7 fun v17 H8 => DI .i64 v17 fun x11 => BIf (x11 != (0 : Int)) (K (.int .i64 x11) H8) (R2 p2 x2 (IntKind.i64.wrap (x3 + (1 : Int))) H8))) ∧ (MkS Tryz.prog 5 x4 x4 H fun v18 H9 => DSl v18 fun A5 n5 m5 => Ld H9 (a2.add 3) fun v19 => DP v19 fun p7 => Ld H9 ((a3.add 0).add 0) fun v20 => DI .i64 v20 fun x12 => HCalls Tryz.prog 35 #[.pointer p7, .int .i64 (IntKind.i64.wrap (x12 + x3)), .slice A5 n5 m5] H9 fun v21 H10 => DI .i64 v21 fun x13 => BIf (x13 != (0 : Int)) (K (.int .i64 x13) H10) (R2 p2 x2 (IntKind.i64.wrap (x3 + (1 : Int))) H10))) (NN p2 fun a6 => Ld H (a6.add 3) fun v22 => DP v22 fun p8 => HCalls Tryz.prog 47 #[.pointer p8] H fun v23 H11 => DI .i64 v23 fun x14 => K (.int .i64 x14) H11)
def W_ring_Ring_Clear (p1 : Option Addr) (H : Hp) (K : Value → Hp → Prop) : Prop :=
  NN p1 fun a1 => Ld H ((a1.add 0).add 1) fun v1 => DI .i64 v1 fun x1 => (∃ k, W_ring_Ring_Clear.l2 K k p1 x1 (0 : Int) H)
def W_ring_Ring_Clear.l2.L (K : Value → Hp → Prop) (k : Nat) : Mid := fun E D H =>
  eP E 0 fun p2 => eI E 9 .i64 fun x2 => eI E 10 .i64 fun x3 => DNilD D (W_ring_Ring_Clear.l2 K k p2 x2 x3 H)
def W_ring_Ring_Clear.Λ2 (_ : Value → Hp → Prop) (_R2 : Option Addr → Int → Int → Hp → Prop) : Cuts := Cuts.none (fun i => match Nat.beq i 4 with | true => some ([3, 8, 14, 17], [0, 1, 3, 7, 0, 16, 48, 112, 240, 0, 1008, 0, 2048, 6144, 14336, 30720, 63488, 129024, 260096, 524287, 1048575], 0) | false => none)
def W_ring_Ring_Clear.Λ (K : Value → Hp → Prop) : Cuts := ⟨fun i => none, fun i => match Nat.beq i 2 with | true => some (fun E D H => ∃ k, W_ring_Ring_Clear.l2.L K k E D H) | false => none, (fun i => match Nat.beq i 4 with | true => some ([3, 8, 14, 17], [0, 1, 3, 7, 0, 16, 48, 112, 240, 0, 1008, 0, 2048, 6144, 14336, 30720, 63488, 129024, 260096, 524287, 1048575], 0) | false => none)⟩
theorem W_ring_Ring_Clear.ok (p1 : Option Addr) (H : Hp) (K : Value → Hp → Prop) (h : W_ring_Ring_Clear p1 H K) : HCalls Tryz.prog 34 #[.pointer p1] H K :=
  hcalls Tryz.func34 rfl (Nat.le_of_ble_eq_true rfl) (hw_safe (Λ := (W_ring_Ring_Clear.Λ K)) mixWring _ _ _ _ _ (Eq.mp (by kernel_rfl) h) (obs_seq obs_region rfl (obs_seq (obs_seq obs_region rfl (obs_block (obs_loop rfl (fun E D H h => by
      refine Safe.loop' (W_ring_Ring_Clear.l2.L K) (fun E D H h => ?_) (fun k E D H h => ?_) E D H h
      · obtain ⟨w0, e0, g1⟩ := DG.out h; obtain ⟨p2, rfl, g2⟩ := DP.out g1; obtain ⟨w9, e9, g3⟩ := DG.out g2; obtain ⟨x2, rfl, g4⟩ := DI.out g3; obtain ⟨w10, e10, g5⟩ := DG.out g4; obtain ⟨x3, rfl, g6⟩ := DI.out g5; obtain ⟨rfl, h'⟩ := DNilD.out g6; exact h'
      · obtain ⟨p2, e0, g2⟩ := GP h
        obtain ⟨x2, e9, g4⟩ := GI g2; obtain ⟨x3, e10, g6⟩ := GI g4; obtain ⟨rfl, h'⟩ := DNilD.out g6
        exact (hw_safe (Λ := (W_ring_Ring_Clear.Λ2 K (W_ring_Ring_Clear.l2 K k))) mixWring _ _ [(0, .pointer p2), (9, .int .i64 x2), (10, .int .i64 x3)] [] H (Eq.mp (by kernel_rfl) h') (obs_seq obs_region rfl (obs_seq (obs_cond obs_skip obs_exit) rfl (obs_seq (obs_block (obs_seq obs_region rfl (obs_seq obs_region rfl (obs_seq obs_region rfl (obs_cond (obs_seq obs_region rfl obs_ret) obs_skip))))) rfl obs_region)))).weaken (EnvLe.cons e0 (EnvLe.cons e9 (EnvLe.cons e10 (EnvLe.nil _)))) (Hp.le_refl _))))) rfl (obs_seq obs_region rfl obs_ret))))
def W_ring_Ring_Scan.j5 (K : Value → Hp → Prop) (R2 : Option Addr → Option Addr → Nat → Nat → Int → Int → Hp → Prop) (p5 : Option Addr) (A4 : Option Addr) (n4 : Nat) (m4 : Nat) (x8 : Int) (A5 : Option Addr) (n5 : Nat) (m5 : Nat) (x9 : Int) (x10 : Int) (x11 : Int) (H : Hp) : Prop :=
  BIf (x9 != (0 : Int)) (K (.tuple #[.slice none 0 0, .int .i64 x9]) H) (HCalls Tryz.prog 72 #[.slice A5 n5 m5] H fun v12 H3 => DTup v12 fun l7 => DCons l7 fun v13 l8 => DA v13 fun y1 => DCons l8 fun v14 l9 => DI .i64 v14 fun x12 => DNil l9 (Nw H3 (.obj (.cells #[.int .u64 0, .int .i64 0, .int .i64 0, .int .i64 0, .int .i64 0, .int .u32 0, .int .u32 0, .int .u32 0] 86)) fun b1 H4 => StA H4 (⟨b1, 0, none⟩ : Addr) y1 8 fun H5 => BIf (x12 == (0 : Int)) (Ld H5 ((⟨b1, 0, none⟩ : Addr).add 0) fun v15 => DI .u64 v15 fun x13 => QCall Tryz.prog 67 #[.pointer p5, .int .u64 x13] H5 fun v16 => DI .i64 v16 fun x14 => NN p5 fun a4 => Ld H5 ((a4.add 0).add 0) fun v17 => DI .i64 v17 fun x15 => BIf (x14 == (IntKind.i64.wrap (x15 + x8))) (LdA H5 (⟨b1, 0, none⟩ : Addr) 8 fun l10 => DCons l10.toArray.toList fun v18 l11 => DI .u64 v18 fun x16 => DCons l11 fun v19 l12 => DI .i64 v19 fun x17 => DCons l12 fun v20 l13 => DI .i64 v20 fun x18 => DCons l13 fun v21 l14 => DI .i64 v21 fun x19 => DCons l14 fun v22 l15 => DI .i64 v22 fun x20 => DCons l15 fun v23 l16 => DI .u32 v23 fun x21 => DCons l16 fun v24 l17 => DI .u32 v24 fun x22 => DCons l17 fun v25 l18 => DI .u32 v25 fun x23 => DNil l18 (Nw H5 (.row [.int .u64 x16, .int .i64 x17, .int .i64 x18, .int .i64 x19, .int .i64 x20, .int .u32 x21, .int .u32 x22, .int .u32 x23] 86 8) fun b2 H6 => AppK Tryz.prog 86 (.slice A4 n4 m4) (.slice (some ⟨b2, 0, none⟩) 1 1) H6 fun v26 H7 => DSl v26 fun A6 n6 m6 => R2 p5 A6 n6 m6 x10 (IntKind.i64.wrap (x11 + (1 : Int))) H7)) (R2 p5 A4 n4 m4 x10 (IntKind.i64.wrap (x11 + (1 : Int))) H5)) (R2 p5 A4 n4 m4 x10 (IntKind.i64.wrap (x11 + (1 : Int))) H5)))
def W_ring_Ring_Scan.l2 (K : Value → Hp → Prop) : Nat → Option Addr → Option Addr → Nat → Nat → Int → Int → Hp → Prop
  | 0, _, _, _, _, _, _, _ => False
  | k + 1, p2, A1, n1, m1, x2, x3, H =>
    let R2 := W_ring_Ring_Scan.l2 K k
    BIf (decide (x3 < x2)) (NN p2 fun a2 => NN p2 fun a3 => (Ld H (a2.add 3) fun v2 => DP v2 fun p3 => Ld H ((a3.add 0).add 0) fun v3 => DI .i64 v3 fun x4 => HCalls Tryz.prog 63 #[.pointer p3, .int .i64 (IntKind.i64.wrap (x4 + x3))] H fun v4 H1 => DTup v4 fun l1 => DCons l1 fun v5 l2 => DSl v5 fun A2 n2 m2 => DCons l2 fun v6 l3 => DI .i64 v6 fun x5 => DNil l3 (W_ring_Ring_Scan.j5 K R2 p2 A1 n1 m1 x3 A2 n2 m2 x5 x2 x3 H1)) ∧ (Ld H ((a3.add 0).add 0) fun v7 => DI .i64 v7 fun x6 => Ld H (a2.add 3) fun v8 => DP v8 fun p4 => HCalls Tryz.prog 63 #[.pointer p4, .int .i64 (IntKind.i64.wrap (x6 + x3))] H fun v9 H2 => DTup v9 fun l4 => DCons l4 fun v10 l5 => DSl v10 fun A3 n3 m3 => DCons l5 fun v11 l6 => DI .i64 v11 fun x7 => DNil l6 (W_ring_Ring_Scan.j5 K R2 p2 A1 n1 m1 x3 A3 n3 m3 x7 x2 x3 H2))) (HCalls Tryz.prog 73 #[.slice A1 n1 m1, .func (.func 74) #[] #[]] H fun v27 H8 => K (.tuple #[.slice A1 n1 m1, .int .i64 0]) H8)
def W_ring_Ring_Scan (p1 : Option Addr) (H : Hp) (K : Value → Hp → Prop) : Prop :=
  NN p1 fun a1 => Ld H ((a1.add 0).add 1) fun v1 => DI .i64 v1 fun x1 => (∃ k, W_ring_Ring_Scan.l2 K k p1 none 0 0 x1 (0 : Int) H)
def W_ring_Ring_Scan.l2.L (K : Value → Hp → Prop) (k : Nat) : Mid := fun E D H =>
  eP E 0 fun p2 => DG (E.get? 2) fun w2 => DSl w2 fun A1 n1 m1 => eI E 13 .i64 fun x2 => eI E 14 .i64 fun x3 => DNilD D (W_ring_Ring_Scan.l2 K k p2 A1 n1 m1 x2 x3 H)
def W_ring_Ring_Scan.Λ2 (K : Value → Hp → Prop) (R2 : Option Addr → Option Addr → Nat → Nat → Int → Int → Hp → Prop) : Cuts := ⟨fun i => match Nat.beq i 5 with | true => some (fun E D H => eP E 0 fun p5 => DG (E.get? 2) fun w2 => DSl w2 fun A4 n4 m4 => eI E 4 .i64 fun x8 => DG (E.get? 5) fun w5 => DSl w5 fun A5 n5 m5 => eI E 6 .i64 fun x9 => eI E 13 .i64 fun x10 => eI E 14 .i64 fun x11 => DNilD D (W_ring_Ring_Scan.j5 K R2 p5 A4 n4 m4 x8 A5 n5 m5 x9 x10 x11 H)) | false => none, fun i => none, (fun i => match Nat.beq i 4 with | true => some ([], [0, 1, 3, 7, 0, 16, 48, 112, 240, 0, 1008, 2047, 4095, 8191, 8191, 16383, 65535], 0) | false => none)⟩
def W_ring_Ring_Scan.Λ (K : Value → Hp → Prop) : Cuts := ⟨fun i => none, fun i => match Nat.beq i 2 with | true => some (fun E D H => ∃ k, W_ring_Ring_Scan.l2.L K k E D H) | false => none, (fun i => match Nat.beq i 4 with | true => some ([], [0, 1, 3, 7, 0, 16, 48, 112, 240, 0, 1008, 2047, 4095, 8191, 8191, 16383, 65535], 0) | false => none)⟩
theorem W_ring_Ring_Scan.ok (p1 : Option Addr) (H : Hp) (K : Value → Hp → Prop) (h : W_ring_Ring_Scan p1 H K) : HCalls Tryz.prog 37 #[.pointer p1] H K :=
  hcalls Tryz.func37 rfl (Nat.le_of_ble_eq_true rfl) (hw_safe (Λ := (W_ring_Ring_Scan.Λ K)) mixWring _ _ _ _ _ (Eq.mp (by kernel_rfl) h) (obs_seq obs_region rfl (obs_seq (obs_seq obs_region rfl (obs_block (obs_loop rfl (fun E D H h => by
      refine Safe.loop' (W_ring_Ring_Scan.l2.L K) (fun E D H h => ?_) (fun k E D H h => ?_) E D H h
      · obtain ⟨w0, e0, g1⟩ := DG.out h; obtain ⟨p2, rfl, g2⟩ := DP.out g1; obtain ⟨w2, e2, g3⟩ := DG.out g2; obtain ⟨A1, n1, m1, rfl, g4⟩ := DSl.out g3; obtain ⟨w13, e13, g5⟩ := DG.out g4; obtain ⟨x2, rfl, g6⟩ := DI.out g5; obtain ⟨w14, e14, g7⟩ := DG.out g6; obtain ⟨x3, rfl, g8⟩ := DI.out g7; obtain ⟨rfl, h'⟩ := DNilD.out g8; exact h'
      · obtain ⟨p2, e0, g2⟩ := GP h
        obtain ⟨w2, e2, g3⟩ := DG.out g2
        obtain ⟨A1, n1, m1, rfl, g4⟩ := DSl.out g3
        obtain ⟨x2, e13, g6⟩ := GI g4; obtain ⟨x3, e14, g8⟩ := GI g6; obtain ⟨rfl, h'⟩ := DNilD.out g8
        exact (hw_safe (Λ := (W_ring_Ring_Scan.Λ2 K (W_ring_Ring_Scan.l2 K k))) mixWring _ _ [(0, .pointer p2), (2, .slice A1 n1 m1), (13, .int .i64 x2), (14, .int .i64 x3)] [] H (Eq.mp (by kernel_rfl) h') (obs_seq obs_region rfl (obs_seq (obs_cond obs_skip obs_exit) rfl (obs_seq (obs_block (obs_seq obs_region rfl (obs_seqc obs_region rfl (fun E D H h => by
            obtain ⟨p5, e0, g2⟩ := GP h
            obtain ⟨w2, e2, g3⟩ := DG.out g2
            obtain ⟨A4, n4, m4, rfl, g4⟩ := DSl.out g3
            obtain ⟨x8, e4, g6⟩ := GI g4
            obtain ⟨w5, e5, g7⟩ := DG.out g6
            obtain ⟨A5, n5, m5, rfl, g8⟩ := DSl.out g7
            obtain ⟨x9, e6, g10⟩ := GI g8; obtain ⟨x10, e13, g12⟩ := GI g10; obtain ⟨x11, e14, g14⟩ := GI g12; obtain ⟨rfl, h'⟩ := DNilD.out g14
            exact (hw_safe (Λ := (W_ring_Ring_Scan.Λ2 K (W_ring_Ring_Scan.l2 K k))) mixWring _ _ [(0, .pointer p5), (2, .slice A4 n4 m4), (4, .int .i64 x8), (5, .slice A5 n5 m5), (6, .int .i64 x9), (13, .int .i64 x10), (14, .int .i64 x11)] [] H (Eq.mp (by kernel_rfl) h') (obs_seq (obs_seq obs_region rfl (obs_cond (obs_seq obs_region rfl obs_ret) obs_skip)) rfl (obs_seq obs_region rfl (obs_seq obs_region rfl (obs_cond obs_region obs_skip))))).weaken (EnvLe.cons e0 (EnvLe.cons e2 (EnvLe.cons e4 (EnvLe.cons e5 (EnvLe.cons e6 (EnvLe.cons e13 (EnvLe.cons e14 (EnvLe.nil _)))))))) (Hp.le_refl _))))) rfl obs_region)))).weaken (EnvLe.cons e0 (EnvLe.cons e2 (EnvLe.cons e13 (EnvLe.cons e14 (EnvLe.nil _))))) (Hp.le_refl _))))) rfl (obs_seq obs_region rfl (obs_seq obs_region rfl obs_ret)))))
def W_ring_Ring_Chain.l5 (K : Value → Hp → Prop) : Nat → Option Addr → Nat → Nat → Int → Hp → Prop
  | 0, _, _, _, _, _ => False
  | k + 1, A2, n2, m2, x2, H =>
    let R5 := W_ring_Ring_Chain.l5 K k
    BIf (decide (x2 > (0 : Int))) (ixI (IntKind.i64.wrap (x2 - (1 : Int))) n2 (NN A2 fun a1 => LdA H (a1.add ((IntKind.i64.wrap (x2 - (1 : Int))).toNat * 8)) 8 fun l4 => ixI x2 n2 (NN A2 fun a2 => LdA H (a2.add (x2.toNat * 8)) 8 fun l5 => QCall Tryz.prog 66 #[.agg l4.toArray, .agg l5.toArray] H fun v4 => DB v4 fun c1 => BIf c1 (R5 A2 n2 m2 (IntKind.i64.wrap (x2 - (1 : Int))) H) (slB n2 m2 (some x2) none fun n3 n4 => K (.tuple #[.slice (slA A2 m2 n3 8) (n4 - n3) (m2 - n3), .int .i64 0]) H)))) (slB n2 m2 (some x2) none fun n5 n6 => K (.tuple #[.slice (slA A2 m2 n5 8) (n6 - n5) (m2 - n5), .int .i64 0]) H)
def W_ring_Ring_Chain (p1 : Option Addr) (H : Hp) (K : Value → Hp → Prop) : Prop :=
  HCalls Tryz.prog 37 #[.pointer p1] H fun v1 H1 => DTup v1 fun l1 => DCons l1 fun v2 l2 => DSl v2 fun A1 n1 m1 => DCons l2 fun v3 l3 => DI .i64 v3 fun x1 => DNil l3 (BIf (x1 != (0 : Int)) (K (.tuple #[.slice none 0 0, .int .i64 x1]) H1) ((∃ k, W_ring_Ring_Chain.l5 K k A1 n1 m1 (if (0 : Int) > (IntKind.i64.wrap (((n1 : Nat) : Int) - (1 : Int))) then (0 : Int) else (IntKind.i64.wrap (((n1 : Nat) : Int) - (1 : Int)))) H1)))
def W_ring_Ring_Chain.l5.L (K : Value → Hp → Prop) (k : Nat) : Mid := fun E D H =>
  DG (E.get? 2) fun w2 => DSl w2 fun A2 n2 m2 => eI E 4 .i64 fun x2 => DNilD D (W_ring_Ring_Chain.l5 K k A2 n2 m2 x2 H)
def W_ring_Ring_Chain.Λ5 (_ : Value → Hp → Prop) (_R5 : Option Addr → Nat → Nat → Int → Hp → Prop) : Cuts := Cuts.none (fun _ => none)
def W_ring_Ring_Chain.Λ (K : Value → Hp → Prop) : Cuts := ⟨fun i => none, fun i => match Nat.beq i 5 with | true => some (fun E D H => ∃ k, W_ring_Ring_Chain.l5.L K k E D H) | false => none, (fun _ => none)⟩
theorem W_ring_Ring_Chain.ok (p1 : Option Addr) (H : Hp) (K : Value → Hp → Prop) (h : W_ring_Ring_Chain p1 H K) : HCalls Tryz.prog 38 #[.pointer p1] H K :=
  hcalls Tryz.func38 rfl (Nat.le_of_ble_eq_true rfl) (hw_safe (Λ := (W_ring_Ring_Chain.Λ K)) mixWring _ _ _ _ _ (Eq.mp (by kernel_rfl) h) (obs_seq obs_region rfl (obs_seq obs_region rfl (obs_seq (obs_seq obs_region rfl (obs_cond (obs_seq obs_region rfl obs_ret) obs_skip)) rfl (obs_seq obs_region rfl (obs_seq (obs_block (obs_loop rfl (fun E D H h => by
      refine Safe.loop' (W_ring_Ring_Chain.l5.L K) (fun E D H h => ?_) (fun k E D H h => ?_) E D H h
      · obtain ⟨w2, e2, g1⟩ := DG.out h; obtain ⟨A2, n2, m2, rfl, g2⟩ := DSl.out g1; obtain ⟨w4, e4, g3⟩ := DG.out g2; obtain ⟨x2, rfl, g4⟩ := DI.out g3; obtain ⟨rfl, h'⟩ := DNilD.out g4; exact h'
      · obtain ⟨w2, e2, g1⟩ := DG.out h
        obtain ⟨A2, n2, m2, rfl, g2⟩ := DSl.out g1
        obtain ⟨x2, e4, g4⟩ := GI g2
        obtain ⟨rfl, h'⟩ := DNilD.out g4
        exact (hw_safe (Λ := (W_ring_Ring_Chain.Λ5 K (W_ring_Ring_Chain.l5 K k))) mixWring _ _ [(2, .slice A2 n2 m2), (4, .int .i64 x2)] [] H (Eq.mp (by kernel_rfl) h') (obs_seq (obs_seq obs_region rfl (obs_cond obs_skip obs_exit)) rfl (obs_block obs_region))).weaken (EnvLe.cons e2 (EnvLe.cons e4 (EnvLe.nil _))) (Hp.le_refl _)))) rfl (obs_seq obs_region rfl obs_ret)))))))
def W_ring_Ring_slot (p1 : Option Addr) (x1 : Int) (H : Hp) (K : Value → Hp → Prop) : Prop :=
  NN p1 fun a1 => Ld H ((a1.add 0).add 0) fun v1 => DI .i64 v1 fun x2 => NN p1 fun a2 => Ld H ((a2.add 0).add 1) fun v2 => DI .i64 v2 fun x3 => ((IntKind.u64.wrap x3) ≠ 0 ∧ IntKind.u64 = IntKind.u64 ∧ K (.int .i64 (IntKind.i64.wrap (x2 + (IntKind.i64.wrap (Int.tmod (IntKind.u64.wrap (x1 - (1 : Int))) (IntKind.u64.wrap x3)))))) H)
theorem W_ring_Ring_slot.ok (p1 : Option Addr) (x1 : Int) (H : Hp) (K : Value → Hp → Prop) (h : W_ring_Ring_slot p1 x1 H K) : HCalls Tryz.prog 67 #[.pointer p1, .int .u64 x1] H K :=
  hcalls Tryz.func67 rfl (Nat.le_of_ble_eq_true rfl) (hw_safe (Λ := Cuts.none (fun _ => none)) mixWring _ _ _ _ _ (Eq.mp (by kernel_rfl) h) (obs_none _ _ _ _ _))
def W_ring_Ring_Scan_1 (y1 : Array Value) (y2 : Array Value) (H : Hp) (K : Value → Hp → Prop) : Prop :=
  Nw H (.obj (.cells y1 86)) fun b1 H1 => Nw H1 (.obj (.cells y2 86)) fun b2 H2 => Ld H2 ((⟨b1, 0, none⟩ : Addr).add 0) fun v1 => DI .u64 v1 fun x1 => Ld H2 ((⟨b2, 0, none⟩ : Addr).add 0) fun v2 => DI .u64 v2 fun x2 => HCalls Tryz.prog 75 #[.int .u64 x1, .int .u64 x2] H2 fun v3 H3 => DI .i64 v3 fun x3 => K (.int .i64 x3) H3
theorem W_ring_Ring_Scan_1.ok (y1 : Array Value) (y2 : Array Value) (H : Hp) (K : Value → Hp → Prop) (h : W_ring_Ring_Scan_1 y1 y2 H K) : HCalls Tryz.prog 74 #[.agg y1, .agg y2] H K :=
  hcalls Tryz.func74 rfl (Nat.le_of_ble_eq_true rfl) (hw_safe (Λ := Cuts.none (fun _ => none)) mixWring _ _ _ _ _ (Eq.mp (by kernel_rfl) h) (obs_none _ _ _ _ _))
end Go.Proofs.YtnknippcbecmeaaGreatDoor.W
end
section
/- Contracts of the library's functions, laid at this program (printed by lay2.py). -/
namespace Go.Proofs.YtnknippcbecmeaaGreatDoor.Lib2
open Go Go.Proofs Go.Shelf Go.RowKit
def lenL_ren : Go.Shelf.Ren := ⟨fun | 129 => 162 | n => n, fun | 53 => 60 | 3 => 3 | 4 => 4 | 46 => 136 | 5 => 5 | 9 => 9 | n => n, fun | n => n⟩
theorem lenL : Go.Proofs.Lays.n129 Tryz.prog lenL_ren where
  mixed := by kernel_rfl
  f129 := Tryz.func162.trans (congrArg some (by kernel_rfl))
  t3 := Tryz.underlying3
  a3 := Tryz.isAgg3
  z3 := Tryz.sizeOf3
  v3 := Tryz.zeroValue3
  t4 := Tryz.underlying4
  a4 := Tryz.isAgg4
  z4 := Tryz.sizeOf4
  v4 := Tryz.zeroValue4
  t5 := Tryz.underlying5
  a5 := Tryz.isAgg5
  z5 := Tryz.sizeOf5
  v5 := Tryz.zeroValue5
  t9 := Tryz.underlying9
  a9 := Tryz.isAgg9
  z9 := Tryz.sizeOf9
  v9 := Tryz.zeroValue9
  t46 := Tryz.underlying136
  a46 := Tryz.isAgg136
  z46 := Tryz.sizeOf136
  v46 := Tryz.zeroValue136
  t53 := Tryz.underlying60
  a53 := Tryz.isAgg60
  z53 := Tryz.sizeOf60
  v53 := Tryz.zeroValue60
end Go.Proofs.YtnknippcbecmeaaGreatDoor.Lib2
end
section
/- The frame of the proofs: a number's decimal digits, as the library puts them. -/
namespace Go.Hw
open Go Go.Proofs Go.Proofs.YtnknippcbecmeaaGreatDoor.Lib2 Go.RowKit Go.Shelf
theorem Len64_hc (x : Nat) (hx : x < 18446744073709551616) (H : Hp) : HCalls Tryz.prog 162 #[.int .u64 (x : Int)] H (RetE (.int .i64 (Lib.bitLen x : Int)) H) := fun w hw => by
  refine (Any.bits_Len64 lenL (x : Int) w (by omega) (by omega)).mono ?_
  rintro e w' ⟨rfl, rfl⟩
  exact ⟨_, H, rfl, ⟨by rw [Int.toNat_natCast], rfl⟩, At.refl hw⟩
end Go.Hw
end
section
/- slices.SortFunc of at most 12 records by their numbers. -/
namespace Go.Proofs.YtnknippcbecmeaaGreatDoor.Srt
open Go Go.Hw W Rec
theorem Sep.wrR {L : List As} {H : Hp} (h : Hw.Sep L H) (i : Nat) {e : TypeId} {s : Nat} {A : Option Addr} {n m : Nat} {xs : List Value} (hi : L[i]? = some (Own e s A n m xs)) {x : Int} {j : Nat} (hx : x = j) (hj : j < n) {y : Array Value} (hy : y.size = s) (hv : y.toList.all (fun v => v.oneCell') = true) {K : Hp → Prop}
    (k : ∀ H', Hw.Sep (L.set i (Own e s A n m (setAt xs (j * s) y.toList))) H' → K H') : ixI x n (NN A fun a => StA H (a.add (x.toNat * s)) y s K) := by
  subst hx
  refine ⟨by omega, by omega, ?_⟩
  rcases h.unown i hi with ⟨_, h0, _⟩ | ⟨b, mm, rfl, hmm, hlx, hs⟩
  · omega
  rw [NN_some, Addr.add_lit', Int.toNat_natCast, Nat.zero_add]
  have hlt : i < L.length := (List.getElem?_eq_some_iff.1 hi).1
  have hb : H b = some (.row xs e mm) := hs.get i (by rw [List.getElem?_set_self hlt])
  have hjs : j * s + s ≤ n * s := by
    have := Nat.mul_le_mul_right s (show j + 1 ≤ n by omega)
    rwa [Nat.succ_mul] at this
  have hyl : y.toList.length = s := by rw [Array.length_toList]; exact hy
  refine ⟨hy, ?_⟩
  rw [puts_row y.toList 0 H xs hb (by omega) (fun v hq => List.all_eq_true.1 hv v hq)]
  refine k _ ?_
  have hs2 := hs.put i (.row (setAt xs (j * s + 0) y.toList) e mm) (by rw [List.getElem?_set_self hlt])
  have hs3 := hs2.turn i (by rw [List.getElem?_set_self (by rw [List.length_set]; exact hlt)]) (B := Own e s (some ⟨b, 0, none⟩) n m (setAt xs (j * s) y.toList)) (fun H1 h1 => ⟨by rw [setAt_length (by omega)]; exact hlx, .inr ⟨b, mm, rfl, by rw [Nat.add_zero] at h1; exact h1, hmm⟩⟩)
  rw [List.set_set, List.set_set] at hs3
  exact hs3
def recV (l : List R) : List Value := l.flatMap fun r => r.c.toList
theorem recV_len : ∀ l : List R, (recV l).length = l.length * 8
  | [] => rfl
  | r :: l => by
    have := recV_len l
    show (r.c.toList ++ recV l).length = _
    rw [List.length_append, this, List.length_cons]
    have : r.c.toList.length = 8 := rfl
    omega
theorem recV_get : ∀ (l : List R) (j : Nat) (h : j < l.length), ((recV l).drop (j * 8)).take 8 = l[j].c.toList
  | r :: l, 0, _ => by
    show ((r.c.toList ++ recV l).drop (0 * 8)).take 8 = _
    rw [Nat.zero_mul, List.drop_zero]
    exact List.take_left' rfl
  | r :: l, j + 1, h => by
    have ih := recV_get l j (by simpa using h)
    show ((r.c.toList ++ recV l).drop ((j + 1) * 8)).take 8 = _
    rw [show (j + 1) * 8 = r.c.toList.length + j * 8 by rw [show r.c.toList.length = 8 from rfl]; omega, ← List.drop_drop, List.drop_left]
    exact ih
theorem recV_set : ∀ (l : List R) (j : Nat) (q : R) (h : j < l.length), setAt (recV l) (j * 8) q.c.toList = recV (l.set j q)
  | r :: l, 0, q, _ => by
    show setAt (r.c.toList ++ recV l) (0 * 8) q.c.toList = q.c.toList ++ recV l
    unfold setAt
    rw [Nat.zero_mul, List.take_zero, List.nil_append, Nat.zero_add]
    congr 1
  | r :: l, j + 1, q, h => by
    have ih := recV_set l j q (by simpa using h)
    show setAt (r.c.toList ++ recV l) ((j + 1) * 8) q.c.toList = r.c.toList ++ recV (l.set j q)
    rw [← ih]
    unfold setAt
    have e : (j + 1) * 8 = r.c.toList.length + j * 8 := by rw [show r.c.toList.length = 8 from rfl]; omega
    rw [e, List.take_length_add_append, Nat.add_assoc, List.drop_length_add_append]
    simp
theorem recC_ok (r : R) : r.c.toList.all (fun v => v.oneCell') = true := rfl
def dR : R := ⟨0, 0, 0, 0, 0, 0, 0, 0⟩
def bub (l : List R) : Nat → List R
  | 0 => l
  | j + 1 => if (l.getD (j + 1) dR).s < (l.getD j dR).s then bub ((l.set (j + 1) (l.getD j dR)).set j (l.getD (j + 1) dR)) j else l
theorem bub_len (j : Nat) : ∀ l, (bub l j).length = l.length := by
  induction j with
  | zero => intro l; rfl
  | succ j ih =>
    intro l
    unfold bub
    split
    · rw [ih]; simp
    · rfl
def isort (l : List R) : Nat → List R
  | 0 => l
  | i + 1 => isort l i |> fun q => bub q (i + 1)
theorem isNaN_ok (x : Int) (H : Hp) : HCalls Tryz.prog 124 #[.int .u64 x] H (RetE (.bool false) H) := by
  apply W_cmp_isNaN_uint64.ok
  unfold W_cmp_isNaN_uint64
  simp only [bne_self_eq_false]
  exact RetE.mk _ _
def cmpI (a b : Nat) : Int := if a < b then -1 else if b < a then 1 else 0
theorem cmp_ok (a b : Nat) (H : Hp) : HCalls Tryz.prog 75 #[.int .u64 (a : Int), .int .u64 (b : Int)] H (RetE (.int .i64 (cmpI a b)) H) := by
  apply W_cmp_Compare_uint64.ok
  unfold W_cmp_Compare_uint64
  refine HCalls.use (isNaN_ok _ H) ?_
  simp only [HV]
  refine HCalls.use (isNaN_ok _ H) ?_
  simp only [HV]
  unfold cmpI
  by_cases h1 : a < b
  · rw [if_pos h1]
    exact BIf_dpos (by omega) (RetE.mk _ _)
  · rw [if_neg h1]
    refine BIf_dneg (by omega) ?_
    by_cases h2 : b < a
    · rw [if_pos h2]
      exact BIf_dpos (by omega) (RetE.mk _ _)
    · rw [if_neg h2]
      exact BIf_dneg (by omega) (RetE.mk _ _)
theorem less_ok (a b : R) (H : Hp) : HCalls Tryz.prog 74 #[.agg a.c, .agg b.c] H (RetE (.int .i64 (cmpI a.s b.s)) H) := HCalls.ret (by
  apply W_ring_Ring_Scan_1.ok
  unfold W_ring_Ring_Scan_1
  refine (Sep.start H).nw fun b1 H1 hs => ?_
  refine hs.nw fun b2 H1 hs => ?_
  refine hs.ldf 1 rfl rfl ?_
  simp only [HV]
  refine hs.ldf 2 rfl rfl ?_
  simp only [HV]
  refine HCalls.use (cmp_ok a.s b.s H1) ?_
  simp only [HV]
  exact hs.fin 0 rfl _)
end Go.Proofs.YtnknippcbecmeaaGreatDoor.Srt
end
section
/- slices.SortFunc of at most 12 records by their numbers: the walk. -/
namespace Go.Proofs.YtnknippcbecmeaaGreatDoor.Srt
open Go Go.Hw W Rec
theorem getD_at (l : List R) {j : Nat} (h : j < l.length) : l.getD j dR = l[j] := by
  rw [List.getD_eq_getElem?_getD, List.getElem?_eq_getElem h]; rfl
theorem ins_inner (A : Option Addr) (n m : Nat) (i : Nat) (hn : n ≤ 1000) (K : Value → Hp → Prop) (R1 : Option Addr → Nat → Nat → Int → Int → FuncId → Array Value → Array Value → Int → Hp → Prop) (fin : List R)
    (k : ∀ H', Hw.Sep [Own 86 8 A n m (recV fin)] H' → R1 A n m 0 (n : Int) 74 #[] #[] (IntKind.i64.wrap ((i : Int) + 1)) H') :
    ∀ (j : Nat) (l : List R) (H : Hp), l.length = n → j < n → bub l j = fin → Hw.Sep [Own 86 8 A n m (recV l)] H →
      W_slices_insertionSortCmpFunc_api_Record.l4 K R1 (j + 1) A n m 0 (n : Int) 74 #[] #[] (i : Int) (j : Int) H
  | 0, l, H, hl, hj, hf, hs => by
    unfold W_slices_insertionSortCmpFunc_api_Record.l4
    refine BIf_dneg (by omega) ?_
    have hf : l = fin := hf
    rw [hf] at hs
    exact k H hs
  | j + 1, l, H, hl, hj, hf, hs => by
    unfold W_slices_insertionSortCmpFunc_api_Record.l4
    refine BIf_dpos (by omega) ?_
    have hj1 : j + 1 < l.length := by omega
    have hj0 : j < l.length := by omega
    have ej : IntKind.i64.wrap (((j + 1 : Nat) : Int) - 1) = (j : Int) := by rw [i64w (by omega) (by omega)]; omega
    rw [ej]
    have ho := hs.own 0 rfl
    refine ho.rdA rfl hj (recV_get l (j + 1) hj1) ?_
    refine ho.rdA (j := j) rfl (by omega) (recV_get l j hj0) ?_
    refine BIf_pos (by kernel_rfl) ?_
    rw [Array.toArray_toList, Array.toArray_toList]
    refine HCalls.use (less_ok l[j + 1] l[j] H) ?_
    have hr : resTypes Tryz.prog 74 = [3] := by kernel_rfl
    rw [hr]
    have hdt : ∀ (x : Int) (K : Value → Prop), K (.int .i64 x) → DR Tryz.prog [3] (.int .i64 x) K := fun x K k => by
      show DT Tryz.prog 3 (.int .i64 x) K
      unfold DT
      rw [show Tryz.prog.underlying 3 = some (.int .i64) by kernel_rfl]
      exact k
    refine hdt _ _ ?_
    simp only [HV]
    unfold bub at hf
    rw [getD_at l hj1, getD_at l hj0] at hf
    unfold cmpI
    by_cases hlt : l[j + 1].s < l[j].s
    · rw [if_pos hlt] at hf ⊢
      refine BIf_dpos (by decide) ?_
      have ix : ∀ {x : Int} {q : Nat} {P : Addr → Prop}, x = q → q < n → (∀ b mm, A = some ⟨b, 0, none⟩ → P ⟨b, 0, none⟩) → ixI x n (NN A P) := fun {x q P} hx hq hp => by
        refine ⟨by omega, by omega, ?_⟩
        rcases hs.unown 0 rfl with ⟨_, h0, _⟩ | ⟨b, mm, rfl, _, _, _⟩
        · omega
        · rw [NN_some]; exact hp b mm rfl
      refine ix (q := j) rfl (by omega) fun b mm hA => ?_
      subst hA
      refine ⟨by omega, by omega, ?_⟩
      rw [NN_some]
      have hw1 := recV_set l (j + 1) l[j] hj1
      have hw2 := recV_set (l.set (j + 1) l[j]) j l[j + 1] (by rw [List.length_set]; exact hj0)
      have go : ∀ H1, Hw.Sep [Own 86 8 (some ⟨b, 0, none⟩) n m (recV l)] H1 →
          ixI ((j + 1 : Nat) : Int) n (NN (some (⟨b, 0, none⟩ : Addr)) fun a5 => StA H1 (a5.add (((j + 1 : Nat) : Int).toNat * 8)) l[j].c 8 fun H2 => ixI (j : Int) n (NN (some (⟨b, 0, none⟩ : Addr)) fun a6 => StA H2 (a6.add ((j : Int).toNat * 8)) l[j + 1].c 8 fun H3 =>
            W_slices_insertionSortCmpFunc_api_Record.l4 K R1 (j + 1) (some ⟨b, 0, none⟩) n m 0 (n : Int) 74 #[] #[] (i : Int) (j : Int) H3)) := fun H1 hs => by
        refine Sep.wrR hs 0 rfl rfl hj rfl (recC_ok _) fun H2 hs => ?_
        refine Sep.wrR hs 0 rfl rfl (show j < n by omega) rfl (recC_ok _) fun H3 hs => ?_
        simp only [List.set_cons_zero] at hs
        rw [hw1, hw2] at hs
        exact ins_inner (some ⟨b, 0, none⟩) n m i hn K R1 fin k j _ H3 (by simp; exact hl) (by omega) hf hs
      have rd : ∀ {q : Nat} (hq : q < l.length) {P : List Value → Prop}, P l[q].c.toList → LdA H ((⟨b, 0, none⟩ : Addr).add ((q : Int).toNat * 8)) 8 P := fun {q} hq {P} hp => by
        have := (hs.own 0 rfl).rdA (x := (q : Int)) (j := q) rfl (by omega) (recV_get l q hq) (K := P) hp
        exact this.2.2
      refine ⟨?_, ?_⟩
      · refine rd hj0 (rd hj1 ?_)
        rw [Array.toArray_toList, Array.toArray_toList]
        exact go H hs
      · refine rd hj1 (rd hj0 ?_)
        rw [Array.toArray_toList, Array.toArray_toList]
        exact go H hs
    · rw [if_neg hlt] at hf ⊢
      refine BIf_dneg (by split <;> decide) ?_
      rw [hf] at hs
      exact k H hs
end Go.Proofs.YtnknippcbecmeaaGreatDoor.Srt
end
section
/- Formulas of functions, printed by wip/tools/hwp.py. -/
namespace Go.Proofs.YtnknippcbecmeaaGreatDoor.W
open Go Go.Hw
theorem mixWlbits : Tryz.prog.follows .mixedOrders = true := by kernel_rfl
def W_math_bits_Len (x1 : Int) (H : Hp) (K : Value → Hp → Prop) : Prop :=
  HCalls Tryz.prog 162 #[.int .u64 x1] H fun v1 H1 => DI .i64 v1 fun x2 => K (.int .i64 x2) H1
theorem W_math_bits_Len.ok (x1 : Int) (H : Hp) (K : Value → Hp → Prop) (h : W_math_bits_Len x1 H K) : HCalls Tryz.prog 123 #[.int .u64 x1] H K :=
  hcalls Tryz.func123 rfl (Nat.le_of_ble_eq_true rfl) (hw_safe (Λ := Cuts.none (fun _ => none)) mixWlbits _ _ _ _ _ (Eq.mp (by kernel_rfl) h) (obs_none _ _ _ _ _))
end Go.Proofs.YtnknippcbecmeaaGreatDoor.W
end
section
/- slices.SortFunc of at most 12 records by their numbers: the contract; what it leaves. -/
namespace Go.Proofs.YtnknippcbecmeaaGreatDoor.Srt
open Go Go.Hw W Rec
theorem isort_len : ∀ (i : Nat) (l : List R), (isort l i).length = l.length
  | 0, _ => rfl
  | i + 1, l => by
    show (bub (isort l i) (i + 1)).length = _
    rw [bub_len, isort_len i l]
theorem ins_outer (A : Option Addr) (n m : Nat) (hn : n ≤ 1000) (l : List R) (hl : l.length = n) (K : Value → Hp → Prop) (k : ∀ H', Hw.Sep [Own 86 8 A n m (recV (isort l (n - 1)))] H' → K (.tuple #[]) H') :
    ∀ (t i : Nat) (H : Hp), i + t = n - 1 → Hw.Sep [Own 86 8 A n m (recV (isort l i))] H →
      W_slices_insertionSortCmpFunc_api_Record.l1 K (t + 1) A n m 0 (n : Int) 74 #[] #[] ((i + 1 : Nat) : Int) H
  | 0, i, H, hi, hs => by
    unfold W_slices_insertionSortCmpFunc_api_Record.l1
    refine BIf_dneg (by omega) ?_
    obtain rfl : i = n - 1 := by omega
    exact k H hs
  | t + 1, i, H, hi, hs => by
    unfold W_slices_insertionSortCmpFunc_api_Record.l1
    refine BIf_dpos (by omega) ⟨i + 1 + 1, ?_⟩
    refine ins_inner A n m (i + 1) hn K _ (isort l (i + 1)) (fun H' hs' => ?_) (i + 1) (isort l i) H (by rw [isort_len]; exact hl) (by omega) rfl hs
    rw [i64w (by omega) (by omega), show ((i + 1 : Nat) : Int) + 1 = ((i + 1 + 1 : Nat) : Int) by omega]
    exact ins_outer A n m hn l hl K k t (i + 1) H' (by omega) hs'
theorem Len_ok (x : Nat) (hx : x < 18446744073709551616) (H : Hp) : HCalls Tryz.prog 123 #[.int .u64 (x : Int)] H (RetE (.int .i64 (Go.Lib.bitLen x : Int)) H) := by
  apply W_math_bits_Len.ok
  unfold W_math_bits_Len
  refine HCalls.use (Len64_hc x hx H) ?_
  simp only [HV]
  exact RetE.mk _ _
theorem SortFunc_tr (A : Option Addr) (n m : Nat) (hn : n ≤ 12) (l : List R) (hl : l.length = n) : Tr Tryz.prog 73 #[.slice A n m, .func (.func 74) #[] #[]]
    [Own 86 8 A n m (recV l)] fun v M => v = .tuple #[] ∧ M = [Own 86 8 A n m (recV (isort l (n - 1)))] := fun H hs => by
  apply W_slices_SortFunc_api_Record_api_Record.ok
  unfold W_slices_SortFunc_api_Record_api_Record
  rw [u64n (by omega)]
  refine HCalls.use (Len_ok n (by omega) H) ?_
  simp only [HV]
  have hI : HCalls Tryz.prog 153 #[.slice A n m, .int .i64 0, .int .i64 (n : Int), .func (.func 74) #[] #[]] H (fun v H' => v = .tuple #[] ∧ Hw.Sep [Own 86 8 A n m (recV (isort l (n - 1)))] H') := by
    apply W_slices_insertionSortCmpFunc_api_Record.ok
    unfold W_slices_insertionSortCmpFunc_api_Record
    rw [show IntKind.i64.wrap ((0 : Int) + 1) = ((0 + 1 : Nat) : Int) by decide]
    exact ⟨n - 1 + 1, ins_outer A n m (by omega) l hl _ (fun H' hs' => ⟨rfl, hs'⟩) (n - 1) 0 H (by omega) hs⟩
  have hP : HCalls Tryz.prog 122 #[.slice A n m, .int .i64 0, .int .i64 (n : Int), .int .i64 (Go.Lib.bitLen n : Int), .func (.func 74) #[] #[]] H (fun v H' => v = .tuple #[] ∧ Hw.Sep [Own 86 8 A n m (recV (isort l (n - 1)))] H') := by
    apply W_slices_pdqsortCmpFunc_api_Record.ok
    unfold W_slices_pdqsortCmpFunc_api_Record
    refine ⟨1, ?_⟩
    unfold W_slices_pdqsortCmpFunc_api_Record.l2
    refine BIf_dpos (by rw [i64w (by omega) (by omega)]; omega) ?_
    refine HCalls.mono hI ?_
    rintro v H' ⟨rfl, h⟩
    exact ⟨rfl, h⟩
  refine HCalls.mono hP ?_
  rintro v H' ⟨rfl, h⟩
  exact ⟨_, ⟨by first | trivial | rfl, rfl⟩, h⟩
theorem swap_perm (l : List R) {j : Nat} (h : j + 1 < l.length) : ((l.set (j + 1) (l.getD j dR)).set j (l.getD (j + 1) dR)).Perm l := by
  induction l generalizing j with
  | nil => simp at h
  | cons x l ih =>
    cases j with
    | zero =>
      cases l with
      | nil => simp at h
      | cons y t => exact List.Perm.swap x y t
    | succ j =>
      exact (ih (j := j) (by simpa using h)).cons x
theorem bub_perm (j : Nat) : ∀ (l : List R), j < l.length → (bub l j).Perm l := by
  induction j with
  | zero => intro l _; exact List.Perm.refl _
  | succ j ih =>
    intro l h
    unfold bub
    split
    · refine (ih _ (by simp; omega)).trans (swap_perm l h)
    · exact List.Perm.refl _
theorem isort_perm (l : List R) : ∀ i, i < l.length ∨ i = 0 → (isort l i).Perm l
  | 0, _ => List.Perm.refl _
  | i + 1, h => by
    have ih := isort_perm l i (by omega)
    show (bub (isort l i) (i + 1)).Perm l
    refine (bub_perm (i + 1) _ (by rw [isort_len]; omega)).trans ih
end Go.Proofs.YtnknippcbecmeaaGreatDoor.Srt
end
section
/- what slices.SortFunc leaves: the same records, by rising numbers. -/
namespace Go.Proofs.YtnknippcbecmeaaGreatDoor.Srt
open Go Go.Hw Rec
def leR (a b : R) : Prop := a.s ≤ b.s
theorem bub_ins : ∀ (j : Nat) (p r : List R) (x : R), p.length = j → ∃ p', bub (p ++ x :: r) j = p' ++ r ∧ p'.length = j + 1 ∧ (p.Pairwise leR → p'.Pairwise leR) ∧ p'.Perm (x :: p)
  | 0, p, r, x, h => by
    rw [List.length_eq_zero_iff.1 h]
    exact ⟨[x], rfl, rfl, fun _ => by simp, List.Perm.refl _⟩
  | j + 1, p, r, x, h => by
    obtain ⟨q, y, rfl⟩ : ∃ q y, p = q ++ [y] := ⟨_, _, (List.dropLast_concat_getLast (by intro e; rw [e] at h; cases h)).symm⟩
    have hq : q.length = j := by simpa using h
    have e0 : q ++ [y] ++ x :: r = q ++ y :: x :: r := by simp
    rw [e0]
    unfold bub
    have g1 : (q ++ y :: x :: r).getD (j + 1) dR = x := by rw [List.getD_eq_getElem?_getD, List.getElem?_append_right (by omega), hq, show j + 1 - j = 1 by omega]; rfl
    have g0 : (q ++ y :: x :: r).getD j dR = y := by rw [List.getD_eq_getElem?_getD, List.getElem?_append_right (by omega), hq, Nat.sub_self]; rfl
    rw [g1, g0]
    by_cases hxy : x.s < y.s
    · rw [if_pos hxy]
      have es : ((q ++ y :: x :: r).set (j + 1) y).set j x = q ++ x :: y :: r := by
        rw [List.set_append_right _ _ (by omega), hq, show j + 1 - j = 1 by omega, List.set_append_right _ _ (by omega), hq, Nat.sub_self]
        rfl
      rw [es]
      obtain ⟨p'', h1, h2, h3, h4⟩ := bub_ins j q (y :: r) x hq
      refine ⟨p'' ++ [y], by rw [h1]; simp, by simp [h2], fun hs => ?_, ?_⟩
      · rw [List.pairwise_append] at hs ⊢
        obtain ⟨s1, _, s3⟩ := hs
        refine ⟨h3 s1, by simp, fun a ha b hb => ?_⟩
        have hb' : b = y := by simpa using hb
        subst hb'
        rcases List.mem_cons.1 (h4.mem_iff.1 ha) with rfl | ha
        · exact Nat.le_of_lt hxy
        · exact s3 a ha b (by simp)
      · have : (p'' ++ [y]).Perm ((x :: q) ++ [y]) := h4.append_right [y]
        simpa using this
    · rw [if_neg hxy]
      refine ⟨q ++ [y, x], by simp, by simp [hq], fun hs => ?_, ?_⟩
      · rw [List.pairwise_append] at hs ⊢
        obtain ⟨s1, _, s3⟩ := hs
        have hyx : leR y x := Nat.not_lt.1 hxy
        refine ⟨s1, by simp [hyx], fun a ha b hb => ?_⟩
        have hay := s3 a ha y (by simp)
        have : b = y ∨ b = x := by simpa using hb
        rcases this with rfl | rfl
        · exact hay
        · exact Nat.le_trans hay hyx
      · have : (q ++ [y] ++ [x]).Perm (x :: (q ++ [y])) := List.perm_append_comm
        simpa using this
theorem isort_pre : ∀ (i : Nat) (l : List R), i < l.length → ∃ p r, isort l i = p ++ r ∧ p.length = i + 1 ∧ p.Pairwise leR
  | 0, l, h => by
    cases l with
    | nil => simp at h
    | cons x t => exact ⟨[x], t, rfl, rfl, by simp⟩
  | i + 1, l, h => by
    obtain ⟨p, r, h1, h2, h3⟩ := isort_pre i l (by omega)
    have hlen := isort_len i l
    cases r with
    | nil =>
      rw [h1, List.append_nil, h2] at hlen
      omega
    | cons x r =>
      obtain ⟨p', g1, g2, g3, _⟩ := bub_ins (i + 1) p r x h2
      refine ⟨p', r, ?_, g2, g3 h3⟩
      show bub (isort l i) (i + 1) = _
      rw [h1, g1]
theorem isort_sorted (l : List R) : (isort l (l.length - 1)).Pairwise leR := by
  by_cases h0 : l = []
  · subst h0; exact List.Pairwise.nil
  · have hp : 0 < l.length := List.length_pos_iff.2 h0
    obtain ⟨p, r, h1, h2, h3⟩ := isort_pre (l.length - 1) l (by omega)
    have hlen := isort_len (l.length - 1) l
    rw [h1] at hlen ⊢
    have : r = [] := by
      rw [List.length_append, h2] at hlen
      exact List.length_eq_zero_iff.1 (by omega)
    rw [this, List.append_nil]
    exact h3
theorem isort_all (l : List R) : (isort l (l.length - 1)).Perm l := by
  by_cases h0 : l = []
  · subst h0; exact List.Perm.refl _
  · have hp : 0 < l.length := List.length_pos_iff.2 h0
    exact isort_perm l _ (.inl (by omega))
theorem rise_uniq : ∀ (a b : List R), a.Pairwise (fun x y => x.s < y.s) → b.Pairwise (fun x y => x.s < y.s) → a.Perm b → a = b
  | [], b, _, _, h => (List.nil_perm.1 h).symm
  | x :: a, [], _, _, h => by have := h.length_eq; simp at this
  | x :: a, y :: b, ha, hb, h => by
    rw [List.pairwise_cons] at ha hb
    have hxy : x = y := by
      rcases List.mem_cons.1 (h.mem_iff.1 (List.mem_cons_self : x ∈ x :: a)) with e | hx
      · exact e
      · rcases List.mem_cons.1 (h.mem_iff.2 (List.mem_cons_self : y ∈ y :: b)) with e | hy
        · exact e.symm
        · have h1 := ha.1 y hy
          have h2 := hb.1 x hx
          omega
    subst hxy
    rw [rise_uniq a b ha.2 hb.2 (List.Perm.cons_inv h)]
end Go.Proofs.YtnknippcbecmeaaGreatDoor.Srt
end
section
/- record: which may stand behind which. -/
namespace Go.Proofs.YtnknippcbecmeaaGreatDoor.Rec
open Go Go.Hw W
abbrev after (a b : R) : Prop := a.good ∧ b.good ∧ b.s = a.s + 1 ∧ (b.kd = 1 ∨ (b.kd = 2 ∧ a.kd = 1 ∧ a.ld = b.ld ∧ a.kk = b.kk) ∨ (b.kd = 3 ∧ a.kd ≠ 1 ∧ a.ld = b.ld ∧ a.kk = b.kk ∧ a.inp = b.inp ∧ b.out = 0) ∨
  (b.kd = 4 ∧ 3 ≤ a.kd ∧ a.ld = b.ld ∧ a.kk = b.kk ∧ a.inp = b.inp ∧ a.dir = b.dir ∧ b.ps = a.ps + 1))
abbrev same (a b : R) : Prop := a.ld = b.ld ∧ a.kk = b.kk ∧ a.inp = b.inp
theorem same_ok (a b : R) (H : Hp) : HCalls Tryz.prog 116 #[.agg a.c, .agg b.c] H (RetE (.bool (decide (same a b))) H) := HCalls.ret (by
  apply W_record_same.ok
  unfold W_record_same
  refine (Sep.start H).nw fun b1 H1 hs => ?_
  refine hs.nw fun b2 H1 hs => ?_
  have hs : Sep [own H, pts b1 (recO a), pts b2 (recO b)] H1 := hs
  refine hs.ldf 1 rfl rfl ?_
  simp only [HV]
  refine hs.ldf 2 rfl rfl ?_
  simp only [HV]
  by_cases h1 : (a.ld : Int) = (b.ld : Int)
  · refine BIf_beqp h1 ?_
    refine hs.ldf 1 rfl rfl ?_
    simp only [HV]
    refine hs.ldf 2 rfl rfl ?_
    simp only [HV]
    by_cases h2 : a.kk = b.kk
    · refine BIf_beqp h2 ?_
      refine hs.ldf 1 rfl rfl ?_
      simp only [HV]
      refine hs.ldf 2 rfl rfl ?_
      simp only [HV]
      have : decide (same a b) = ((a.inp : Int) == (b.inp : Int)) := by
        by_cases h3 : (a.inp : Int) = (b.inp : Int)
        · rw [decide_eq_true ⟨by omega, h2, by omega⟩, h3]; simp
        · rw [decide_eq_false (fun h => by have := h.2.2; omega), beq_eq_false_iff_ne.2 h3]
      rw [this]
      exact hs.fin 0 rfl _
    · rw [decide_eq_false (fun h => h2 h.2.1)]
      exact BIf_beqn h2 (hs.fin 0 rfl _)
  · rw [decide_eq_false (fun h => h1 (by have := h.1; omega))]
    exact BIf_beqn h1 (hs.fin 0 rfl _))
section
variable {a b : R} {H0 H : Hp} {b1 b2 : Nat}
theorem aft_no (hs : Sep [own H0, pts b1 (recO a), pts b2 (recO b)] H) (h : ¬ after a b) : Ret (.bool (decide (after a b))) H0 (.bool false) H := by
  rw [decide_eq_false h]; exact hs.fin 0 rfl _
theorem aft_b (hs : Sep [own H0, pts b1 (recO a), pts b2 (recO b)] H) {x : Bool} (h : x = true ↔ after a b) : Ret (.bool (decide (after a b))) H0 (.bool x) H := by
  have : decide (after a b) = x := by
    cases x with
    | true => exact decide_eq_true (h.1 rfl)
    | false => exact decide_eq_false fun g => by have := h.2 g; cases this
  rw [this]; exact hs.fin 0 rfl _
end
theorem After_ok (a b : R) (H : Hp) : HCalls Tryz.prog 66 #[.agg a.c, .agg b.c] H (RetE (.bool (decide (after a b))) H) := HCalls.ret (by
  apply W_record_After.ok
  unfold W_record_After
  refine (Sep.start H).nw fun b1 H1 hs => ?_
  refine hs.nw fun b2 H1 hs => ?_
  have hs : Sep [own H, pts b1 (recO a), pts b2 (recO b)] H1 := hs
  refine hs.ldw 1 rfl rfl ?_
  refine HCalls.use (Good_ok a H1) ?_
  simp only [HV]
  by_cases ga : a.good
  case neg =>
    rw [decide_eq_false ga]
    exact BIf_pos rfl (aft_no hs fun h => ga h.1)
  rw [decide_eq_true ga]
  refine BIf_neg rfl ?_
  refine hs.ldw 2 rfl rfl ?_
  refine HCalls.use (Good_ok b H1) ?_
  simp only [HV]
  by_cases gb : b.good
  case neg =>
    rw [decide_eq_false gb]
    exact BIf_pos rfl (aft_no hs fun h => gb h.2.1)
  rw [decide_eq_true gb]
  refine BIf_neg rfl ?_
  have ga' := ga
  have gb' := gb
  obtain ⟨a1, a2, a3, a4, a5, a6⟩ := ga'
  obtain ⟨c1, c2, c3, c4, c5, c6⟩ := gb'
  refine hs.ldf 2 rfl rfl ?_
  simp only [HV]
  refine hs.ldf 1 rfl rfl ?_
  simp only [HV]
  rw [u64w (x := (a.s : Int) + 1) (by omega) (by omega)]
  by_cases hsq : (b.s : Int) = (a.s : Int) + 1
  case neg => exact BIf_bnep hsq (aft_no hs fun h => hsq (by have := h.2.2.1; omega))
  refine BIf_bnen hsq ?_
  have hd : ∀ {P : Prop}, (P ↔ (b.kd = 1 ∨ (b.kd = 2 ∧ a.kd = 1 ∧ a.ld = b.ld ∧ a.kk = b.kk) ∨ (b.kd = 3 ∧ a.kd ≠ 1 ∧ a.ld = b.ld ∧ a.kk = b.kk ∧ a.inp = b.inp ∧ b.out = 0) ∨ (b.kd = 4 ∧ 3 ≤ a.kd ∧ a.ld = b.ld ∧ a.kk = b.kk ∧ a.inp = b.inp ∧ a.dir = b.dir ∧ b.ps = a.ps + 1))) → (P ↔ after a b) := fun h => by
    rw [h]
    exact ⟨fun g => ⟨ga, gb, by omega, g⟩, fun g => g.2.2.2⟩
  have hn : ¬ (b.kd = 1 ∨ (b.kd = 2 ∧ a.kd = 1 ∧ a.ld = b.ld ∧ a.kk = b.kk) ∨ (b.kd = 3 ∧ a.kd ≠ 1 ∧ a.ld = b.ld ∧ a.kk = b.kk ∧ a.inp = b.inp ∧ b.out = 0) ∨ (b.kd = 4 ∧ 3 ≤ a.kd ∧ a.ld = b.ld ∧ a.kk = b.kk ∧ a.inp = b.inp ∧ a.dir = b.dir ∧ b.ps = a.ps + 1)) → Ret (.bool (decide (after a b))) H (.bool false) H1 := fun h => aft_no hs fun g => h g.2.2.2
  refine hs.ldf 2 rfl rfl ?_
  simp only [HV]
  by_cases k1 : b.kd = 1
  · exact BIf_beqp k1 (aft_b hs (hd ⟨fun _ => .inl k1, fun _ => rfl⟩))
  refine BIf_beqn k1 ?_
  by_cases k2 : b.kd = 2
  · refine BIf_beqp k2 ?_
    refine hs.ldf 1 rfl rfl ?_
    simp only [HV]
    by_cases h1 : a.kd = 1
    · refine BIf_beqp h1 ?_
      refine hs.ldf 1 rfl rfl ?_
      simp only [HV]
      refine hs.ldf 2 rfl rfl ?_
      simp only [HV]
      by_cases h2 : (a.ld : Int) = (b.ld : Int)
      · refine BIf_beqp h2 ?_
        refine hs.ldf 1 rfl rfl ?_
        simp only [HV]
        refine hs.ldf 2 rfl rfl ?_
        simp only [HV]
        refine aft_b hs (hd ?_)
        rw [beq_iff_eq]; omega
      · exact BIf_beqn h2 (hn (by omega))
    · exact BIf_beqn h1 (hn (by omega))
  refine BIf_beqn k2 ?_
  by_cases k3 : b.kd = 3
  · refine BIf_beqp k3 ?_
    refine hs.ldf 1 rfl rfl ?_
    simp only [HV]
    by_cases h1 : a.kd = 1
    · exact BIf_bnen h1 (hn (by omega))
    · refine BIf_bnep h1 ?_
      refine hs.ldw 1 rfl rfl ?_
      refine hs.ldw 2 rfl rfl ?_
      refine HCalls.use (same_ok a b H1) ?_
      simp only [HV]
      by_cases h2 : same a b
      · rw [decide_eq_true h2]
        refine BIf_pos rfl ?_
        obtain ⟨e1, e2, e3⟩ := h2
        refine hs.ldf 2 rfl rfl ?_
        simp only [HV]
        refine aft_b hs (hd ?_)
        rw [beq_iff_eq]; omega
      · rw [decide_eq_false h2]
        refine BIf_neg rfl (hn fun g => h2 ?_)
        rcases g with g | g | g | g
        · omega
        · omega
        · exact ⟨g.2.2.1, g.2.2.2.1, g.2.2.2.2.1⟩
        · omega
  refine BIf_beqn k3 ?_
  refine hs.ldf 1 rfl rfl ?_
  simp only [HV]
  by_cases h1 : a.kd ≥ 3
  · refine BIf_dpos h1 ?_
    refine hs.ldw 1 rfl rfl ?_
    refine hs.ldw 2 rfl rfl ?_
    refine HCalls.use (same_ok a b H1) ?_
    simp only [HV]
    by_cases h2 : same a b
    · rw [decide_eq_true h2]
      refine BIf_pos rfl ?_
      obtain ⟨e1, e2, e3⟩ := h2
      refine hs.ldf 1 rfl rfl ?_
      simp only [HV]
      refine hs.ldf 2 rfl rfl ?_
      simp only [HV]
      by_cases h3 : a.dir = b.dir
      · refine BIf_beqp h3 ?_
        refine hs.ldf 2 rfl rfl ?_
        simp only [HV]
        refine hs.ldf 1 rfl rfl ?_
        simp only [HV]
        rw [i64w (x := a.ps + 1) (by omega) (by omega)]
        refine aft_b hs (hd ?_)
        rw [beq_iff_eq]; omega
      · exact BIf_beqn h3 (hn (by omega))
    · rw [decide_eq_false h2]
      refine BIf_neg rfl (hn fun g => h2 ?_)
      rcases g with g | g | g | g
      · omega
      · omega
      · omega
      · exact ⟨g.2.2.1, g.2.2.2.1, g.2.2.2.2.1⟩
  · exact BIf_dneg h1 (hn (by omega)))
theorem rAfter_ok (a b : R) (H : Hp) : HCalls Tryz.prog 39 #[.agg a.c, .agg b.c] H (RetE (.bool (decide (after a b))) H) := HCalls.ret (by
  apply W_abacistref20_After.ok
  unfold W_abacistref20_After
  refine (Sep.start H).nw fun b1 H1 hs => ?_
  refine hs.nw fun b2 H1 hs => ?_
  have hs : Sep [own H, pts b1 (recO a), pts b2 (recO b)] H1 := hs
  refine hs.ldw 1 rfl rfl ?_
  refine HCalls.use (rGood_ok a H1) ?_
  simp only [HV]
  by_cases ga : a.good
  case neg =>
    rw [decide_eq_false ga]
    exact BIf_pos rfl (aft_no hs fun h => ga h.1)
  rw [decide_eq_true ga]
  refine BIf_neg rfl ?_
  refine hs.ldw 2 rfl rfl ?_
  refine HCalls.use (rGood_ok b H1) ?_
  simp only [HV]
  by_cases gb : b.good
  case neg =>
    rw [decide_eq_false gb]
    exact BIf_pos rfl (aft_no hs fun h => gb h.2.1)
  rw [decide_eq_true gb]
  refine BIf_neg rfl ?_
  have ga' := ga
  have gb' := gb
  obtain ⟨a1, a2, a3, a4, a5, a6⟩ := ga'
  obtain ⟨c1, c2, c3, c4, c5, c6⟩ := gb'
  refine hs.ldf 2 rfl rfl ?_
  simp only [HV]
  refine hs.ldf 1 rfl rfl ?_
  simp only [HV]
  rw [u64w (x := (a.s : Int) + 1) (by omega) (by omega)]
  by_cases hsq : (b.s : Int) = (a.s : Int) + 1
  case neg => exact BIf_bnep hsq (aft_no hs fun h => hsq (by have := h.2.2.1; omega))
  refine BIf_bnen hsq ?_
  have hd : ∀ {P : Prop}, (P ↔ (b.kd = 1 ∨ (b.kd = 2 ∧ a.kd = 1 ∧ a.ld = b.ld ∧ a.kk = b.kk) ∨ (b.kd = 3 ∧ a.kd ≠ 1 ∧ a.ld = b.ld ∧ a.kk = b.kk ∧ a.inp = b.inp ∧ b.out = 0) ∨ (b.kd = 4 ∧ 3 ≤ a.kd ∧ a.ld = b.ld ∧ a.kk = b.kk ∧ a.inp = b.inp ∧ a.dir = b.dir ∧ b.ps = a.ps + 1))) → (P ↔ after a b) := fun h => by
    rw [h]
    exact ⟨fun g => ⟨ga, gb, by omega, g⟩, fun g => g.2.2.2⟩
  have hn : ¬ (b.kd = 1 ∨ (b.kd = 2 ∧ a.kd = 1 ∧ a.ld = b.ld ∧ a.kk = b.kk) ∨ (b.kd = 3 ∧ a.kd ≠ 1 ∧ a.ld = b.ld ∧ a.kk = b.kk ∧ a.inp = b.inp ∧ b.out = 0) ∨ (b.kd = 4 ∧ 3 ≤ a.kd ∧ a.ld = b.ld ∧ a.kk = b.kk ∧ a.inp = b.inp ∧ a.dir = b.dir ∧ b.ps = a.ps + 1)) → Ret (.bool (decide (after a b))) H (.bool false) H1 := fun h => aft_no hs fun g => h g.2.2.2
  refine hs.ldf 2 rfl rfl ?_
  simp only [HV]
  by_cases k1 : b.kd = 1
  · exact BIf_beqp k1 (aft_b hs (hd ⟨fun _ => .inl k1, fun _ => rfl⟩))
  refine BIf_beqn k1 ?_
  refine hs.ldf 1 rfl rfl ?_
  simp only [HV]
  refine hs.ldf 2 rfl rfl ?_
  simp only [HV]
  by_cases e1 : (a.ld : Int) = (b.ld : Int)
  case neg => exact BIf_bnep e1 (hn (by omega))
  refine BIf_bnen e1 ?_
  refine hs.ldf 1 rfl rfl ?_
  simp only [HV]
  refine hs.ldf 2 rfl rfl ?_
  simp only [HV]
  by_cases e2 : a.kk = b.kk
  case neg => exact BIf_bnep e2 (hn (by omega))
  refine BIf_bnen e2 ?_
  refine hs.ldf 2 rfl rfl ?_
  simp only [HV]
  by_cases k2 : b.kd = 2
  · refine BIf_beqp k2 ?_
    refine hs.ldf 1 rfl rfl ?_
    simp only [HV]
    refine aft_b hs (hd ?_)
    rw [beq_iff_eq]; omega
  refine BIf_beqn k2 ?_
  refine hs.ldf 1 rfl rfl ?_
  simp only [HV]
  by_cases h1 : a.kd = 1
  · exact BIf_beqp h1 (hn (by omega))
  refine BIf_beqn h1 ?_
  refine hs.ldf 1 rfl rfl ?_
  simp only [HV]
  refine hs.ldf 2 rfl rfl ?_
  simp only [HV]
  by_cases e3 : (a.inp : Int) = (b.inp : Int)
  case neg => exact BIf_bnep e3 (hn (by omega))
  refine BIf_bnen e3 ?_
  refine hs.ldf 2 rfl rfl ?_
  simp only [HV]
  by_cases k3 : b.kd = 3
  · refine BIf_beqp k3 ?_
    refine hs.ldf 2 rfl rfl ?_
    simp only [HV]
    refine aft_b hs (hd ?_)
    rw [beq_iff_eq]; omega
  refine BIf_beqn k3 ?_
  refine hs.ldf 1 rfl rfl ?_
  simp only [HV]
  by_cases h2 : a.kd = 2
  · exact BIf_beqp h2 (hn (by omega))
  refine BIf_beqn h2 ?_
  refine hs.ldf 1 rfl rfl ?_
  simp only [HV]
  refine hs.ldf 2 rfl rfl ?_
  simp only [HV]
  by_cases e4 : a.dir = b.dir
  case neg => exact BIf_bnep e4 (hn (by omega))
  refine BIf_bnen e4 ?_
  refine hs.ldf 1 rfl rfl ?_
  simp only [HV]
  by_cases h3 : a.kd = 3
  · refine BIf_beqp h3 ?_
    refine hs.ldf 2 rfl rfl ?_
    simp only [HV]
    refine aft_b hs (hd ?_)
    rw [beq_iff_eq]; omega
  · refine BIf_beqn h3 ?_
    refine hs.ldf 2 rfl rfl ?_
    simp only [HV]
    refine hs.ldf 1 rfl rfl ?_
    simp only [HV]
    rw [i64w (x := a.ps + 1) (by omega) (by omega)]
    refine aft_b hs (hd ?_)
    rw [beq_iff_eq]; omega)
end Go.Proofs.YtnknippcbecmeaaGreatDoor.Rec
end
section
/- Sums of bits: the plain laws. -/
namespace Go.Crc
open Go
abbrev W32 := BitVec 32
def poly : W32 := 0x82f63b78#32
def bit1 (v : W32) : W32 := (v >>> 1) ^^^ (if v.getLsbD 0 then poly else 0#32)
def it (f : W32 → W32) : Nat → W32 → W32
  | 0, v => v
  | n + 1, v => it f n (f v)
def Lin (f : W32 → W32) : Prop := ∀ x y, f (x ^^^ y) = f x ^^^ f y
theorem Lin.it {f : W32 → W32} (h : Lin f) : ∀ n, Lin (it f n)
  | 0 => fun _ _ => rfl
  | n + 1 => fun x y => by simp only [Crc.it]; rw [h, Lin.it h n]
theorem xor4 (a b c d : W32) : (a ^^^ b) ^^^ (c ^^^ d) = (a ^^^ c) ^^^ (b ^^^ d) := by
  rw [BitVec.xor_assoc, ← BitVec.xor_assoc b, BitVec.xor_comm b c, BitVec.xor_assoc c, ← BitVec.xor_assoc]
theorem lin_bit1 : Lin bit1 := fun x y => by
  unfold bit1
  rw [BitVec.ushiftRight_xor_distrib, BitVec.getLsbD_xor, xor4]
  congr 1
  cases x.getLsbD 0 <;> cases y.getLsbD 0 <;> simp
theorem bit1_shift {v : W32} (h : v.getLsbD 0 = false) : bit1 v = v >>> 1 := by unfold bit1; rw [h]; simp
theorem it_shift : ∀ (n : Nat) {v : W32}, (∀ i, i < n → v.getLsbD i = false) → it bit1 n v = v >>> n
  | 0, v, _ => by simp [it]
  | n + 1, v, h => by
    simp only [it]
    rw [bit1_shift (h 0 (by omega)), it_shift n (fun i hi => by rw [BitVec.getLsbD_ushiftRight]; exact h _ (by omega))]
    rw [← BitVec.shiftRight_add, Nat.add_comm]
theorem nibble (v : W32) : it bit1 4 v = (v >>> 4) ^^^ it bit1 4 (v &&& 15#32) := by
  have h1 : v = (v &&& ~~~15#32) ^^^ (v &&& 15#32) := by
    apply BitVec.eq_of_getLsbD_eq
    intro i hi
    simp only [BitVec.getLsbD_xor, BitVec.getLsbD_and, BitVec.getLsbD_not, hi, decide_true, Bool.true_and]
    cases v.getLsbD i <;> cases (15#32).getLsbD i <;> rfl
  have h2 : it bit1 4 (v &&& ~~~15#32) = (v &&& ~~~15#32) >>> 4 := it_shift 4 (fun i hi => by
    rw [BitVec.getLsbD_and]
    have : (~~~15#32).getLsbD i = false := by
      rcases (by omega : i = 0 ∨ i = 1 ∨ i = 2 ∨ i = 3) with rfl | rfl | rfl | rfl <;> decide
    rw [this, Bool.and_false])
  have h3 : (v &&& ~~~15#32) >>> 4 = v >>> 4 := by
    apply BitVec.eq_of_getLsbD_eq
    intro i hi
    simp only [BitVec.getLsbD_ushiftRight, BitVec.getLsbD_and, BitVec.getLsbD_not]
    by_cases h : 4 + i < 32
    · have : (15#32).getLsbD (4 + i) = false := by
        rw [show (15#32 : W32) = BitVec.ofNat 32 15 from rfl, BitVec.getLsbD_ofNat]
        have : Nat.testBit 15 (4 + i) = false := Nat.testBit_lt_two_pow (Nat.lt_of_lt_of_le (by decide : 15 < 2 ^ 4) (Nat.pow_le_pow_right (by decide) (by omega)))
        rw [this, Bool.and_false]
      simp only [this, h, decide_true, Bool.true_and, Bool.not_false, Bool.and_true]
    · have := BitVec.getLsbD_of_ge v (4 + i) (by omega)
      rw [this]; simp
  conv => lhs; rw [h1]
  rw [Lin.it lin_bit1 4, h2, h3]
def low (c : UInt8) : W32 := c.toBitVec.setWidth 32
def byte (v : W32) (c : UInt8) : W32 := it bit1 8 (v ^^^ low c)
def run (v : W32) (bs : List UInt8) : W32 := bs.foldl byte v
def more (s : W32) (bs : List UInt8) : W32 := ~~~ run (~~~ s) bs
def sum (bs : List UInt8) : W32 := more 0#32 bs
end Go.Crc
end
section
/- Formulas of functions, printed by wip/tools/hwp.py. -/
namespace Go.Proofs.YtnknippcbecmeaaGreatDoor.W
open Go Go.Hw
theorem mixWcrc : Tryz.prog.follows .mixedOrders = true := by kernel_rfl
def W_crc_OfWords (A1 : Option Addr) (n1 : Nat) (m1 : Nat) (H : Hp) (K : Value → Hp → Prop) : Prop :=
  HCalls Tryz.prog 114 #[.slice A1 n1 m1] H fun v1 H1 => DSl v1 fun A2 n2 m2 => HCalls Tryz.prog 174 #[.slice A2 n2 m2] H1 fun v2 H2 => DI .u32 v2 fun x1 => K (.int .u32 x1) H2
theorem W_crc_OfWords.ok (A1 : Option Addr) (n1 : Nat) (m1 : Nat) (H : Hp) (K : Value → Hp → Prop) (h : W_crc_OfWords A1 n1 m1 H K) : HCalls Tryz.prog 149 #[.slice A1 n1 m1] H K :=
  hcalls Tryz.func149 rfl (Nat.le_of_ble_eq_true rfl) (hw_safe (Λ := Cuts.none (fun _ => none)) mixWcrc _ _ _ _ _ (Eq.mp (by kernel_rfl) h) (obs_none _ _ _ _ _))
def W_crc_More.l4 (K : Value → Hp → Prop) : Nat → Addr → Int → Option Addr → Nat → Nat → Int → Int → Hp → Prop
  | 0, _, _, _, _, _, _, _, _ => False
  | k + 1, a1, x2, A2, n2, m2, x3, x4, H =>
    let R4 := W_crc_More.l4 K k
    BIf (decide (x4 < x3)) (ixI x4 n2 (NN A2 fun a2 => Ld H (a2.add (x4.toNat * 1)) fun v2 => DI .u8 v2 fun x5 => (0 ≤ (4 : Int) ∧ ixI (bAnd .u32 (bXor .u32 x2 (IntKind.u32.wrap x5)) (15 : Int)) 16 (Ld H (a1.add ((bAnd .u32 (bXor .u32 x2 (IntKind.u32.wrap x5)) (15 : Int)).toNat * 1)) fun v3 => DI .u32 v3 fun x6 => (0 ≤ (4 : Int) ∧ ixI (bAnd .u32 (bXor .u32 (shrI .u32 (bXor .u32 x2 (IntKind.u32.wrap x5)) (4 : Int)) x6) (15 : Int)) 16 (Ld H (a1.add ((bAnd .u32 (bXor .u32 (shrI .u32 (bXor .u32 x2 (IntKind.u32.wrap x5)) (4 : Int)) x6) (15 : Int)).toNat * 1)) fun v4 => DI .u32 v4 fun x7 => R4 a1 (bXor .u32 (shrI .u32 (bXor .u32 (shrI .u32 (bXor .u32 x2 (IntKind.u32.wrap x5)) (4 : Int)) x6) (4 : Int)) x7) A2 n2 m2 x3 (IntKind.i64.wrap (x4 + (1 : Int))) H)))))) (K (.int .u32 (bXor .u32 IntKind.u32.max x2)) H)
def W_crc_More (x1 : Int) (A1 : Option Addr) (n1 : Nat) (m1 : Nat) (H : Hp) (K : Value → Hp → Prop) : Prop :=
  HCalls Tryz.prog 196 #[] H fun v1 H1 => DA v1 fun y1 => Nw H1 (.obj (.cells #[.int .u32 0, .int .u32 0, .int .u32 0, .int .u32 0, .int .u32 0, .int .u32 0, .int .u32 0, .int .u32 0, .int .u32 0, .int .u32 0, .int .u32 0, .int .u32 0, .int .u32 0, .int .u32 0, .int .u32 0, .int .u32 0] 288)) fun b1 H2 => StA H2 (⟨b1, 0, none⟩ : Addr) y1 16 fun H3 => (∃ k, W_crc_More.l4 K k (⟨b1, 0, none⟩ : Addr) (bXor .u32 IntKind.u32.max x1) A1 n1 m1 ((n1 : Nat) : Int) (0 : Int) H3)
def W_crc_More.l4.L (K : Value → Hp → Prop) (k : Nat) : Mid := fun E D H =>
  eN E 5 fun a1 => eI E 6 .u32 fun x2 => DG (E.get? 12) fun w12 => DSl w12 fun A2 n2 m2 => eI E 13 .i64 fun x3 => eI E 14 .i64 fun x4 => DNilD D (W_crc_More.l4 K k a1 x2 A2 n2 m2 x3 x4 H)
def W_crc_More.Λ4 (_ : Value → Hp → Prop) (_R4 : Addr → Int → Option Addr → Nat → Nat → Int → Int → Hp → Prop) : Cuts := Cuts.none (fun _ => none)
def W_crc_More.Λ (K : Value → Hp → Prop) : Cuts := ⟨fun i => none, fun i => match Nat.beq i 4 with | true => some (fun E D H => ∃ k, W_crc_More.l4.L K k E D H) | false => none, (fun _ => none)⟩
theorem W_crc_More.ok (x1 : Int) (A1 : Option Addr) (n1 : Nat) (m1 : Nat) (H : Hp) (K : Value → Hp → Prop) (h : W_crc_More x1 A1 n1 m1 H K) : HCalls Tryz.prog 166 #[.int .u32 x1, .slice A1 n1 m1] H K :=
  hcalls Tryz.func166 rfl (Nat.le_of_ble_eq_true rfl) (hw_safe (Λ := (W_crc_More.Λ K)) mixWcrc _ _ _ _ _ (Eq.mp (by kernel_rfl) h) (obs_seq obs_region rfl (obs_seq obs_region rfl (obs_seq obs_region rfl (obs_seq (obs_seq obs_region rfl (obs_block (obs_loop rfl (fun E D H h => by
      refine Safe.loop' (W_crc_More.l4.L K) (fun E D H h => ?_) (fun k E D H h => ?_) E D H h
      · obtain ⟨w5, e5, g1⟩ := DG.out h; obtain ⟨pw5, rfl, g2⟩ := DP.out g1; obtain ⟨a1, rfl, g3⟩ := NN.out g2; obtain ⟨w6, e6, g4⟩ := DG.out g3; obtain ⟨x2, rfl, g5⟩ := DI.out g4; obtain ⟨w12, e12, g6⟩ := DG.out g5; obtain ⟨A2, n2, m2, rfl, g7⟩ := DSl.out g6; obtain ⟨w13, e13, g8⟩ := DG.out g7; obtain ⟨x3, rfl, g9⟩ := DI.out g8; obtain ⟨w14, e14, g10⟩ := DG.out g9; obtain ⟨x4, rfl, g11⟩ := DI.out g10; obtain ⟨rfl, h'⟩ := DNilD.out g11; exact h'
      · obtain ⟨a1, e5, g3⟩ := GN h
        obtain ⟨x2, e6, g5⟩ := GI g3
        obtain ⟨w12, e12, g6⟩ := DG.out g5
        obtain ⟨A2, n2, m2, rfl, g7⟩ := DSl.out g6
        obtain ⟨x3, e13, g9⟩ := GI g7; obtain ⟨x4, e14, g11⟩ := GI g9; obtain ⟨rfl, h'⟩ := DNilD.out g11
        exact (hw_safe (Λ := (W_crc_More.Λ4 K (W_crc_More.l4 K k))) mixWcrc _ _ [(5, .pointer (some a1)), (6, .int .u32 x2), (12, .slice A2 n2 m2), (13, .int .i64 x3), (14, .int .i64 x4)] [] H (Eq.mp (by kernel_rfl) h') (obs_seq obs_region rfl (obs_seq (obs_cond obs_skip obs_exit) rfl (obs_seq (obs_block (obs_seq obs_region rfl (obs_seq obs_region rfl (obs_seq obs_region rfl obs_region)))) rfl obs_region)))).weaken (EnvLe.cons e5 (EnvLe.cons e6 (EnvLe.cons e12 (EnvLe.cons e13 (EnvLe.cons e14 (EnvLe.nil _)))))) (Hp.le_refl _))))) rfl (obs_seq obs_region rfl obs_ret))))))
def W_crc_Of (A1 : Option Addr) (n1 : Nat) (m1 : Nat) (H : Hp) (K : Value → Hp → Prop) : Prop :=
  HCalls Tryz.prog 166 #[.int .u32 0, .slice A1 n1 m1] H fun v1 H1 => DI .u32 v1 fun x1 => K (.int .u32 x1) H1
theorem W_crc_Of.ok (A1 : Option Addr) (n1 : Nat) (m1 : Nat) (H : Hp) (K : Value → Hp → Prop) (h : W_crc_Of A1 n1 m1 H K) : HCalls Tryz.prog 174 #[.slice A1 n1 m1] H K :=
  hcalls Tryz.func174 rfl (Nat.le_of_ble_eq_true rfl) (hw_safe (Λ := Cuts.none (fun _ => none)) mixWcrc _ _ _ _ _ (Eq.mp (by kernel_rfl) h) (obs_none _ _ _ _ _))
def W_crc_nibbles.l6 (K : Value → Hp → Prop) (R2 : Addr → Int → Hp → Prop) : Nat → Addr → Int → Int → Int → Int → Hp → Prop
  | 0, _, _, _, _, _, _ => False
  | k + 1, a2, x2, x3, x4, x5, H =>
    let R6 := W_crc_nibbles.l6 K R2 k
    BIf (decide (x5 < (4 : Int))) ((0 ≤ (1 : Int) ∧ R6 a2 x2 (bXor .u32 (shrI .u32 x3 (1 : Int)) (IntKind.u32.wrap ((2197175160 : Int) * (bAnd .u32 x3 (1 : Int))))) x4 (IntKind.i64.wrap (x5 + (1 : Int))) H)) (ixI x2 16 (St H ((a2.add (x2.toNat * 1)).add 0) (.int .u32 x3) fun H2 => R2 a2 (IntKind.i64.wrap (x4 + (1 : Int))) H2))
def W_crc_nibbles.l2 (K : Value → Hp → Prop) : Nat → Addr → Int → Hp → Prop
  | 0, _, _, _ => False
  | k + 1, a1, x1, H =>
    let R2 := W_crc_nibbles.l2 K k
    BIf (decide (x1 < (16 : Int))) ((∃ k, W_crc_nibbles.l6 K R2 k a1 x1 (IntKind.u32.wrap x1) x1 (0 : Int) H)) (LdA H a1 16 fun l1 => StA H a1 l1.toArray 16 fun H3 => LdA H3 a1 16 fun l2 => K (.agg l2.toArray) H3)
def W_crc_nibbles (H : Hp) (K : Value → Hp → Prop) : Prop :=
  Nw H (.obj (.cells #[.int .u32 0, .int .u32 0, .int .u32 0, .int .u32 0, .int .u32 0, .int .u32 0, .int .u32 0, .int .u32 0, .int .u32 0, .int .u32 0, .int .u32 0, .int .u32 0, .int .u32 0, .int .u32 0, .int .u32 0, .int .u32 0] 288)) fun b1 H1 => (∃ k, W_crc_nibbles.l2 K k (⟨b1, 0, none⟩ : Addr) (0 : Int) H1)
def W_crc_nibbles.l2.L (K : Value → Hp → Prop) (k : Nat) : Mid := fun E D H =>
  eN E 0 fun a1 => eI E 3 .i64 fun x1 => DNilD D (W_crc_nibbles.l2 K k a1 x1 H)
def W_crc_nibbles.l6.L (K : Value → Hp → Prop) (R2 : Addr → Int → Hp → Prop) (k : Nat) : Mid := fun E D H =>
  eN E 0 fun a2 => eI E 1 .i64 fun x2 => eI E 2 .u32 fun x3 => eI E 3 .i64 fun x4 => eI E 8 .i64 fun x5 => DNilD D (W_crc_nibbles.l6 K R2 k a2 x2 x3 x4 x5 H)
def W_crc_nibbles.Λ6 (_ : Value → Hp → Prop) (_R2 : Addr → Int → Hp → Prop) (_R6 : Addr → Int → Int → Int → Int → Hp → Prop) : Cuts := Cuts.none (fun _ => none)
def W_crc_nibbles.Λ2 (K : Value → Hp → Prop) (R2 : Addr → Int → Hp → Prop) : Cuts := ⟨fun i => none, fun i => match Nat.beq i 6 with | true => some (fun E D H => ∃ k, W_crc_nibbles.l6.L K R2 k E D H) | false => none, (fun _ => none)⟩
def W_crc_nibbles.Λ (K : Value → Hp → Prop) : Cuts := ⟨fun i => none, fun i => match Nat.beq i 2 with | true => some (fun E D H => ∃ k, W_crc_nibbles.l2.L K k E D H) | false => none, (fun _ => none)⟩
theorem W_crc_nibbles.ok (H : Hp) (K : Value → Hp → Prop) (h : W_crc_nibbles H K) : HCalls Tryz.prog 196 #[] H K :=
  hcalls Tryz.func196 rfl (Nat.le_of_ble_eq_true rfl) (hw_safe (Λ := (W_crc_nibbles.Λ K)) mixWcrc _ _ _ _ _ (Eq.mp (by kernel_rfl) h) (obs_seq obs_region rfl (obs_seq (obs_seq obs_region rfl (obs_block (obs_loop rfl (fun E D H h => by
      refine Safe.loop' (W_crc_nibbles.l2.L K) (fun E D H h => ?_) (fun k E D H h => ?_) E D H h
      · obtain ⟨w0, e0, g1⟩ := DG.out h; obtain ⟨pw0, rfl, g2⟩ := DP.out g1; obtain ⟨a1, rfl, g3⟩ := NN.out g2; obtain ⟨w3, e3, g4⟩ := DG.out g3; obtain ⟨x1, rfl, g5⟩ := DI.out g4; obtain ⟨rfl, h'⟩ := DNilD.out g5; exact h'
      · obtain ⟨a1, e0, g3⟩ := GN h
        obtain ⟨x1, e3, g5⟩ := GI g3
        obtain ⟨rfl, h'⟩ := DNilD.out g5
        exact (hw_safe (Λ := (W_crc_nibbles.Λ2 K (W_crc_nibbles.l2 K k))) mixWcrc _ _ [(0, .pointer (some a1)), (3, .int .i64 x1)] [] H (Eq.mp (by kernel_rfl) h') (obs_seq obs_region rfl (obs_seq (obs_cond obs_skip obs_exit) rfl (obs_seq (obs_block (obs_seq obs_region rfl (obs_seq obs_region rfl (obs_seq (obs_seq obs_region rfl (obs_block (obs_loop rfl (fun E D H h => by
            refine Safe.loop' (W_crc_nibbles.l6.L K (W_crc_nibbles.l2 K k)) (fun E D H h => ?_) (fun k E D H h => ?_) E D H h
            · obtain ⟨w0, e0, g1⟩ := DG.out h; obtain ⟨pw0, rfl, g2⟩ := DP.out g1; obtain ⟨a2, rfl, g3⟩ := NN.out g2; obtain ⟨w1, e1, g4⟩ := DG.out g3; obtain ⟨x2, rfl, g5⟩ := DI.out g4; obtain ⟨w2, e2, g6⟩ := DG.out g5; obtain ⟨x3, rfl, g7⟩ := DI.out g6; obtain ⟨w3, e3, g8⟩ := DG.out g7; obtain ⟨x4, rfl, g9⟩ := DI.out g8; obtain ⟨w8, e8, g10⟩ := DG.out g9; obtain ⟨x5, rfl, g11⟩ := DI.out g10; obtain ⟨rfl, h'⟩ := DNilD.out g11; exact h'
            · obtain ⟨a2, e0, g3⟩ := GN h
              obtain ⟨x2, e1, g5⟩ := GI g3; obtain ⟨x3, e2, g7⟩ := GI g5; obtain ⟨x4, e3, g9⟩ := GI g7; obtain ⟨x5, e8, g11⟩ := GI g9; obtain ⟨rfl, h'⟩ := DNilD.out g11
              exact (hw_safe (Λ := (W_crc_nibbles.Λ6 K (W_crc_nibbles.l2 K k) (W_crc_nibbles.l6 K (W_crc_nibbles.l2 K k) k))) mixWcrc _ _ [(0, .pointer (some a2)), (1, .int .i64 x2), (2, .int .u32 x3), (3, .int .i64 x4), (8, .int .i64 x5)] [] H (Eq.mp (by kernel_rfl) h') (obs_seq obs_region rfl (obs_seq (obs_cond obs_skip obs_exit) rfl (obs_seq (obs_block obs_region) rfl obs_region)))).weaken (EnvLe.cons e0 (EnvLe.cons e1 (EnvLe.cons e2 (EnvLe.cons e3 (EnvLe.cons e8 (EnvLe.nil _)))))) (Hp.le_refl _))))) rfl obs_region)))) rfl obs_region)))).weaken (EnvLe.cons e0 (EnvLe.cons e3 (EnvLe.nil _))) (Hp.le_refl _))))) rfl (obs_seq obs_region rfl obs_ret))))
end Go.Proofs.YtnknippcbecmeaaGreatDoor.W
end
