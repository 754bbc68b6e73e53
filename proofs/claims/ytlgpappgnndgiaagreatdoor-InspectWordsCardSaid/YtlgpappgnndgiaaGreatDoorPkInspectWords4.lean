import Derived.Test.YtlgpappgnndgiaaGreatDoorProg
import Derived.Test.YtlgpappgnndgiaaGreatDoorPkInspectWords3
section
/-! DskA -/
/- A disk as a part of memory: contracts of its functions. -/
set_option maxRecDepth 100000
set_option linter.unusedSimpArgs false
set_option linter.unusedVariables false
set_option linter.unnecessarySimpa false
set_option linter.unusedSectionVars false
namespace Go.Proofs.YtlgpappgnndgiaaGreatDoor.Dsk
open Go Go.Hw Go.Proofs.YtlgpappgnndgiaaGreatDoor.W

/-- What a disk is. -/
structure D where
  sec : Nat
  size : Nat
  safe : Int → Option (List UInt8)
  cache : Int → Option (List UInt8)
  tch : Int → Bool
  rd : Nat
  wr : Nat
  sy : Nat
  down : Bool
  fuse : Nat

def strV (l : List UInt8) : Value := .string ⟨l.toArray⟩
def strM (m : Int → Option (List UInt8)) : Int → Option Value := fun k => (m k).map strV
def tchM (m : Int → Bool) : Int → Option Value := fun k => if m k then some (.int .i64 1) else none
def dskO (d : D) (r1 r2 r3 : Nat) : AO := .obj (.cells #[.int .i64 d.sec, .int .i64 d.size, .map (some r1), .int .i64 d.rd, .int .i64 d.wr, .int .i64 d.sy, .map (some r2), .bool d.down, .int .i64 d.fuse, .map (some r3)] 54)

structure Ok (d : D) : Prop where
  sec : 1 ≤ d.sec ∧ d.sec ≤ 1048576
  size : 32 ≤ d.size ∧ d.size ≤ 4096
  big : d.sec * d.size ≤ 67108864
  per : d.size % 8 = 0
  safe : ∀ k b, d.safe k = some b → b.length = d.size
  cache : ∀ k b, d.cache k = some b → b.length = d.size
  fz : d.fuse ≤ 9223372036854775807

/-- A disk in memory. -/
def Dk (p : Nat) (d : D) : As := fun H => ∃ r1 r2 r3, Sep [pts p (dskO d r1 r2 r3), Mp r1 (strM d.safe), Mp r2 (tchM d.tch), Mp r3 (strM d.cache)] H

theorem Dk.up {p : Nat} {d : D} {H H' : Hp} (h : Dk p d H) (k : H.le H') : Dk p d H' := by
  obtain ⟨r1, r2, r3, h⟩ := h
  exact ⟨r1, r2, r3, h.up k⟩

theorem Sep.fold {M L : List As} {A : As} {H : Hp} (h : Sep (M ++ L) H) (k : ∀ H1, Sep M H1 → A H1) : Sep (A :: L) H := by
  obtain ⟨H1, H2, h1, h2, h3, h4, h5⟩ := h.append
  exact ⟨H1, H2, h1, h2, h3, k H1 h4, h5⟩

/-- A disk, opened. -/
theorem Dk.open {p : Nat} {d : D} {L : List As} {H : Hp} (h : Sep (Dk p d :: L) H) : ∃ r1 r2 r3, Sep (pts p (dskO d r1 r2 r3) :: Mp r1 (strM d.safe) :: Mp r2 (tchM d.tch) :: Mp r3 (strM d.cache) :: L) H := by
  obtain ⟨H1, H2, h1, h2, h3, ⟨r1, r2, r3, h4⟩, h5⟩ := h
  exact ⟨r1, r2, r3, Sep.join h1 h2 h3 h4 h5⟩
theorem Dk.shut {p : Nat} {d : D} {r1 r2 r3 : Nat} {L : List As} {H : Hp} (h : Sep (pts p (dskO d r1 r2 r3) :: Mp r1 (strM d.safe) :: Mp r2 (tchM d.tch) :: Mp r3 (strM d.cache) :: L) H) : Sep (Dk p d :: L) H :=
  Sep.fold (M := [pts p (dskO d r1 r2 r3), Mp r1 (strM d.safe), Mp r2 (tchM d.tch), Mp r3 (strM d.cache)]) h fun H1 h1 => ⟨r1, r2, r3, h1⟩

theorem Dk.see {p : Nat} {d : D} {L : List As} {H : Hp} (h : Sep L H) (i : Nat) (hi : L[i]? = some (Dk p d)) : ∃ r1 r2 r3, H p = some (dskO d r1 r2 r3) := by
  obtain ⟨H1, ⟨r1, r2, r3, h1⟩, hle⟩ := h.see i hi
  exact ⟨r1, r2, r3, hle _ _ (h1.get 0 rfl)⟩

section
variable {L : List As} {H : Hp} {p : Nat} {d : D}
theorem Sectors_s (h : Sep L H) (i : Nat) (hi : L[i]? = some (Dk p d)) : HCalls Tryz.prog 53 #[.pointer (some ⟨p, 0, none⟩)] H (RetE (.int .i64 (d.sec : Int)) H) := by
  obtain ⟨r1, r2, r3, hd⟩ := Dk.see h i hi
  apply W_disk_plates_Sectors.ok
  unfold W_disk_plates_Sectors
  simp only [NN_some, Addr.add_lit', Addr.add_zero, Nat.zero_add, Nat.add_zero]
  refine Ld_obj hd (v := .int .i64 d.sec) rfl ?_
  simp only [DI_int', DB_bool, DS_string, DP_pointer, DSl_slice, DM_map, DA_agg, DTup_tuple, DCons_cons, DNil_nil, NN_some, BIf_true, BIf_false, BIf_same, List.toList_toArray, Bool.not_true, Bool.not_false]
  exact RetE.mk _ _
theorem Size_s (h : Sep L H) (i : Nat) (hi : L[i]? = some (Dk p d)) : HCalls Tryz.prog 78 #[.pointer (some ⟨p, 0, none⟩)] H (RetE (.int .i64 (d.size : Int)) H) := by
  obtain ⟨r1, r2, r3, hd⟩ := Dk.see h i hi
  apply W_disk_plates_Size.ok
  unfold W_disk_plates_Size
  simp only [NN_some, Addr.add_lit', Addr.add_zero, Nat.zero_add, Nat.add_zero]
  refine Ld_obj hd (v := .int .i64 d.size) rfl ?_
  simp only [DI_int', DB_bool, DS_string, DP_pointer, DSl_slice, DM_map, DA_agg, DTup_tuple, DCons_cons, DNil_nil, NN_some, BIf_true, BIf_false, BIf_same, List.toList_toArray, Bool.not_true, Bool.not_false]
  exact RetE.mk _ _
theorem Down_s (h : Sep L H) (i : Nat) (hi : L[i]? = some (Dk p d)) : HCalls Tryz.prog 29 #[.pointer (some ⟨p, 7, none⟩)] H (RetE (.bool d.down) H) := by
  obtain ⟨r1, r2, r3, hd⟩ := Dk.see h i hi
  apply W_disk_power_Down.ok
  unfold W_disk_power_Down
  simp only [NN_some, Addr.add_lit', Addr.add_zero, Nat.zero_add, Nat.add_zero]
  refine Ld_obj hd (v := .bool d.down) rfl ?_
  simp only [DI_int', DB_bool, DS_string, DP_pointer, DSl_slice, DM_map, DA_agg, DTup_tuple, DCons_cons, DNil_nil, NN_some, BIf_true, BIf_false, BIf_same, List.toList_toArray, Bool.not_true, Bool.not_false]
  exact RetE.mk _ _
theorem Count_s (h : Sep L H) (i : Nat) (hi : L[i]? = some (Dk p d)) : HCalls Tryz.prog 14 #[.pointer (some ⟨p, 3, none⟩)] H (RetE (.agg #[.int .i64 (d.rd : Int), .int .i64 (d.wr : Int), .int .i64 (d.sy : Int)]) H) := by
  obtain ⟨r1, r2, r3, hd⟩ := Dk.see h i hi
  apply HCalls.ret
  apply W_disk_counts_Count.ok
  unfold W_disk_counts_Count
  refine (Sep.start H).nw fun b1 H' hs => ?_
  simp only [NN_some, Addr.add_lit', Addr.add_zero, Nat.zero_add, Nat.add_zero]
  refine LdA_at (hs.ow 0 rfl _ _ hd) (off := 3) (n := 3) (by show 3 + 3 ≤ 10; omega) ?_
  refine hs.stw 1 rfl rfl rfl rfl fun H' hs => ?_
  refine hs.ldw 1 rfl rfl ?_
  exact hs.fin 0 rfl _

/-- What is wrong with a sector. -/
def D.chk (d : D) (i : Int) : Int := if d.down then 8 else if i < 0 ∨ i ≥ d.sec then 2 else 0

theorem check_s (h : Sep L H) (i : Nat) (hi : L[i]? = some (Dk p d)) (x : Int) : HCalls Tryz.prog 83 #[.pointer (some ⟨p, 0, none⟩), .int .i64 x] H (RetE (.int .i64 (d.chk x)) H) := by
  obtain ⟨r1, r2, r3, hd⟩ := Dk.see h i hi
  apply W_disk_Disk_check.ok
  unfold W_disk_Disk_check
  simp only [NN_some, Addr.add_lit', Addr.add_zero, Nat.zero_add, Nat.add_zero]
  refine Ld_obj hd (v := .bool d.down) rfl ?_
  simp only [DI_int', DB_bool, DS_string, DP_pointer, DSl_slice, DM_map, DA_agg, DTup_tuple, DCons_cons, DNil_nil, NN_some, BIf_true, BIf_false, BIf_same, List.toList_toArray, Bool.not_true, Bool.not_false]
  unfold D.chk
  cases d.down with
  | true => exact RetE.mk _ _
  | false =>
    simp only [DI_int', DB_bool, DS_string, DP_pointer, DSl_slice, DM_map, DA_agg, DTup_tuple, DCons_cons, DNil_nil, NN_some, BIf_true, BIf_false, BIf_same, List.toList_toArray, Bool.not_true, Bool.not_false]
    rw [if_neg (by simp)]
    by_cases h1 : x < 0
    · rw [if_pos (.inl h1)]; exact BIf_dpos h1 (RetE.mk _ _)
    · refine BIf_dneg h1 ?_
      refine Ld_obj hd (v := .int .i64 d.sec) rfl ?_
      simp only [DI_int', DB_bool, DS_string, DP_pointer, DSl_slice, DM_map, DA_agg, DTup_tuple, DCons_cons, DNil_nil, NN_some, BIf_true, BIf_false, BIf_same, List.toList_toArray, Bool.not_true, Bool.not_false]
      by_cases h2 : x ≥ d.sec
      · rw [if_pos (.inr h2)]; exact BIf_dpos h2 (RetE.mk _ _)
      · rw [if_neg (by omega)]; exact BIf_dneg h2 (RetE.mk _ _)
end

/-- An operation is counted down. -/
def D.burnt (d : D) : D := if d.fuse = 0 then d else { d with fuse := d.fuse - 1, down := decide (d.fuse = 1) }
def D.burns (d : D) : Bool := decide (d.fuse = 1)

theorem burns_tr {p : Nat} {d : D} (hf : d.fuse ≤ 9223372036854775807) : Tr Tryz.prog 84 #[.pointer (some ⟨p, 7, none⟩)] [Dk p d] fun v M => v = .bool d.burns ∧ M = [Dk p d.burnt] := fun H hs => by
  obtain ⟨r1, r2, r3, hs⟩ := Dk.open hs
  apply W_disk_power_burns.ok
  unfold W_disk_power_burns
  simp only [NN_some, Addr.add_lit', Addr.add_zero, Nat.zero_add, Nat.add_zero]
  refine hs.ld 0 rfl rfl ?_
  simp only [DI_int', DB_bool, DS_string, DP_pointer, DSl_slice, DM_map, DA_agg, DTup_tuple, DCons_cons, DNil_nil, NN_some, BIf_true, BIf_false, BIf_same, List.toList_toArray, Bool.not_true, Bool.not_false]
  by_cases h0 : d.fuse = 0
  · refine BIf_beqp (by omega) ⟨_, ⟨?_, rfl⟩, ?_⟩
    · unfold D.burns; rw [h0]; rfl
    · have : d.burnt = d := by unfold D.burnt; rw [if_pos h0]
      rw [this]; exact Dk.shut hs
  · refine BIf_beqn (by omega) ?_
    refine hs.ld 0 rfl rfl ?_
    simp only [DI_int', DB_bool, DS_string, DP_pointer, DSl_slice, DM_map, DA_agg, DTup_tuple, DCons_cons, DNil_nil, NN_some, BIf_true, BIf_false, BIf_same, List.toList_toArray, Bool.not_true, Bool.not_false]
    refine hs.st 0 rfl (by show 8 < 10; omega) rfl fun H hs => ?_
    refine hs.ld 0 rfl rfl ?_
    simp only [DI_int', DB_bool, DS_string, DP_pointer, DSl_slice, DM_map, DA_agg, DTup_tuple, DCons_cons, DNil_nil, NN_some, BIf_true, BIf_false, BIf_same, List.toList_toArray, Bool.not_true, Bool.not_false]
    rw [i64w (x := (d.fuse : Int) - 1) (by omega) (by omega)] at hs ⊢
    refine hs.st 0 rfl (by show 7 < 10; omega) rfl fun H hs => ?_
    refine hs.ld 0 rfl rfl ?_
    simp only [DI_int', DB_bool, DS_string, DP_pointer, DSl_slice, DM_map, DA_agg, DTup_tuple, DCons_cons, DNil_nil, NN_some, BIf_true, BIf_false, BIf_same, List.toList_toArray, Bool.not_true, Bool.not_false]
    have e : ((d.fuse : Int) - 1 == 0) = d.burns := by
      unfold D.burns
      by_cases h1 : d.fuse = 1
      · simp [h1]
      · rw [decide_eq_false h1]; simp; omega
    rw [e] at hs ⊢
    refine ⟨_, ⟨rfl, rfl⟩, ?_⟩
    have hb : d.burnt = { d with fuse := d.fuse - 1, down := d.burns } := by unfold D.burnt; rw [if_neg h0]; rfl
    rw [hb]
    refine Dk.shut (r1 := r1) (r2 := r2) (r3 := r3) ?_
    have ef : ((d.fuse - 1 : Nat) : Int) = (d.fuse : Int) - 1 := by omega
    unfold dskO
    simp only [ef]
    exact hs

end Go.Proofs.YtlgpappgnndgiaaGreatDoor.Dsk

end
section
/-! DskB -/
/- disk: New, Read, Write, Sync. -/
set_option maxRecDepth 100000
set_option linter.unusedSimpArgs false
set_option linter.unusedVariables false
set_option linter.unnecessarySimpa false
set_option linter.unusedSectionVars false

namespace Go.Proofs.YtlgpappgnndgiaaGreatDoor.Dsk
open Go Go.Hw Go.Proofs.YtlgpappgnndgiaaGreatDoor.W

theorem u_int : Tryz.prog.underlying 3 = some (.int .i64) := by kernel_rfl
theorem u_strm : Tryz.prog.underlying 45 = some (.map 3 9) := by kernel_rfl
theorem u_intm : Tryz.prog.underlying 48 = some (.map 3 3) := by kernel_rfl
theorem z_str : ∃ j, Tryz.prog.info? 9 = some j ∧ j.zero = some (.string ByteArray.empty) := by
  have h : (Tryz.prog.info? 9).map (·.zero) = some (some (.string ByteArray.empty)) := by kernel_rfl
  obtain ⟨j, hj, h2⟩ := Option.map_eq_some_iff.1 h
  exact ⟨j, hj, h2⟩
theorem c_u8 : cellInfo Tryz.prog 5 = some (1, 1, some #[.int .u8 0]) := by kernel_rfl

def D.fresh (sec size : Nat) : D := ⟨sec, size, fun _ => none, fun _ => none, fun _ => false, 0, 0, 0, false, 0⟩
/-- A sector's bytes, as they are safe, and as they are read. -/
def D.sat (d : D) (i : Int) : List UInt8 := (d.safe i).getD (List.replicate d.size 0)
def D.now (d : D) (i : Int) : List UInt8 := (d.cache i).getD (d.sat i)

theorem Ok.sat {d : D} (h : Ok d) (i : Int) : (d.sat i).length = d.size := by
  unfold D.sat
  cases e : d.safe i with
  | none => simp
  | some b => exact h.safe i b e
theorem Ok.now {d : D} (h : Ok d) (i : Int) : (d.now i).length = d.size := by
  unfold D.now
  cases e : d.cache i with
  | none => exact h.sat i
  | some b => exact h.cache i b e
theorem Ok.burnt {d : D} (h : Ok d) : Ok d.burnt := by
  unfold D.burnt
  split
  · exact h
  · exact ⟨h.sec, h.size, h.big, h.per, h.safe, h.cache, Nat.le_trans (Nat.sub_le _ _) h.fz⟩
theorem Ok.fresh {sec size : Nat} (h1 : 1 ≤ sec ∧ sec ≤ 1048576) (h2 : 0 < Lay.perN size) (h3 : sec * size ≤ 67108864) : Ok (D.fresh sec size) := by
  have h : size = 32 ∨ size = 64 ∨ size = 128 ∨ size = 256 ∨ size = 512 ∨ size = 1024 ∨ size = 2048 ∨ size = 4096 := by
    unfold Lay.perN at h2
    repeat' split at h2
    all_goals omega
  refine ⟨h1, ?_, h3, ?_, fun k b h => (by cases h), fun k b h => (by cases h), Nat.zero_le _⟩
  · show 32 ≤ size ∧ size ≤ 4096; omega
  · show size % 8 = 0; omega

theorem New_tr (sec size : Nat) (h1 : 1 ≤ sec ∧ sec ≤ 1048576) (h2 : 0 < Lay.perN size) (h3 : sec * size ≤ 67108864) : Tr Tryz.prog 23 #[.int .i64 sec, .int .i64 size] [] fun v M => ∃ p, v = .pointer (some ⟨p, 0, none⟩) ∧ M = [Dk p (D.fresh sec size)] := fun H hs => by
  apply W_disk_New.ok
  unfold W_disk_New
  have h32 : ¬ ((size : Int) < 32) := fun h => by rw [Lay.perN_small h] at h2; omega
  have h40 : ¬ ((size : Int) > 4096) := fun h => by rw [Lay.perN_great h] at h2; omega
  refine BIf_dneg (by omega) (BIf_dneg (by omega) (BIf_dneg h32 (BIf_dneg h40 ?_)))
  have ht := List.all_eq_true.1 Lay.pow_table size (by simp; omega)
  rw [if_pos (by omega)] at ht
  rw [show ((size : Int) - 1) = ((size - 1 : Nat) : Int) by omega, i64w (by omega) (by omega), Lay.bAnd_nat (by omega) (by omega)]
  split at ht
  · rename_i h4
    simp only [beq_iff_eq] at h4
    rw [h4]
    refine BIf_bnen rfl ⟨by omega, rfl, ?_⟩
    rw [show Int.tdiv 67108864 (size : Int) = ((67108864 / size : Nat) : Int) from rfl]
    have hd : sec ≤ 67108864 / size := (Nat.le_div_iff_mul_le (by omega)).2 h3
    have hle : 67108864 / size ≤ 67108864 := Nat.div_le_self _ _
    rw [i64n (by omega)]
    refine BIf_dneg (by omega) ?_
    refine hs.nw fun b1 H hs => ?_
    have hs := Mp.new hs
    refine hs.nw fun b2 H hs => ?_
    have hs := Mp.new hs
    refine hs.nw fun b3 H hs => ?_
    have hs := Mp.new hs
    refine hs.nw fun b4 H hs => ?_
    refine ⟨_, ⟨b4, rfl, rfl⟩, Dk.shut (r1 := b1) (r2 := b2) (r3 := b3) (hs.re [3, 0, 1, 2] rfl)⟩
  · simp only [beq_iff_eq] at ht
    omega

theorem New_no (sec size : Int) (h : sec < 1 ∨ sec > 1048576 ∨ Lay.perN size = 0) (H : Hp) : HCalls Tryz.prog 23 #[.int .i64 sec, .int .i64 size] H (RetE (.pointer none) H) := by
  apply W_disk_New.ok
  unfold W_disk_New
  rw [BIf_decide, BIf_decide, BIf_decide, BIf_decide]
  split
  · exact RetE.mk _ _
  split
  · exact RetE.mk _ _
  split
  · exact RetE.mk _ _
  split
  · exact RetE.mk _ _
  obtain ⟨n, rfl⟩ := Int.eq_ofNat_of_zero_le (show 0 ≤ size by omega)
  have ht := List.all_eq_true.1 Lay.pow_table n (by simp; omega)
  rw [if_pos (by omega)] at ht
  rw [show ((n : Int) - 1) = ((n - 1 : Nat) : Int) by omega, i64w (by omega) (by omega), Lay.bAnd_nat (by omega) (by omega)]
  split at ht
  · simp only [Bool.and_eq_true, bne_iff_ne] at ht
    omega
  · rename_i h4
    simp only [beq_iff_eq] at h4
    exact BIf_bnep (by omega) (RetE.mk _ _)

theorem get_tr {p : Nat} {d : D} (hok : Ok d) (i : Int) : Tr Tryz.prog 119 #[.pointer (some ⟨p, 0, none⟩), .int .i64 i] [Dk p d] fun v M => ∃ b, v = .slice (some ⟨b, 0, none⟩) d.size d.size ∧ M = [Dk p d, pts b (.row (byteVals (d.sat i)) 5 d.size)] := fun H hs => by
  obtain ⟨r1, r2, r3, hs⟩ := Dk.open hs
  obtain ⟨jz, hz1, hz2⟩ := z_str
  have hsz := hok.size
  apply W_disk_plates_get.ok
  unfold W_disk_plates_get
  simp only [NN_some, Addr.add_lit', Addr.add_zero, Nat.zero_add, Nat.add_zero]
  refine hs.ld 0 rfl rfl ?_
  simp only [DI_int', DB_bool, DS_string, DP_pointer, DSl_slice, DM_map, DA_agg, DTup_tuple, DCons_cons, DNil_nil, NN_some, BIf_true, BIf_false, BIf_same, List.toList_toArray, Bool.not_true, Bool.not_false]
  refine hs.mks c_u8 rfl (n := d.size) (m := d.size) rfl rfl (Nat.le_refl _) (by omega) (by omega) fun b H hs => ?_
  simp only [DI_int', DB_bool, DS_string, DP_pointer, DSl_slice, DM_map, DA_agg, DTup_tuple, DCons_cons, DNil_nil, NN_some, BIf_true, BIf_false, BIf_same, List.toList_toArray, Bool.not_true, Bool.not_false]
  refine hs.ld 0 rfl rfl ?_
  simp only [DI_int', DB_bool, DS_string, DP_pointer, DSl_slice, DM_map, DA_agg, DTup_tuple, DCons_cons, DNil_nil, NN_some, BIf_true, BIf_false, BIf_same, List.toList_toArray, Bool.not_true, Bool.not_false]
  obtain ⟨H1, ⟨l, clock, hr1, hgk⟩, hle⟩ := hs.see 1 rfl
  refine lookupK u_int u_strm hz1 hz2 (hle _ _ hr1) false ?_
  rw [hgk.get]
  have e : ∀ bs : List UInt8, (bs.length = d.size ∨ bs = []) → setAt (zeroRow [.int .u8 0] d.size) 0 (byteVals bs) = byteVals (if bs = [] then List.replicate d.size 0 else bs) := fun bs hb => by
    rw [zeroRow_one]
    rcases hb with hb | rfl
    · rw [setAt_all (by rw [byteVals_length, List.length_replicate]; exact hb), if_neg (fun e => by rw [e] at hb; simp at hb; omega)]
    · rw [show byteVals [] = [] from rfl, setAt_nil, if_pos rfl]
      simp [byteVals]
  have fin : ∀ bs : List UInt8, (bs.length = d.size ∨ bs = []) → (if bs = [] then List.replicate d.size 0 else bs) = d.sat i →
      CpK Tryz.prog 5 (.slice (some ⟨b, 0, none⟩) d.size d.size) (.string ⟨bs.toArray⟩) H fun v5 H2 => DI .i64 v5 fun x3 => ∃ M, (∃ b', (.slice (some ⟨b, 0, none⟩) d.size d.size : Value) = .slice (some ⟨b', 0, none⟩) d.size d.size ∧ M = [Dk p d, pts b' (.row (byteVals (d.sat i)) 5 d.size)]) ∧ Sep M H2 := fun bs hb hsat => by
    have hlb : bs.length ≤ d.size := by rcases hb with hb | rfl <;> simp_all
    refine hs.cp 4 (k := bs.length) (ys := byteVals bs) rfl c_u8 rfl ?_ (by rw [byteVals_length, zeroRow_length]; simp; omega) (fun y hy => ?_) fun H hs => ?_
    · rw [show Nat.min bs.length d.size = bs.length from Nat.min_eq_left hlb]
      show some (byteVals ((⟨bs.toArray⟩ : ByteArray).extract 0 bs.length).data.toList) = _
      congr 2
      simp [ByteArray.extract, ByteArray.copySlice]
    · obtain ⟨x, _, rfl⟩ := List.mem_map.1 hy; rfl
    · simp only [DI_int', DB_bool, DS_string, DP_pointer, DSl_slice, DM_map, DA_agg, DTup_tuple, DCons_cons, DNil_nil, NN_some, BIf_true, BIf_false, BIf_same, List.toList_toArray, Bool.not_true, Bool.not_false]
      refine ⟨_, ⟨b, rfl, rfl⟩, ?_⟩
      rw [e bs hb, hsat, Nat.mul_one] at hs
      exact Dk.shut (hs.re [0, 1, 2, 3, 4] rfl)
  unfold strM
  cases hsf : d.safe i with
  | none =>
    exact fin [] (.inr rfl) (by unfold D.sat; rw [hsf]; rfl)
  | some bs =>
    have := hok.safe i bs hsf
    exact fin bs (.inl this) (by unfold D.sat; rw [hsf, if_neg (fun e => by rw [e] at this; simp at this; omega)]; rfl)

/-- What a read answers. -/
def readQ (p : Nat) (d : D) (i : Int) (v : Value) (M : List As) : Prop :=
  (d.chk i ≠ 0 ∧ v = .tuple #[.slice none 0 0, .int .i64 (d.chk i)] ∧ M = [Dk p d]) ∨
  (d.chk i = 0 ∧ d.burns = true ∧ v = .tuple #[.slice none 0 0, .int .i64 8] ∧ M = [Dk p d.burnt]) ∨
  (d.chk i = 0 ∧ d.burns = false ∧ ∃ b c m, v = .tuple #[.slice (some ⟨b, 0, none⟩) d.size c, .int .i64 0] ∧ d.size ≤ c ∧ M = [Dk p { d.burnt with rd := d.rd + 1 }, pts b (.row (byteVals (d.now i)) 5 m)])

theorem burnt_rd (d : D) : d.burnt.rd = d.rd ∧ d.burnt.wr = d.wr ∧ d.burnt.sy = d.sy ∧ d.burnt.size = d.size ∧ d.burnt.sec = d.sec ∧ d.burnt.safe = d.safe ∧ d.burnt.cache = d.cache ∧ d.burnt.tch = d.tch := by
  unfold D.burnt; split <;> simp

theorem Read_tr {p : Nat} {d : D} (hok : Ok d) (ho : d.rd ≤ 4611686018427387904) (i : Int) : Tr Tryz.prog 71 #[.pointer (some ⟨p, 0, none⟩), .int .i64 i] [Dk p d] (readQ p d i) := fun H hs => by
  obtain ⟨jz, hz1, hz2⟩ := z_str
  have hsz := hok.size
  have hf := hok.fz
  apply W_disk_Disk_Read.ok
  unfold W_disk_Disk_Read
  simp only [NN_some, Addr.add_lit', Addr.add_zero, Nat.zero_add, Nat.add_zero]
  refine HCalls.use (check_s hs 0 rfl i) ?_
  try simp only [DI_int', DB_bool, DS_string, DP_pointer, DSl_slice, DM_map, DA_agg, DTup_tuple, DCons_cons, DNil_nil, NN_some, BIf_true, BIf_false, BIf_same, List.toList_toArray, Bool.not_true, Bool.not_false]
  by_cases hc : d.chk i = 0
  · refine BIf_bnen hc ?_
    refine (burns_tr hf).use hs [0] rfl rfl ?_
    rintro _ _ H ⟨rfl, rfl⟩ hs
    simp only [DI_int', DB_bool, DS_string, DP_pointer, DSl_slice, DM_map, DA_agg, DTup_tuple, DCons_cons, DNil_nil, NN_some, BIf_true, BIf_false, BIf_same, List.toList_toArray, Bool.not_true, Bool.not_false]
    cases hb : d.burns with
    | true => exact ⟨_, .inr (.inl ⟨hc, hb, rfl, rfl⟩), hs⟩
    | false =>
      simp only [DI_int', DB_bool, DS_string, DP_pointer, DSl_slice, DM_map, DA_agg, DTup_tuple, DCons_cons, DNil_nil, NN_some, BIf_true, BIf_false, BIf_same, List.toList_toArray, Bool.not_true, Bool.not_false]
      have hbr := burnt_rd d
      obtain ⟨r1, r2, r3, hs⟩ := Dk.open (L := []) hs
      refine hs.ld 0 rfl rfl ?_
      simp only [DI_int', DB_bool, DS_string, DP_pointer, DSl_slice, DM_map, DA_agg, DTup_tuple, DCons_cons, DNil_nil, NN_some, BIf_true, BIf_false, BIf_same, List.toList_toArray, Bool.not_true, Bool.not_false]
      refine hs.st 0 rfl (by show 3 < 10; omega) rfl fun H hs => ?_
      rw [hbr.1] at hs
      rw [i64w (x := (d.rd : Int) + 1) (by omega) (by omega)] at hs
      refine hs.ld 0 rfl rfl ?_
      simp only [DI_int', DB_bool, DS_string, DP_pointer, DSl_slice, DM_map, DA_agg, DTup_tuple, DCons_cons, DNil_nil, NN_some, BIf_true, BIf_false, BIf_same, List.toList_toArray, Bool.not_true, Bool.not_false]
      have hs : Sep [pts p (dskO { d.burnt with rd := d.rd + 1 } r1 r2 r3), Mp r1 (strM d.burnt.safe), Mp r2 (tchM d.burnt.tch), Mp r3 (strM d.burnt.cache)] H := hs
      obtain ⟨H1, ⟨l, clock, hr1, hgk⟩, hle⟩ := hs.see 3 rfl
      refine lookupK u_int u_strm hz1 hz2 (hle _ _ hr1) true ?_
      rw [hgk.get, hbr.2.2.2.2.2.2.1]
      unfold strM
      cases hcd : d.cache i with
      | some bs =>
        have hl := hok.cache i bs hcd
        simp only [Option.map_some, strV, if_true]
        simp only [DI_int', DB_bool, DS_string, DP_pointer, DSl_slice, DM_map, DA_agg, DTup_tuple, DCons_cons, DNil_nil, NN_some, BIf_true, BIf_false, BIf_same, List.toList_toArray, Bool.not_true, Bool.not_false]
        refine ⟨by show bs.toArray.size ≤ _; simp; omega, fun c hbc => ?_⟩
        refine hs.nw fun b H hs => ?_
        simp only [DI_int', DB_bool, DS_string, DP_pointer, DSl_slice, DM_map, DA_agg, DTup_tuple, DCons_cons, DNil_nil, NN_some, BIf_true, BIf_false, BIf_same, List.toList_toArray, Bool.not_true, Bool.not_false]
        have hsize : ((⟨bs.toArray⟩ : ByteArray).size) = d.size := by show bs.toArray.size = _; simpa using hl
        rw [hsize] at hbc ⊢
        refine ⟨_, .inr (.inr ⟨hc, hb, b, c, c, rfl, hbc, rfl⟩), ?_⟩
        have : d.now i = bs := by unfold D.now; rw [hcd]; rfl
        rw [this]
        exact Dk.shut hs
      | none =>
        simp only [Option.map_none, if_true]
        simp only [DI_int', DB_bool, DS_string, DP_pointer, DSl_slice, DM_map, DA_agg, DTup_tuple, DCons_cons, DNil_nil, NN_some, BIf_true, BIf_false, BIf_same, List.toList_toArray, Bool.not_true, Bool.not_false]
        have hs := Dk.shut (L := []) hs
        have hsat : (D.sat { d.burnt with rd := d.rd + 1 } i) = d.sat i := by unfold D.sat; rw [show ({ d.burnt with rd := d.rd + 1 } : D).safe = d.burnt.safe from rfl, hbr.2.2.2.2.2.1, show ({ d.burnt with rd := d.rd + 1 } : D).size = d.burnt.size from rfl, hbr.2.2.2.1]
        have hok2 : Ok { d.burnt with rd := d.rd + 1 } := ⟨hok.burnt.sec, hok.burnt.size, hok.burnt.big, hok.burnt.per, hok.burnt.safe, hok.burnt.cache, hok.burnt.fz⟩
        refine (get_tr hok2 i).use hs [0] rfl rfl ?_
        rintro _ _ H ⟨b, rfl, rfl⟩ hs
        simp only [DI_int', DB_bool, DS_string, DP_pointer, DSl_slice, DM_map, DA_agg, DTup_tuple, DCons_cons, DNil_nil, NN_some, BIf_true, BIf_false, BIf_same, List.toList_toArray, Bool.not_true, Bool.not_false]
        refine ⟨_, .inr (.inr ⟨hc, hb, b, d.size, d.size, ?_, Nat.le_refl _, rfl⟩), ?_⟩
        · show (Value.tuple #[.slice (some ⟨b, 0, none⟩) d.burnt.size d.burnt.size, .int .i64 0]) = _
          rw [hbr.2.2.2.1]
        · have : d.now i = d.sat i := by unfold D.now; rw [hcd]; rfl
          rw [this, ← hsat]
          have e : ({ d.burnt with rd := d.rd + 1 } : D).size = d.size := hbr.2.2.2.1
          rw [← e]
          exact hs
  · refine BIf_bnep hc ⟨_, .inl ⟨hc, rfl, rfl⟩, hs⟩

def updB (m : Int → Option (List UInt8)) (k : Int) (v : List UInt8) : Int → Option (List UInt8) := fun j => if j = k then some v else m j
def updT (m : Int → Bool) (k : Int) : Int → Bool := fun j => if j = k then true else m j
theorem updB_M (m : Int → Option (List UInt8)) (k : Int) (v : List UInt8) : updM (strM m) k (strV v) = strM (updB m k v) := by
  funext j
  unfold updM strM updB
  split <;> rfl
theorem updT_M (m : Int → Bool) (k : Int) : updM (tchM m) k (.int .i64 1) = tchM (updT m k) := by
  funext j
  unfold updM tchM updT
  split <;> rfl

def D.wrote (d : D) (i : Int) (bs : List UInt8) : D := { d.burnt with wr := d.wr + 1, tch := updT d.tch i, cache := updB d.cache i bs }
/-- What a write answers. -/
def D.writeE (d : D) (i : Int) (n : Nat) : Int := if d.chk i ≠ 0 then d.chk i else if n ≠ d.size then 19 else if d.burns then 8 else 0
def D.writeD (d : D) (i : Int) (bs : List UInt8) : D := if d.chk i ≠ 0 then d else if bs.length ≠ d.size then d else if d.burns then d.burnt else d.wrote i bs

theorem Write_tr {p : Nat} {d : D} (hok : Ok d) (ho : d.wr ≤ 4611686018427387904) (i : Int) (A : Option Addr) (n m : Nat) (bs : List UInt8) (hn : n = bs.length) (R : As) (hR : ∀ H, R H → Cells H A (byteVals bs)) :
    Tr Tryz.prog 42 #[.pointer (some ⟨p, 0, none⟩), .int .i64 i, .slice A n m] [Dk p d, R] fun v M => v = .int .i64 (d.writeE i n) ∧ M = [Dk p (d.writeD i bs), R] := fun H hs => by
  have hf := hok.fz
  have hsz := hok.size
  apply W_disk_Disk_Write.ok
  unfold W_disk_Disk_Write
  simp only [NN_some, Addr.add_lit', Addr.add_zero, Nat.zero_add, Nat.add_zero]
  refine HCalls.use (check_s hs 0 rfl i) ?_
  try simp only [DI_int', DB_bool, DS_string, DP_pointer, DSl_slice, DM_map, DA_agg, DTup_tuple, DCons_cons, DNil_nil, NN_some, BIf_true, BIf_false, BIf_same, List.toList_toArray, Bool.not_true, Bool.not_false]
  by_cases hc : d.chk i = 0
  · refine BIf_bnen hc ?_
    obtain ⟨r1, r2, r3, hd⟩ := Dk.see hs 0 rfl
    refine Ld_obj hd (v := .int .i64 d.size) rfl ?_
    simp only [DI_int', DB_bool, DS_string, DP_pointer, DSl_slice, DM_map, DA_agg, DTup_tuple, DCons_cons, DNil_nil, NN_some, BIf_true, BIf_false, BIf_same, List.toList_toArray, Bool.not_true, Bool.not_false]
    by_cases hnd : n = d.size
    · refine BIf_bnen (by omega) ?_
      have hnl : bs.length = d.size := by omega
      refine (burns_tr hf).use hs [0] rfl rfl ?_
      rintro _ _ H ⟨rfl, rfl⟩ hs
      simp only [DI_int', DB_bool, DS_string, DP_pointer, DSl_slice, DM_map, DA_agg, DTup_tuple, DCons_cons, DNil_nil, NN_some, BIf_true, BIf_false, BIf_same, List.toList_toArray, Bool.not_true, Bool.not_false]
      cases hb : d.burns with
      | true => exact ⟨_, ⟨by simp [D.writeE, hc, hnd, hb], by simp [D.writeD, hc, hnl, hb]; rfl⟩, hs⟩
      | false =>
        simp only [DI_int', DB_bool, DS_string, DP_pointer, DSl_slice, DM_map, DA_agg, DTup_tuple, DCons_cons, DNil_nil, NN_some, BIf_true, BIf_false, BIf_same, List.toList_toArray, Bool.not_true, Bool.not_false]
        have hbr := burnt_rd d
        obtain ⟨r1, r2, r3, hs⟩ := Dk.open hs
        refine hs.ld 0 rfl rfl ?_
        simp only [DI_int', DB_bool, DS_string, DP_pointer, DSl_slice, DM_map, DA_agg, DTup_tuple, DCons_cons, DNil_nil, NN_some, BIf_true, BIf_false, BIf_same, List.toList_toArray, Bool.not_true, Bool.not_false]
        refine hs.st 0 rfl (by show 4 < 10; omega) rfl fun H hs => ?_
        rw [hbr.2.1] at hs
        rw [i64w (x := (d.wr : Int) + 1) (by omega) (by omega)] at hs
        refine hs.ld 0 rfl rfl ?_
        simp only [DI_int', DB_bool, DS_string, DP_pointer, DSl_slice, DM_map, DA_agg, DTup_tuple, DCons_cons, DNil_nil, NN_some, BIf_true, BIf_false, BIf_same, List.toList_toArray, Bool.not_true, Bool.not_false]
        refine hs.upd u_int u_intm 2 rfl fun H hs => ?_
        rw [updT_M, hbr.2.2.2.2.2.2.2] at hs
        refine hs.ld 0 rfl rfl ?_
        simp only [DI_int', DB_bool, DS_string, DP_pointer, DSl_slice, DM_map, DA_agg, DTup_tuple, DCons_cons, DNil_nil, NN_some, BIf_true, BIf_false, BIf_same, List.toList_toArray, Bool.not_true, Bool.not_false]
        obtain ⟨H1, hR1, hle⟩ := hs.see 4 (A := R) rfl
        refine BsK_of ((hR H1 hR1).le hle) hn ?_
        refine hs.upd u_int u_strm 3 rfl fun H hs => ?_
        rw [show (Value.string ⟨bs.toArray⟩) = strV bs from rfl, updB_M, hbr.2.2.2.2.2.2.1] at hs
        refine ⟨_, ⟨by simp [D.writeE, hc, hnd, hb], by simp [D.writeD, hc, hnl, hb]; rfl⟩, ?_⟩
        exact Dk.shut (d := d.wrote i bs) (r1 := r1) (r2 := r2) (r3 := r3) hs
    · refine BIf_bnep (by omega) ?_
      have hnl : bs.length ≠ d.size := by omega
      exact ⟨_, ⟨by simp [D.writeE, hc, hnd], by simp [D.writeD, hc, hnl]⟩, hs⟩
  · refine BIf_bnep hc ?_
    exact ⟨_, ⟨by simp [D.writeE, hc], by simp [D.writeD, hc]⟩, hs⟩

theorem chk_in {d : D} {i : Int} (h : d.chk i = 0) : 0 ≤ i ∧ i < d.sec ∧ d.down = false := by
  unfold D.chk at h
  split at h
  · omega
  · split at h
    · omega
    · rename_i h1 h2
      exact ⟨by omega, by omega, by simpa using h1⟩

end Go.Proofs.YtlgpappgnndgiaaGreatDoor.Dsk

end
section
/-! Winspect -/
/- Formulas of functions, printed by wip/tools/hwp.py. -/
set_option maxRecDepth 100000
set_option linter.unusedVariables false
namespace Go.Proofs.YtlgpappgnndgiaaGreatDoor.W
open Go Go.Hw

theorem mixWinspect : Tryz.prog.follows .mixedOrders = true := by kernel_rfl
-- inspect.Line
def W_inspect_Line (x1 : Int) (x2 : Int) (H : Hp) (K : Value → Hp → Prop) : Prop :=
  Nw H (.obj (.cells #[.int .i64 x1, .int .i64 x2] 117)) fun b1 H1 => Ld H1 ((⟨b1, 0, none⟩ : Addr).add 0) fun v1 => DI .i64 v1 fun x3 => BIf (decide (x3 < (1 : Int))) (K (.string (⟨#[]⟩)) H1) (Ld H1 ((⟨b1, 0, none⟩ : Addr).add 0) fun v2 => DI .i64 v2 fun x4 => BIf (decide (x4 > (6 : Int))) (K (.string (⟨#[]⟩)) H1) ((Ld H1 ((⟨b1, 0, none⟩ : Addr).add 0) fun v3 => DI .i64 v3 fun x5 => ixI x5 7 ((Ld H1 ((⟨0, 0, none⟩ : Addr).add (x5.toNat * 1)) fun v4 => DS v4 fun s1 => (s1.size + ((⟨#[32]⟩) : ByteArray).size ≤ 4611686018427387904 ∧ Ld H1 ((⟨b1, 0, none⟩ : Addr).add 1) fun v5 => DI .i64 v5 fun x6 => HCalls Tryz.prog 86 #[.int .i64 x6] H1 fun v6 H2 => DS v6 fun s2 => ((s1 ++ (⟨#[32]⟩)).size + s2.size ≤ 4611686018427387904 ∧ K (.string ((s1 ++ (⟨#[32]⟩)) ++ s2)) H2))) ∧ (Ld H1 ((⟨b1, 0, none⟩ : Addr).add 1) fun v7 => DI .i64 v7 fun x7 => (Ld H1 ((⟨0, 0, none⟩ : Addr).add (x5.toNat * 1)) fun v8 => DS v8 fun s3 => (s3.size + ((⟨#[32]⟩) : ByteArray).size ≤ 4611686018427387904 ∧ HCalls Tryz.prog 86 #[.int .i64 x7] H1 fun v9 H3 => DS v9 fun s4 => ((s3 ++ (⟨#[32]⟩)).size + s4.size ≤ 4611686018427387904 ∧ K (.string ((s3 ++ (⟨#[32]⟩)) ++ s4)) H3))) ∧ (HCalls Tryz.prog 86 #[.int .i64 x7] H1 fun v10 H4 => DS v10 fun s5 => Ld H4 ((⟨0, 0, none⟩ : Addr).add (x5.toNat * 1)) fun v11 => DS v11 fun s6 => (s6.size + ((⟨#[32]⟩) : ByteArray).size ≤ 4611686018427387904 ∧ ((s6 ++ (⟨#[32]⟩)).size + s5.size ≤ 4611686018427387904 ∧ K (.string ((s6 ++ (⟨#[32]⟩)) ++ s5)) H4)))))) ∧ (Ld H1 ((⟨b1, 0, none⟩ : Addr).add 1) fun v12 => DI .i64 v12 fun x8 => (Ld H1 ((⟨b1, 0, none⟩ : Addr).add 0) fun v13 => DI .i64 v13 fun x9 => ixI x9 7 ((Ld H1 ((⟨0, 0, none⟩ : Addr).add (x9.toNat * 1)) fun v14 => DS v14 fun s7 => (s7.size + ((⟨#[32]⟩) : ByteArray).size ≤ 4611686018427387904 ∧ HCalls Tryz.prog 86 #[.int .i64 x8] H1 fun v15 H5 => DS v15 fun s8 => ((s7 ++ (⟨#[32]⟩)).size + s8.size ≤ 4611686018427387904 ∧ K (.string ((s7 ++ (⟨#[32]⟩)) ++ s8)) H5))) ∧ (HCalls Tryz.prog 86 #[.int .i64 x8] H1 fun v16 H6 => DS v16 fun s9 => Ld H6 ((⟨0, 0, none⟩ : Addr).add (x9.toNat * 1)) fun v17 => DS v17 fun s10 => (s10.size + ((⟨#[32]⟩) : ByteArray).size ≤ 4611686018427387904 ∧ ((s10 ++ (⟨#[32]⟩)).size + s9.size ≤ 4611686018427387904 ∧ K (.string ((s10 ++ (⟨#[32]⟩)) ++ s9)) H6))))) ∧ (HCalls Tryz.prog 86 #[.int .i64 x8] H1 fun v18 H7 => DS v18 fun s11 => Ld H7 ((⟨b1, 0, none⟩ : Addr).add 0) fun v19 => DI .i64 v19 fun x10 => ixI x10 7 (Ld H7 ((⟨0, 0, none⟩ : Addr).add (x10.toNat * 1)) fun v20 => DS v20 fun s12 => (s12.size + ((⟨#[32]⟩) : ByteArray).size ≤ 4611686018427387904 ∧ ((s12 ++ (⟨#[32]⟩)).size + s11.size ≤ 4611686018427387904 ∧ K (.string ((s12 ++ (⟨#[32]⟩)) ++ s11)) H7)))))))
def W_inspect_Line.Λ (_ : Value → Hp → Prop) : Cuts := Cuts.none (fun i => match Nat.beq i 3 with | true => some ([], [0, 1, 3, 7, 15, 0, 32, 96, 255, 511], 0) | false => none)
theorem W_inspect_Line.ok (x1 : Int) (x2 : Int) (H : Hp) (K : Value → Hp → Prop) (h : W_inspect_Line x1 x2 H K) : HCalls Tryz.prog 46 #[.agg #[.int .i64 x1, .int .i64 x2]] H K :=
  hcalls Tryz.func46 rfl (Nat.le_of_ble_eq_true rfl) (hw_safe (Λ := Cuts.none (fun i => match Nat.beq i 3 with | true => some ([], [0, 1, 3, 7, 15, 0, 32, 96, 255, 511], 0) | false => none)) mixWinspect _ _ _ _ _ (Eq.mp (by kernel_rfl) h) (obs_none _ _ _ _ _))

-- inspect.Count
def W_inspect_Count.l3 (K : Value → Hp → Prop) : Nat → Int → Int → Option Addr → Nat → Nat → Int → Int → Hp → Prop
  | 0, _, _, _, _, _, _, _, _ => False
  | k + 1, x2, x3, A2, n2, m2, x4, x5, H =>
    let R3 := W_inspect_Count.l3 K k
    BIf (decide (x5 < x4)) (ixI x5 n2 (NN A2 fun a1 => LdA H (a1.add (x5.toNat * 2)) 2 fun l1 => Nw H (.obj (.cells #[.int .i64 (0 : Int), .int .i64 (0 : Int)] 117)) fun b1 H1 => StA H1 (⟨b1, 0, none⟩ : Addr) l1.toArray 2 fun H2 => Ld H2 ((⟨b1, 0, none⟩ : Addr).add 0) fun v1 => DI .i64 v1 fun x6 => BIf (x6 == x2) (R3 x2 (IntKind.i64.wrap (x3 + (1 : Int))) A2 n2 m2 x4 (IntKind.i64.wrap (x5 + (1 : Int))) H2) (R3 x2 x3 A2 n2 m2 x4 (IntKind.i64.wrap (x5 + (1 : Int))) H2))) (K (.int .i64 x3) H)
def W_inspect_Count (A1 : Option Addr) (n1 : Nat) (m1 : Nat) (x1 : Int) (H : Hp) (K : Value → Hp → Prop) : Prop :=
  (∃ k, W_inspect_Count.l3 K k x1 (0 : Int) A1 n1 m1 ((n1 : Nat) : Int) (0 : Int) H)
def W_inspect_Count.l3.L (K : Value → Hp → Prop) (k : Nat) : Mid := fun E D H =>
  DG (E.get? 1) fun w1 => DI .i64 w1 fun x2 => DG (E.get? 5) fun w5 => DI .i64 w5 fun x3 => DG (E.get? 8) fun w8 => DSl w8 fun A2 n2 m2 => DG (E.get? 9) fun w9 => DI .i64 w9 fun x4 => DG (E.get? 10) fun w10 => DI .i64 w10 fun x5 => DNilD D (W_inspect_Count.l3 K k x2 x3 A2 n2 m2 x4 x5 H)
def W_inspect_Count.Λ3 (_ : Value → Hp → Prop) (_R3 : Int → Int → Option Addr → Nat → Nat → Int → Int → Hp → Prop) : Cuts := Cuts.none (fun _ => none)
def W_inspect_Count.Λ (K : Value → Hp → Prop) : Cuts := ⟨fun i => none, fun i => match Nat.beq i 3 with | true => some (fun E D H => ∃ k, W_inspect_Count.l3.L K k E D H) | false => none, (fun _ => none)⟩
theorem W_inspect_Count.ok (A1 : Option Addr) (n1 : Nat) (m1 : Nat) (x1 : Int) (H : Hp) (K : Value → Hp → Prop) (h : W_inspect_Count A1 n1 m1 x1 H K) : HCalls Tryz.prog 48 #[.slice A1 n1 m1, .int .i64 x1] H K :=
  hcalls Tryz.func48 rfl (Nat.le_of_ble_eq_true rfl) (hw_safe (Λ := (W_inspect_Count.Λ K)) mixWinspect _ _ _ _ _ (Eq.mp (by kernel_rfl) h) (obs_seq obs_region rfl (obs_seq obs_region rfl (obs_seq (obs_seq obs_region rfl (obs_block (obs_loop rfl (fun E D H h => by
      refine Safe.loop' (W_inspect_Count.l3.L K) (fun E D H h => ?_) (fun k E D H h => ?_) E D H h
      · obtain ⟨w1, e1, g1⟩ := DG.out h; obtain ⟨x2, rfl, g2⟩ := DI.out g1; obtain ⟨w5, e5, g3⟩ := DG.out g2; obtain ⟨x3, rfl, g4⟩ := DI.out g3; obtain ⟨w8, e8, g5⟩ := DG.out g4; obtain ⟨A2, n2, m2, rfl, g6⟩ := DSl.out g5; obtain ⟨w9, e9, g7⟩ := DG.out g6; obtain ⟨x4, rfl, g8⟩ := DI.out g7; obtain ⟨w10, e10, g9⟩ := DG.out g8; obtain ⟨x5, rfl, g10⟩ := DI.out g9; obtain ⟨rfl, h'⟩ := DNilD.out g10; exact h'
      · obtain ⟨w1, e1, g1⟩ := DG.out h
        obtain ⟨x2, rfl, g2⟩ := DI.out g1
        obtain ⟨w5, e5, g3⟩ := DG.out g2
        obtain ⟨x3, rfl, g4⟩ := DI.out g3
        obtain ⟨w8, e8, g5⟩ := DG.out g4
        obtain ⟨A2, n2, m2, rfl, g6⟩ := DSl.out g5
        obtain ⟨w9, e9, g7⟩ := DG.out g6
        obtain ⟨x4, rfl, g8⟩ := DI.out g7
        obtain ⟨w10, e10, g9⟩ := DG.out g8
        obtain ⟨x5, rfl, g10⟩ := DI.out g9
        obtain ⟨rfl, h'⟩ := DNilD.out g10
        exact (hw_safe (Λ := (W_inspect_Count.Λ3 K (W_inspect_Count.l3 K k))) mixWinspect _ _ [(1, .int .i64 x2), (5, .int .i64 x3), (8, .slice A2 n2 m2), (9, .int .i64 x4), (10, .int .i64 x5)] [] H (Eq.mp (by kernel_rfl) h') (obs_seq obs_region rfl (obs_seq (obs_cond obs_skip obs_exit) rfl (obs_seq (obs_block (obs_seq obs_region rfl (obs_seq obs_region rfl (obs_cond obs_region obs_skip)))) rfl obs_region)))).weaken (EnvLe.cons e1 (EnvLe.cons e5 (EnvLe.cons e8 (EnvLe.cons e9 (EnvLe.cons e10 (EnvLe.nil _)))))) (Hp.le_refl _))))) rfl (obs_seq obs_region rfl obs_ret)))))

-- inspect.Check
def W_inspect_Check.l13 (K : Value → Hp → Prop) (R7 : Option Addr → Nat → Nat → Option Addr → Option Addr → Nat → Nat → Int → Int → Hp → Prop) : Nat → Option Addr → Nat → Nat → Option Addr → Addr → Option Addr → Nat → Nat → Int → Int → Option Addr → Nat → Nat → Int → Int → Hp → Prop
  | 0, _, _, _, _, _, _, _, _, _, _, _, _, _, _, _, _ => False
  | k + 1, A5, n5, m5, p4, a2, A6, n6, m6, x5, x6, A7, n7, m7, x7, x8, H =>
    let R13 := W_inspect_Check.l13 K R7 k
    BIf (decide (x8 < x7)) (ixI x8 n7 (NN A7 fun a3 => Ld H (a3.add (x8.toNat * 1)) fun v11 => DI .i64 v11 fun x9 => Ld H (a2.add 0) fun v12 => DI .i64 v12 fun x10 => Nw H (.row [.int .i64 x10, .int .i64 x9] 117 2) fun b3 H7 => AppK Tryz.prog 117 (.slice A5 n5 m5) (.slice (some ⟨b3, 0, none⟩) 1 1) H7 fun v13 H8 => DSl v13 fun A8 n8 m8 => R13 A8 n8 m8 p4 a2 A6 n6 m6 x5 x6 A7 n7 m7 x7 (IntKind.i64.wrap (x8 + (1 : Int))) H8)) (R7 A5 n5 m5 p4 A6 n6 m6 x5 (IntKind.i64.wrap (x6 + (1 : Int))) H)
def W_inspect_Check.l7 (K : Value → Hp → Prop) : Nat → Option Addr → Nat → Nat → Option Addr → Option Addr → Nat → Nat → Int → Int → Hp → Prop
  | 0, _, _, _, _, _, _, _, _, _, _ => False
  | k + 1, A2, n2, m2, p3, A3, n3, m3, x2, x3, H =>
    let R7 := W_inspect_Check.l7 K k
    BIf (decide (x3 < x2)) (ixI x3 n3 (NN A3 fun a1 => LdA H (a1.add (x3.toNat * 2)) 2 fun l5 => Nw H (.obj (.cells #[.int .i64 (0 : Int), .nilFunc] 227)) fun b2 H4 => StA H4 (⟨b2, 0, none⟩ : Addr) l5.toArray 2 fun H5 => Ld H5 ((⟨b2, 0, none⟩ : Addr).add 1) fun v6 => DFn v6 fun q1 q2 q3 => CallK Tryz.prog q1 ((q2 ++ #[.pointer p3]) ++ q3) H5 fun v7 H6 => DR Tryz.prog (resTypes Tryz.prog q1) v7 fun v8 => Ex v8 0 fun v9 => DSl v9 fun A4 n4 m4 => Ex v8 1 fun v10 => DI .i64 v10 fun x4 => BIf (x4 != (0 : Int)) (K (.tuple #[.slice none 0 0, .int .i64 x4]) H6) ((∃ k, W_inspect_Check.l13 K R7 k A2 n2 m2 p3 (⟨b2, 0, none⟩ : Addr) A3 n3 m3 x2 x3 A4 n4 m4 ((n4 : Nat) : Int) (0 : Int) H6)))) (K (.tuple #[.slice A2 n2 m2, .int .i64 (0 : Int)]) H)
def W_inspect_Check (p1 : Option Addr) (H : Hp) (K : Value → Hp → Prop) : Prop :=
  HCalls Tryz.prog 136 #[.pointer p1] H fun v1 H1 => DTup v1 fun l1 => DCons l1 fun v2 l2 => DP v2 fun p2 => DCons l2 fun v3 l3 => DB v3 fun c1 => DCons l3 fun v4 l4 => DI .i64 v4 fun x1 => DNil l4 (BIf (x1 != (0 : Int)) (K (.tuple #[.slice none 0 0, .int .i64 x1]) H1) (BIf (!c1) (Nw H1 (.row [.int .i64 (1 : Int), .int .i64 (0 : Int)] 117 2) fun b1 H2 => K (.tuple #[.slice (some ⟨b1, 0, none⟩) 1 1, .int .i64 (0 : Int)]) H2) (HCalls Tryz.prog 137 #[] H1 fun v5 H3 => DSl v5 fun A1 n1 m1 => (∃ k, W_inspect_Check.l7 K k none 0 0 p2 A1 n1 m1 ((n1 : Nat) : Int) (0 : Int) H3))))
def W_inspect_Check.l7.L (K : Value → Hp → Prop) (k : Nat) : Mid := fun E D H =>
  DG (E.get? 2) fun w2 => DSl w2 fun A2 n2 m2 => DG (E.get? 4) fun w4 => DP w4 fun p3 => DG (E.get? 27) fun w27 => DSl w27 fun A3 n3 m3 => DG (E.get? 28) fun w28 => DI .i64 w28 fun x2 => DG (E.get? 29) fun w29 => DI .i64 w29 fun x3 => DNilD D (W_inspect_Check.l7 K k A2 n2 m2 p3 A3 n3 m3 x2 x3 H)
def W_inspect_Check.l13.L (K : Value → Hp → Prop) (R7 : Option Addr → Nat → Nat → Option Addr → Option Addr → Nat → Nat → Int → Int → Hp → Prop) (k : Nat) : Mid := fun E D H =>
  DG (E.get? 2) fun w2 => DSl w2 fun A5 n5 m5 => DG (E.get? 4) fun w4 => DP w4 fun p4 => DG (E.get? 7) fun w7 => DP w7 fun pw7 => NN pw7 fun a2 => DG (E.get? 27) fun w27 => DSl w27 fun A6 n6 m6 => DG (E.get? 28) fun w28 => DI .i64 w28 fun x5 => DG (E.get? 29) fun w29 => DI .i64 w29 fun x6 => DG (E.get? 43) fun w43 => DSl w43 fun A7 n7 m7 => DG (E.get? 44) fun w44 => DI .i64 w44 fun x7 => DG (E.get? 45) fun w45 => DI .i64 w45 fun x8 => DNilD D (W_inspect_Check.l13 K R7 k A5 n5 m5 p4 a2 A6 n6 m6 x5 x6 A7 n7 m7 x7 x8 H)
def W_inspect_Check.Λ13 (_ : Value → Hp → Prop) (_R7 : Option Addr → Nat → Nat → Option Addr → Option Addr → Nat → Nat → Int → Int → Hp → Prop) (_R13 : Option Addr → Nat → Nat → Option Addr → Addr → Option Addr → Nat → Nat → Int → Int → Option Addr → Nat → Nat → Int → Int → Hp → Prop) : Cuts := Cuts.none (fun _ => none)
def W_inspect_Check.Λ7 (K : Value → Hp → Prop) (R7 : Option Addr → Nat → Nat → Option Addr → Option Addr → Nat → Nat → Int → Int → Hp → Prop) : Cuts := ⟨fun i => none, fun i => match Nat.beq i 13 with | true => some (fun E D H => ∃ k, W_inspect_Check.l13.L K R7 k E D H) | false => none, (fun _ => none)⟩
def W_inspect_Check.Λ (K : Value → Hp → Prop) : Cuts := ⟨fun i => none, fun i => match Nat.beq i 7 with | true => some (fun E D H => ∃ k, W_inspect_Check.l7.L K k E D H) | false => none, (fun _ => none)⟩
theorem W_inspect_Check.ok (p1 : Option Addr) (H : Hp) (K : Value → Hp → Prop) (h : W_inspect_Check p1 H K) : HCalls Tryz.prog 85 #[.pointer p1] H K :=
  hcalls Tryz.func85 rfl (Nat.le_of_ble_eq_true rfl) (hw_safe (Λ := (W_inspect_Check.Λ K)) mixWinspect _ _ _ _ _ (Eq.mp (by kernel_rfl) h) (obs_seq obs_region rfl (obs_seq obs_region rfl (obs_seq (obs_block (obs_seq obs_region rfl (obs_cond (obs_seq obs_region rfl obs_ret) (obs_seq obs_region rfl (obs_cond (obs_seq obs_region rfl obs_ret) obs_skip))))) rfl (obs_seq (obs_seq obs_region rfl (obs_block (obs_loop rfl (fun E D H h => by
      refine Safe.loop' (W_inspect_Check.l7.L K) (fun E D H h => ?_) (fun k E D H h => ?_) E D H h
      · obtain ⟨w2, e2, g1⟩ := DG.out h; obtain ⟨A2, n2, m2, rfl, g2⟩ := DSl.out g1; obtain ⟨w4, e4, g3⟩ := DG.out g2; obtain ⟨p3, rfl, g4⟩ := DP.out g3; obtain ⟨w27, e27, g5⟩ := DG.out g4; obtain ⟨A3, n3, m3, rfl, g6⟩ := DSl.out g5; obtain ⟨w28, e28, g7⟩ := DG.out g6; obtain ⟨x2, rfl, g8⟩ := DI.out g7; obtain ⟨w29, e29, g9⟩ := DG.out g8; obtain ⟨x3, rfl, g10⟩ := DI.out g9; obtain ⟨rfl, h'⟩ := DNilD.out g10; exact h'
      · obtain ⟨w2, e2, g1⟩ := DG.out h
        obtain ⟨A2, n2, m2, rfl, g2⟩ := DSl.out g1
        obtain ⟨w4, e4, g3⟩ := DG.out g2
        obtain ⟨p3, rfl, g4⟩ := DP.out g3
        obtain ⟨w27, e27, g5⟩ := DG.out g4
        obtain ⟨A3, n3, m3, rfl, g6⟩ := DSl.out g5
        obtain ⟨w28, e28, g7⟩ := DG.out g6
        obtain ⟨x2, rfl, g8⟩ := DI.out g7
        obtain ⟨w29, e29, g9⟩ := DG.out g8
        obtain ⟨x3, rfl, g10⟩ := DI.out g9
        obtain ⟨rfl, h'⟩ := DNilD.out g10
        exact (hw_safe (Λ := (W_inspect_Check.Λ7 K (W_inspect_Check.l7 K k))) mixWinspect _ _ [(2, .slice A2 n2 m2), (4, .pointer p3), (27, .slice A3 n3 m3), (28, .int .i64 x2), (29, .int .i64 x3)] [] H (Eq.mp (by kernel_rfl) h') (obs_seq obs_region rfl (obs_seq (obs_cond obs_skip obs_exit) rfl (obs_seq (obs_block (obs_seq obs_region rfl (obs_seq obs_region rfl (obs_seq (obs_seq obs_region rfl (obs_cond (obs_seq obs_region rfl obs_ret) obs_skip)) rfl (obs_seq obs_region rfl (obs_block (obs_loop rfl (fun E D H h => by
            refine Safe.loop' (W_inspect_Check.l13.L K (W_inspect_Check.l7 K k)) (fun E D H h => ?_) (fun k E D H h => ?_) E D H h
            · obtain ⟨w2, e2, g1⟩ := DG.out h; obtain ⟨A5, n5, m5, rfl, g2⟩ := DSl.out g1; obtain ⟨w4, e4, g3⟩ := DG.out g2; obtain ⟨p4, rfl, g4⟩ := DP.out g3; obtain ⟨w7, e7, g5⟩ := DG.out g4; obtain ⟨pw7, rfl, g6⟩ := DP.out g5; obtain ⟨a2, rfl, g7⟩ := NN.out g6; obtain ⟨w27, e27, g8⟩ := DG.out g7; obtain ⟨A6, n6, m6, rfl, g9⟩ := DSl.out g8; obtain ⟨w28, e28, g10⟩ := DG.out g9; obtain ⟨x5, rfl, g11⟩ := DI.out g10; obtain ⟨w29, e29, g12⟩ := DG.out g11; obtain ⟨x6, rfl, g13⟩ := DI.out g12; obtain ⟨w43, e43, g14⟩ := DG.out g13; obtain ⟨A7, n7, m7, rfl, g15⟩ := DSl.out g14; obtain ⟨w44, e44, g16⟩ := DG.out g15; obtain ⟨x7, rfl, g17⟩ := DI.out g16; obtain ⟨w45, e45, g18⟩ := DG.out g17; obtain ⟨x8, rfl, g19⟩ := DI.out g18; obtain ⟨rfl, h'⟩ := DNilD.out g19; exact h'
            · obtain ⟨w2, e2, g1⟩ := DG.out h
              obtain ⟨A5, n5, m5, rfl, g2⟩ := DSl.out g1
              obtain ⟨w4, e4, g3⟩ := DG.out g2
              obtain ⟨p4, rfl, g4⟩ := DP.out g3
              obtain ⟨w7, e7, g5⟩ := DG.out g4
              obtain ⟨pw7, rfl, g6⟩ := DP.out g5
              obtain ⟨a2, rfl, g7⟩ := NN.out g6
              obtain ⟨w27, e27, g8⟩ := DG.out g7
              obtain ⟨A6, n6, m6, rfl, g9⟩ := DSl.out g8
              obtain ⟨w28, e28, g10⟩ := DG.out g9
              obtain ⟨x5, rfl, g11⟩ := DI.out g10
              obtain ⟨w29, e29, g12⟩ := DG.out g11
              obtain ⟨x6, rfl, g13⟩ := DI.out g12
              obtain ⟨w43, e43, g14⟩ := DG.out g13
              obtain ⟨A7, n7, m7, rfl, g15⟩ := DSl.out g14
              obtain ⟨w44, e44, g16⟩ := DG.out g15
              obtain ⟨x7, rfl, g17⟩ := DI.out g16
              obtain ⟨w45, e45, g18⟩ := DG.out g17
              obtain ⟨x8, rfl, g19⟩ := DI.out g18
              obtain ⟨rfl, h'⟩ := DNilD.out g19
              exact (hw_safe (Λ := (W_inspect_Check.Λ13 K (W_inspect_Check.l7 K k) (W_inspect_Check.l13 K (W_inspect_Check.l7 K k) k))) mixWinspect _ _ [(2, .slice A5 n5 m5), (4, .pointer p4), (7, .pointer (some a2)), (27, .slice A6 n6 m6), (28, .int .i64 x5), (29, .int .i64 x6), (43, .slice A7 n7 m7), (44, .int .i64 x7), (45, .int .i64 x8)] [] H (Eq.mp (by kernel_rfl) h') (obs_seq obs_region rfl (obs_seq (obs_cond obs_skip obs_exit) rfl (obs_seq (obs_block (obs_seq obs_region rfl obs_region)) rfl obs_region)))).weaken (EnvLe.cons e2 (EnvLe.cons e4 (EnvLe.cons e7 (EnvLe.cons e27 (EnvLe.cons e28 (EnvLe.cons e29 (EnvLe.cons e43 (EnvLe.cons e44 (EnvLe.cons e45 (EnvLe.nil _)))))))))) (Hp.le_refl _))))))))) rfl obs_region)))).weaken (EnvLe.cons e2 (EnvLe.cons e4 (EnvLe.cons e27 (EnvLe.cons e28 (EnvLe.cons e29 (EnvLe.nil _)))))) (Hp.le_refl _))))) rfl (obs_seq obs_region rfl obs_ret))))))

-- inspect.open
def W_inspect_open (p1 : Option Addr) (H : Hp) (K : Value → Hp → Prop) : Prop :=
  BIf p1.isNone (K (.tuple #[.pointer none, .bool false, .int .i64 (1 : Int)]) H) (HCalls Tryz.prog 177 #[.pointer p1] H fun v1 H1 => DTup v1 fun l1 => DCons l1 fun v2 l2 => DA v2 fun y1 => DCons l2 fun v3 l3 => DI .i64 v3 fun x1 => DNil l3 (Nw H1 (.obj (.cells #[.int .i64 (0 : Int), .int .i64 (0 : Int), .int .i64 (0 : Int), .int .i64 (0 : Int)] 277)) fun b1 H2 => StA H2 (⟨b1, 0, none⟩ : Addr) y1 4 fun H3 => BIf (x1 == (8 : Int)) (K (.tuple #[.pointer none, .bool false, .int .i64 x1]) H3) (BIf (x1 != (0 : Int)) (K (.tuple #[.pointer none, .bool false, .int .i64 (0 : Int)]) H3) (LdA H3 (⟨b1, 0, none⟩ : Addr) 4 fun l4 => DCons l4.toArray.toList fun v4 l5 => DI .i64 v4 fun x2 => DCons l5 fun v5 l6 => DI .i64 v5 fun x3 => DCons l6 fun v6 l7 => DI .i64 v6 fun x4 => DCons l7 fun v7 l8 => DI .i64 v7 fun x5 => DNil l8 (Nw H3 (.obj (.cells #[.pointer p1, .int .i64 x2, .int .i64 x3, .int .i64 x4, .int .i64 x5, .int .i64 (0 : Int), .int .i64 (0 : Int), .int .i64 (0 : Int), .int .i64 (0 : Int), .int .i64 (0 : Int), .int .i64 (0 : Int), .int .i64 (0 : Int), .int .i64 (0 : Int), .int .i64 (0 : Int), .int .i64 (0 : Int), .int .i64 (0 : Int), .int .i64 (0 : Int), .int .i64 (0 : Int), .int .i64 (0 : Int), .int .i64 (0 : Int), .int .i64 (0 : Int), .int .i64 (0 : Int), .pointer none, .slice none 0 0] 281)) fun b2 H4 => LdA H4 (⟨b1, 0, none⟩ : Addr) 4 fun l9 => HCalls Tryz.prog 178 #[.agg l9.toArray] H4 fun v8 H5 => DTup v8 fun l10 => DCons l10 fun v9 l11 => DA v9 fun y2 => DCons l11 fun v10 l12 => DI .i64 v10 fun x6 => DNil l12 (StA H5 ((⟨b2, 0, none⟩ : Addr).add 5) y2 17 fun H6 => BIf (x6 != (0 : Int)) (K (.tuple #[.pointer none, .bool false, .int .i64 (0 : Int)]) H6) (LdA H6 (((⟨b2, 0, none⟩ : Addr).add 5).add 2) 3 fun l13 => HCalls Tryz.prog 24 #[.pointer p1, .agg l13.toArray] H6 fun v11 H7 => DTup v11 fun l14 => DCons l14 fun v12 l15 => DP v12 fun p2 => DCons l15 fun v13 l16 => DI .i64 v13 fun x7 => DNil l16 (St H7 (((⟨b2, 0, none⟩ : Addr).add 22).add 0) (.pointer p2) fun H8 => BIf (x7 != (0 : Int)) (K (.tuple #[.pointer none, .bool false, .int .i64 x7]) H8) (Ld H8 ((⟨b2, 0, none⟩ : Addr).add 22) fun v14 => DP v14 fun p3 => HCalls Tryz.prog 44 #[.pointer p3] H8 fun v15 H9 => DTup v15 fun l17 => DCons l17 fun v16 l18 => DSl v16 fun A1 n1 m1 => DCons l18 fun v17 l19 => DI .i64 v17 fun x8 => DNil l19 (St H9 (((⟨b2, 0, none⟩ : Addr).add 23).add 0) (.slice A1 n1 m1) fun H10 => K (.tuple #[.pointer (some (⟨b2, 0, none⟩ : Addr)), .bool (x8 == (0 : Int)), .int .i64 x8]) H10))))))))))
def W_inspect_open.Λ (_ : Value → Hp → Prop) : Cuts := Cuts.none (fun _ => none)
theorem W_inspect_open.ok (p1 : Option Addr) (H : Hp) (K : Value → Hp → Prop) (h : W_inspect_open p1 H K) : HCalls Tryz.prog 136 #[.pointer p1] H K :=
  hcalls Tryz.func136 rfl (Nat.le_of_ble_eq_true rfl) (hw_safe (Λ := Cuts.none (fun _ => none)) mixWinspect _ _ _ _ _ (Eq.mp (by kernel_rfl) h) (obs_none _ _ _ _ _))

-- inspect.looks
def W_inspect_looks (H : Hp) (K : Value → Hp → Prop) : Prop :=
  Nw H (.row [.int .i64 (2 : Int), .func (.func 179) #[] #[], .int .i64 (3 : Int), .func (.func 180) #[] #[], .int .i64 (4 : Int), .func (.func 181) #[] #[], .int .i64 (5 : Int), .func (.func 182) #[] #[], .int .i64 (6 : Int), .func (.func 183) #[] #[]] 227 10) fun b1 H1 => K (.slice (some ⟨b1, 0, none⟩) 5 5) H1
def W_inspect_looks.Λ (_ : Value → Hp → Prop) : Cuts := Cuts.none (fun _ => none)
theorem W_inspect_looks.ok (H : Hp) (K : Value → Hp → Prop) (h : W_inspect_looks H K) : HCalls Tryz.prog 137 #[] H K :=
  hcalls Tryz.func137 rfl (Nat.le_of_ble_eq_true rfl) (hw_safe (Λ := Cuts.none (fun _ => none)) mixWinspect _ _ _ _ _ (Eq.mp (by kernel_rfl) h) (obs_none _ _ _ _ _))

-- inspect.slots
def W_inspect_slots.j9 (K : Value → Hp → Prop) (R2 : Option Addr → Option Addr → Nat → Nat → Int → Int → Hp → Prop) (p6 : Option Addr) (A6 : Option Addr) (n6 : Nat) (m6 : Nat) (x15 : Int) (A7 : Option Addr) (n7 : Nat) (m7 : Nat) (c1 : Bool) (x16 : Int) (x17 : Int) (H : Hp) : Prop :=
  BIf (!c1) (HCalls Tryz.prog 221 #[.slice A7 n7 m7, .string (⟨#[0]⟩)] H fun v17 H6 => DSl v17 fun A8 n8 m8 => BIf (decide (((n8 : Nat) : Int) > (0 : Int))) (Nw H6 (.row [.int .i64 x15] 3 1) fun b2 H7 => AppK Tryz.prog 3 (.slice A6 n6 m6) (.slice (some ⟨b2, 0, none⟩) 1 1) H7 fun v18 H8 => DSl v18 fun A9 n9 m9 => R2 p6 A9 n9 m9 x16 (IntKind.i64.wrap (x17 + (1 : Int))) H8) (R2 p6 A6 n6 m6 x16 (IntKind.i64.wrap (x17 + (1 : Int))) H6)) (R2 p6 A6 n6 m6 x16 (IntKind.i64.wrap (x17 + (1 : Int))) H)
def W_inspect_slots.j5 (K : Value → Hp → Prop) (R2 : Option Addr → Option Addr → Nat → Nat → Int → Int → Hp → Prop) (p5 : Option Addr) (A4 : Option Addr) (n4 : Nat) (m4 : Nat) (x8 : Int) (A5 : Option Addr) (n5 : Nat) (m5 : Nat) (x9 : Int) (x10 : Int) (x11 : Int) (H : Hp) : Prop :=
  BIf (x9 != (0 : Int)) (K (.tuple #[.slice none 0 0, .int .i64 x9]) H) (HCalls Tryz.prog 72 #[.slice A5 n5 m5] H fun v12 H3 => DTup v12 fun l7 => DCons l7 fun v13 l8 => DA v13 fun y1 => DCons l8 fun v14 l9 => DI .i64 v14 fun x12 => DNil l9 (Nw H3 (.obj (.cells #[.int .u64 (0 : Int), .int .i64 (0 : Int), .int .i64 (0 : Int), .int .i64 (0 : Int), .int .i64 (0 : Int), .int .u32 (0 : Int), .int .u32 (0 : Int), .int .u32 (0 : Int)] 91)) fun b1 H4 => StA H4 (⟨b1, 0, none⟩ : Addr) y1 8 fun H5 => BIf (x12 == (0 : Int)) (Ld H5 ((⟨b1, 0, none⟩ : Addr).add 0) fun v15 => DI .u64 v15 fun x13 => NN p5 fun a4 => Ld H5 (((a4.add 5).add 2).add 1) fun v16 => DI .i64 v16 fun x14 => ((IntKind.u64.wrap x14) ≠ 0 ∧ IntKind.u64 = IntKind.u64 ∧ W_inspect_slots.j9 K R2 p5 A4 n4 m4 x8 A5 n5 m5 ((IntKind.i64.wrap (Int.tmod (IntKind.u64.wrap (x13 - (1 : Int))) (IntKind.u64.wrap x14))) == x8) x10 x11 H5)) (W_inspect_slots.j9 K R2 p5 A4 n4 m4 x8 A5 n5 m5 false x10 x11 H5)))
def W_inspect_slots.l2 (K : Value → Hp → Prop) : Nat → Option Addr → Option Addr → Nat → Nat → Int → Int → Hp → Prop
  | 0, _, _, _, _, _, _, _ => False
  | k + 1, p2, A1, n1, m1, x2, x3, H =>
    let R2 := W_inspect_slots.l2 K k
    BIf (decide (x3 < x2)) (NN p2 fun a2 => NN p2 fun a3 => (Ld H (a2.add 0) fun v2 => DP v2 fun p3 => Ld H (((a3.add 5).add 2).add 0) fun v3 => DI .i64 v3 fun x4 => HCalls Tryz.prog 71 #[.pointer p3, .int .i64 (IntKind.i64.wrap (x4 + x3))] H fun v4 H1 => DTup v4 fun l1 => DCons l1 fun v5 l2 => DSl v5 fun A2 n2 m2 => DCons l2 fun v6 l3 => DI .i64 v6 fun x5 => DNil l3 (W_inspect_slots.j5 K R2 p2 A1 n1 m1 x3 A2 n2 m2 x5 x2 x3 H1)) ∧ (Ld H (((a3.add 5).add 2).add 0) fun v7 => DI .i64 v7 fun x6 => Ld H (a2.add 0) fun v8 => DP v8 fun p4 => HCalls Tryz.prog 71 #[.pointer p4, .int .i64 (IntKind.i64.wrap (x6 + x3))] H fun v9 H2 => DTup v9 fun l4 => DCons l4 fun v10 l5 => DSl v10 fun A3 n3 m3 => DCons l5 fun v11 l6 => DI .i64 v11 fun x7 => DNil l6 (W_inspect_slots.j5 K R2 p2 A1 n1 m1 x3 A3 n3 m3 x7 x2 x3 H2))) (K (.tuple #[.slice A1 n1 m1, .int .i64 (0 : Int)]) H)
def W_inspect_slots (p1 : Option Addr) (H : Hp) (K : Value → Hp → Prop) : Prop :=
  NN p1 fun a1 => Ld H (((a1.add 5).add 2).add 1) fun v1 => DI .i64 v1 fun x1 => (∃ k, W_inspect_slots.l2 K k p1 none 0 0 x1 (0 : Int) H)
def W_inspect_slots.l2.L (K : Value → Hp → Prop) (k : Nat) : Mid := fun E D H =>
  DG (E.get? 0) fun w0 => DP w0 fun p2 => DG (E.get? 2) fun w2 => DSl w2 fun A1 n1 m1 => DG (E.get? 15) fun w15 => DI .i64 w15 fun x2 => DG (E.get? 16) fun w16 => DI .i64 w16 fun x3 => DNilD D (W_inspect_slots.l2 K k p2 A1 n1 m1 x2 x3 H)
def W_inspect_slots.Λ2 (K : Value → Hp → Prop) (R2 : Option Addr → Option Addr → Nat → Nat → Int → Int → Hp → Prop) : Cuts := ⟨fun i => match Nat.beq i 9 with | true => some (fun E D H => DG (E.get? 0) fun w0 => DP w0 fun p6 => DG (E.get? 2) fun w2 => DSl w2 fun A6 n6 m6 => DG (E.get? 4) fun w4 => DI .i64 w4 fun x15 => DG (E.get? 5) fun w5 => DSl w5 fun A7 n7 m7 => DG (E.get? 9) fun w9 => DB w9 fun c1 => DG (E.get? 15) fun w15 => DI .i64 w15 fun x16 => DG (E.get? 16) fun w16 => DI .i64 w16 fun x17 => DNilD D (W_inspect_slots.j9 K R2 p6 A6 n6 m6 x15 A7 n7 m7 c1 x16 x17 H)) | false => match Nat.beq i 5 with | true => some (fun E D H => DG (E.get? 0) fun w0 => DP w0 fun p5 => DG (E.get? 2) fun w2 => DSl w2 fun A4 n4 m4 => DG (E.get? 4) fun w4 => DI .i64 w4 fun x8 => DG (E.get? 5) fun w5 => DSl w5 fun A5 n5 m5 => DG (E.get? 6) fun w6 => DI .i64 w6 fun x9 => DG (E.get? 15) fun w15 => DI .i64 w15 fun x10 => DG (E.get? 16) fun w16 => DI .i64 w16 fun x11 => DNilD D (W_inspect_slots.j5 K R2 p5 A4 n4 m4 x8 A5 n5 m5 x9 x10 x11 H)) | false => none, fun i => none, (fun i => match Nat.beq i 4 with | true => some ([], [0, 1, 3, 7, 0, 16, 48, 112, 240, 496, 0, 2032, 4095, 8191, 16383, 16383, 32767, 131071], 0) | false => none)⟩
def W_inspect_slots.Λ (K : Value → Hp → Prop) : Cuts := ⟨fun i => none, fun i => match Nat.beq i 2 with | true => some (fun E D H => ∃ k, W_inspect_slots.l2.L K k E D H) | false => none, (fun i => match Nat.beq i 4 with | true => some ([], [0, 1, 3, 7, 0, 16, 48, 112, 240, 496, 0, 2032, 4095, 8191, 16383, 16383, 32767, 131071], 0) | false => none)⟩
theorem W_inspect_slots.ok (p1 : Option Addr) (H : Hp) (K : Value → Hp → Prop) (h : W_inspect_slots p1 H K) : HCalls Tryz.prog 179 #[.pointer p1] H K :=
  hcalls Tryz.func179 rfl (Nat.le_of_ble_eq_true rfl) (hw_safe (Λ := (W_inspect_slots.Λ K)) mixWinspect _ _ _ _ _ (Eq.mp (by kernel_rfl) h) (obs_seq obs_region rfl (obs_seq (obs_seq obs_region rfl (obs_block (obs_loop rfl (fun E D H h => by
      refine Safe.loop' (W_inspect_slots.l2.L K) (fun E D H h => ?_) (fun k E D H h => ?_) E D H h
      · obtain ⟨w0, e0, g1⟩ := DG.out h; obtain ⟨p2, rfl, g2⟩ := DP.out g1; obtain ⟨w2, e2, g3⟩ := DG.out g2; obtain ⟨A1, n1, m1, rfl, g4⟩ := DSl.out g3; obtain ⟨w15, e15, g5⟩ := DG.out g4; obtain ⟨x2, rfl, g6⟩ := DI.out g5; obtain ⟨w16, e16, g7⟩ := DG.out g6; obtain ⟨x3, rfl, g8⟩ := DI.out g7; obtain ⟨rfl, h'⟩ := DNilD.out g8; exact h'
      · obtain ⟨w0, e0, g1⟩ := DG.out h
        obtain ⟨p2, rfl, g2⟩ := DP.out g1
        obtain ⟨w2, e2, g3⟩ := DG.out g2
        obtain ⟨A1, n1, m1, rfl, g4⟩ := DSl.out g3
        obtain ⟨w15, e15, g5⟩ := DG.out g4
        obtain ⟨x2, rfl, g6⟩ := DI.out g5
        obtain ⟨w16, e16, g7⟩ := DG.out g6
        obtain ⟨x3, rfl, g8⟩ := DI.out g7
        obtain ⟨rfl, h'⟩ := DNilD.out g8
        exact (hw_safe (Λ := (W_inspect_slots.Λ2 K (W_inspect_slots.l2 K k))) mixWinspect _ _ [(0, .pointer p2), (2, .slice A1 n1 m1), (15, .int .i64 x2), (16, .int .i64 x3)] [] H (Eq.mp (by kernel_rfl) h') (obs_seq obs_region rfl (obs_seq (obs_cond obs_skip obs_exit) rfl (obs_seq (obs_block (obs_seq obs_region rfl (obs_seqc obs_region rfl (fun E D H h => by
            obtain ⟨w0, e0, g1⟩ := DG.out h
            obtain ⟨p5, rfl, g2⟩ := DP.out g1
            obtain ⟨w2, e2, g3⟩ := DG.out g2
            obtain ⟨A4, n4, m4, rfl, g4⟩ := DSl.out g3
            obtain ⟨w4, e4, g5⟩ := DG.out g4
            obtain ⟨x8, rfl, g6⟩ := DI.out g5
            obtain ⟨w5, e5, g7⟩ := DG.out g6
            obtain ⟨A5, n5, m5, rfl, g8⟩ := DSl.out g7
            obtain ⟨w6, e6, g9⟩ := DG.out g8
            obtain ⟨x9, rfl, g10⟩ := DI.out g9
            obtain ⟨w15, e15, g11⟩ := DG.out g10
            obtain ⟨x10, rfl, g12⟩ := DI.out g11
            obtain ⟨w16, e16, g13⟩ := DG.out g12
            obtain ⟨x11, rfl, g14⟩ := DI.out g13
            obtain ⟨rfl, h'⟩ := DNilD.out g14
            exact (hw_safe (Λ := (W_inspect_slots.Λ2 K (W_inspect_slots.l2 K k))) mixWinspect _ _ [(0, .pointer p5), (2, .slice A4 n4 m4), (4, .int .i64 x8), (5, .slice A5 n5 m5), (6, .int .i64 x9), (15, .int .i64 x10), (16, .int .i64 x11)] [] H (Eq.mp (by kernel_rfl) h') (obs_seq (obs_seq obs_region rfl (obs_cond (obs_seq obs_region rfl obs_ret) obs_skip)) rfl (obs_seq obs_region rfl (obs_seqc obs_region rfl (fun E D H h => by
                obtain ⟨w0, e0, g1⟩ := DG.out h
                obtain ⟨p6, rfl, g2⟩ := DP.out g1
                obtain ⟨w2, e2, g3⟩ := DG.out g2
                obtain ⟨A6, n6, m6, rfl, g4⟩ := DSl.out g3
                obtain ⟨w4, e4, g5⟩ := DG.out g4
                obtain ⟨x15, rfl, g6⟩ := DI.out g5
                obtain ⟨w5, e5, g7⟩ := DG.out g6
                obtain ⟨A7, n7, m7, rfl, g8⟩ := DSl.out g7
                obtain ⟨w9, e9, g9⟩ := DG.out g8
                obtain ⟨c1, rfl, g10⟩ := DB.out g9
                obtain ⟨w15, e15, g11⟩ := DG.out g10
                obtain ⟨x16, rfl, g12⟩ := DI.out g11
                obtain ⟨w16, e16, g13⟩ := DG.out g12
                obtain ⟨x17, rfl, g14⟩ := DI.out g13
                obtain ⟨rfl, h'⟩ := DNilD.out g14
                exact (hw_safe (Λ := (W_inspect_slots.Λ2 K (W_inspect_slots.l2 K k))) mixWinspect _ _ [(0, .pointer p6), (2, .slice A6 n6 m6), (4, .int .i64 x15), (5, .slice A7 n7 m7), (9, .bool c1), (15, .int .i64 x16), (16, .int .i64 x17)] [] H (Eq.mp (by kernel_rfl) h') (obs_seq obs_region rfl (obs_cond obs_region obs_skip))).weaken (EnvLe.cons e0 (EnvLe.cons e2 (EnvLe.cons e4 (EnvLe.cons e5 (EnvLe.cons e9 (EnvLe.cons e15 (EnvLe.cons e16 (EnvLe.nil _)))))))) (Hp.le_refl _)))))).weaken (EnvLe.cons e0 (EnvLe.cons e2 (EnvLe.cons e4 (EnvLe.cons e5 (EnvLe.cons e6 (EnvLe.cons e15 (EnvLe.cons e16 (EnvLe.nil _)))))))) (Hp.le_refl _))))) rfl obs_region)))).weaken (EnvLe.cons e0 (EnvLe.cons e2 (EnvLe.cons e15 (EnvLe.cons e16 (EnvLe.nil _))))) (Hp.le_refl _))))) rfl (obs_seq obs_region rfl obs_ret))))

-- inspect.gaps
def W_inspect_gaps (p1 : Option Addr) (H : Hp) (K : Value → Hp → Prop) : Prop :=
  NN p1 fun a1 => Ld H (a1.add 23) fun v1 => DSl v1 fun A1 n1 m1 => BIf (decide (((n1 : Nat) : Int) > (0 : Int))) (NN p1 fun a2 => Ld H (a2.add 22) fun v2 => DP v2 fun p2 => HCalls Tryz.prog 34 #[.pointer p2] H fun v3 H1 => DI .i64 v3 fun x1 => BIf (decide (((n1 : Nat) : Int) < x1)) (NN p1 fun a3 => Ld H1 (a3.add 23) fun v4 => DSl v4 fun A2 n2 m2 => ixI (0 : Int) n2 (NN A2 fun a4 => Ld H1 ((a4.add ((0 : Int).toNat * 8)).add 1) fun v5 => DI .i64 v5 fun x2 => BIf (x2 != (1 : Int)) (Nw H1 (.row [.int .i64 ((n1 : Nat) : Int)] 3 1) fun b1 H2 => K (.tuple #[.slice (some ⟨b1, 0, none⟩) 1 1, .int .i64 (0 : Int)]) H2) (K (.tuple #[.slice none 0 0, .int .i64 (0 : Int)]) H1))) (K (.tuple #[.slice none 0 0, .int .i64 (0 : Int)]) H1)) (K (.tuple #[.slice none 0 0, .int .i64 (0 : Int)]) H)
def W_inspect_gaps.Λ (_ : Value → Hp → Prop) : Cuts := Cuts.none (fun _ => none)
theorem W_inspect_gaps.ok (p1 : Option Addr) (H : Hp) (K : Value → Hp → Prop) (h : W_inspect_gaps p1 H K) : HCalls Tryz.prog 180 #[.pointer p1] H K :=
  hcalls Tryz.func180 rfl (Nat.le_of_ble_eq_true rfl) (hw_safe (Λ := Cuts.none (fun _ => none)) mixWinspect _ _ _ _ _ (Eq.mp (by kernel_rfl) h) (obs_none _ _ _ _ _))

-- inspect.input
def W_inspect_input (p1 : Option Addr) (H : Hp) (K : Value → Hp → Prop) : Prop :=
  HCalls Tryz.prog 222 #[.pointer p1] H fun v1 H1 => DA v1 fun y1 => ixV y1 1 fun v2 => DI .i64 v2 fun x1 => BIf (decide (x1 < (2 : Int))) (K (.tuple #[.slice none 0 0, .int .i64 (0 : Int)]) H1) (HCalls Tryz.prog 222 #[.pointer p1] H1 fun v3 H2 => DA v3 fun y2 => ixV y2 6 fun v4 => DI .u32 v4 fun x2 => HCalls Tryz.prog 223 #[.pointer p1, .int .i64 (0 : Int), .int .u32 x2] H2 fun v5 H3 => DTup v5 fun l1 => DCons l1 fun v6 l2 => DSl v6 fun A1 n1 m1 => DCons l2 fun v7 l3 => DI .i64 v7 fun x3 => DNil l3 (K (.tuple #[.slice A1 n1 m1, .int .i64 x3]) H3))
def W_inspect_input.Λ (_ : Value → Hp → Prop) : Cuts := Cuts.none (fun _ => none)
theorem W_inspect_input.ok (p1 : Option Addr) (H : Hp) (K : Value → Hp → Prop) (h : W_inspect_input p1 H K) : HCalls Tryz.prog 181 #[.pointer p1] H K :=
  hcalls Tryz.func181 rfl (Nat.le_of_ble_eq_true rfl) (hw_safe (Λ := Cuts.none (fun _ => none)) mixWinspect _ _ _ _ _ (Eq.mp (by kernel_rfl) h) (obs_none _ _ _ _ _))

-- inspect.output
def W_inspect_output (p1 : Option Addr) (H : Hp) (K : Value → Hp → Prop) : Prop :=
  HCalls Tryz.prog 224 #[.pointer p1] H fun v1 H1 => DSl v1 fun A1 n1 m1 => BIf (((n1 : Nat) : Int) == (0 : Int)) (K (.tuple #[.slice none 0 0, .int .i64 (0 : Int)]) H1) (HCalls Tryz.prog 222 #[.pointer p1] H1 fun v2 H2 => DA v2 fun y1 => ixV y1 4 fun v3 => DI .i64 v3 fun x1 => BIf (x1 != ((n1 : Nat) : Int)) (K (.tuple #[.slice none 0 0, .int .i64 (0 : Int)]) H2) (HCalls Tryz.prog 222 #[.pointer p1] H2 fun v4 H3 => DA v4 fun y2 => ixV y2 7 fun v5 => DI .u32 v5 fun x2 => HCalls Tryz.prog 223 #[.pointer p1, .int .i64 (3 : Int), .int .u32 x2] H3 fun v6 H4 => DTup v6 fun l1 => DCons l1 fun v7 l2 => DSl v7 fun A2 n2 m2 => DCons l2 fun v8 l3 => DI .i64 v8 fun x3 => DNil l3 (K (.tuple #[.slice A2 n2 m2, .int .i64 x3]) H4)))
def W_inspect_output.Λ (_ : Value → Hp → Prop) : Cuts := Cuts.none (fun _ => none)
theorem W_inspect_output.ok (p1 : Option Addr) (H : Hp) (K : Value → Hp → Prop) (h : W_inspect_output p1 H K) : HCalls Tryz.prog 182 #[.pointer p1] H K :=
  hcalls Tryz.func182 rfl (Nat.le_of_ble_eq_true rfl) (hw_safe (Λ := Cuts.none (fun _ => none)) mixWinspect _ _ _ _ _ (Eq.mp (by kernel_rfl) h) (obs_none _ _ _ _ _))

-- inspect.source
def W_inspect_source (p1 : Option Addr) (H : Hp) (K : Value → Hp → Prop) : Prop :=
  HCalls Tryz.prog 224 #[.pointer p1] H fun v1 H1 => DSl v1 fun A1 n1 m1 => HCalls Tryz.prog 222 #[.pointer p1] H1 fun v2 H2 => DA v2 fun y1 => ixV y1 4 fun v3 => DI .i64 v3 fun x1 => BIf (decide (x1 > (0 : Int))) (BIf (decide (x1 < ((n1 : Nat) : Int))) (ixI (IntKind.i64.wrap (x1 - (1 : Int))) n1 (NN A1 fun a1 => (Ld H2 ((a1.add ((IntKind.i64.wrap (x1 - (1 : Int))).toNat * 8)).add 7) fun v4 => DI .i64 v4 fun x2 => HCalls Tryz.prog 222 #[.pointer p1] H2 fun v5 H3 => DA v5 fun y2 => ixV y2 7 fun v6 => DI .u32 v6 fun x3 => HCalls Tryz.prog 223 #[.pointer p1, .int .i64 x2, .int .u32 x3] H3 fun v7 H4 => DTup v7 fun l1 => DCons l1 fun v8 l2 => DSl v8 fun A2 n2 m2 => DCons l2 fun v9 l3 => DI .i64 v9 fun x4 => DNil l3 (K (.tuple #[.slice A2 n2 m2, .int .i64 x4]) H4)) ∧ (HCalls Tryz.prog 222 #[.pointer p1] H2 fun v10 H5 => DA v10 fun y3 => ixV y3 7 fun v11 => DI .u32 v11 fun x5 => Ld H5 ((a1.add ((IntKind.i64.wrap (x1 - (1 : Int))).toNat * 8)).add 7) fun v12 => DI .i64 v12 fun x6 => HCalls Tryz.prog 223 #[.pointer p1, .int .i64 x6, .int .u32 x5] H5 fun v13 H6 => DTup v13 fun l4 => DCons l4 fun v14 l5 => DSl v14 fun A3 n3 m3 => DCons l5 fun v15 l6 => DI .i64 v15 fun x7 => DNil l6 (K (.tuple #[.slice A3 n3 m3, .int .i64 x7]) H6)))) (K (.tuple #[.slice none 0 0, .int .i64 (0 : Int)]) H2)) (K (.tuple #[.slice none 0 0, .int .i64 (0 : Int)]) H2)
def W_inspect_source.Λ (_ : Value → Hp → Prop) : Cuts := Cuts.none (fun i => match Nat.beq i 4 with | true => some ([], [0, 0, 0, 4, 14, 30, 62, 0, 128, 384, 1023, 2047, 2047, 8191, 16383], 0) | false => none)
theorem W_inspect_source.ok (p1 : Option Addr) (H : Hp) (K : Value → Hp → Prop) (h : W_inspect_source p1 H K) : HCalls Tryz.prog 183 #[.pointer p1] H K :=
  hcalls Tryz.func183 rfl (Nat.le_of_ble_eq_true rfl) (hw_safe (Λ := Cuts.none (fun i => match Nat.beq i 4 with | true => some ([], [0, 0, 0, 4, 14, 30, 62, 0, 128, 384, 1023, 2047, 2047, 8191, 16383], 0) | false => none)) mixWinspect _ _ _ _ _ (Eq.mp (by kernel_rfl) h) (obs_none _ _ _ _ _))

-- (*inspect.view).last
def W_inspect_view_last (p1 : Option Addr) (H : Hp) (K : Value → Hp → Prop) : Prop :=
  Nw H (.obj (.cells #[.int .u64 (0 : Int), .int .i64 (0 : Int), .int .i64 (0 : Int), .int .i64 (0 : Int), .int .i64 (0 : Int), .int .u32 (0 : Int), .int .u32 (0 : Int), .int .u32 (0 : Int)] 91)) fun b1 H1 => NN p1 fun a1 => Ld H1 (a1.add 23) fun v1 => DSl v1 fun A1 n1 m1 => BIf (((n1 : Nat) : Int) == (0 : Int)) (StA H1 (⟨b1, 0, none⟩ : Addr) #[.int .u64 (0 : Int), .int .i64 (0 : Int), .int .i64 (0 : Int), .int .i64 (0 : Int), .int .i64 (0 : Int), .int .u32 (0 : Int), .int .u32 (0 : Int), .int .u32 (0 : Int)] 8 fun H2 => LdA H2 (⟨b1, 0, none⟩ : Addr) 8 fun l2 => K (.agg l2.toArray) H2) (NN p1 fun a2 => Ld H1 (a2.add 23) fun v2 => DSl v2 fun A2 n2 m2 => NN p1 fun a3 => Ld H1 (a3.add 23) fun v3 => DSl v3 fun A3 n3 m3 => ixI (IntKind.i64.wrap (((n3 : Nat) : Int) - (1 : Int))) n2 (NN A2 fun a4 => LdA H1 (a4.add ((IntKind.i64.wrap (((n3 : Nat) : Int) - (1 : Int))).toNat * 8)) 8 fun l1 => StA H1 (⟨b1, 0, none⟩ : Addr) l1.toArray 8 fun H3 => LdA H3 (⟨b1, 0, none⟩ : Addr) 8 fun l3 => K (.agg l3.toArray) H3))
def W_inspect_view_last.Λ (_ : Value → Hp → Prop) : Cuts := Cuts.none (fun i => match Nat.beq i 3 with | true => some ([], [0, 1, 2, 3, 4, 5, 6, 7, 8, 9, 10, 11], 12) | false => none)
theorem W_inspect_view_last.ok (p1 : Option Addr) (H : Hp) (K : Value → Hp → Prop) (h : W_inspect_view_last p1 H K) : HCalls Tryz.prog 222 #[.pointer p1] H K :=
  hcalls Tryz.func222 rfl (Nat.le_of_ble_eq_true rfl) (hw_safe (Λ := Cuts.none (fun i => match Nat.beq i 3 with | true => some ([], [0, 1, 2, 3, 4, 5, 6, 7, 8, 9, 10, 11], 12) | false => none)) mixWinspect _ _ _ _ _ (Eq.mp (by kernel_rfl) h) (obs_none _ _ _ _ _))

-- (*inspect.view).differs
def W_inspect_view_differs (p1 : Option Addr) (x1 : Int) (x2 : Int) (H : Hp) (K : Value → Hp → Prop) : Prop :=
  HCalls Tryz.prog 222 #[.pointer p1] H fun v1 H1 => DA v1 fun y1 => ixV y1 2 fun v2 => DI .i64 v2 fun x3 => HCalls Tryz.prog 256 #[.pointer p1, .int .i64 x1, .int .i64 x3] H1 fun v3 H2 => DTup v3 fun l1 => DCons l1 fun v4 l2 => DI .u32 v4 fun x4 => DCons l2 fun v5 l3 => DI .i64 v5 fun x5 => DNil l3 (BIf (x5 != (0 : Int)) (K (.tuple #[.slice none 0 0, .int .i64 x5]) H2) (BIf (x4 == x2) (K (.tuple #[.slice none 0 0, .int .i64 x5]) H2) (Nw H2 (.row [.int .i64 (IntKind.i64.wrap x4)] 3 1) fun b1 H3 => K (.tuple #[.slice (some ⟨b1, 0, none⟩) 1 1, .int .i64 (0 : Int)]) H3)))
def W_inspect_view_differs.Λ (_ : Value → Hp → Prop) : Cuts := Cuts.none (fun _ => none)
theorem W_inspect_view_differs.ok (p1 : Option Addr) (x1 : Int) (x2 : Int) (H : Hp) (K : Value → Hp → Prop) (h : W_inspect_view_differs p1 x1 x2 H K) : HCalls Tryz.prog 223 #[.pointer p1, .int .i64 x1, .int .u32 x2] H K :=
  hcalls Tryz.func223 rfl (Nat.le_of_ble_eq_true rfl) (hw_safe (Λ := Cuts.none (fun _ => none)) mixWinspect _ _ _ _ _ (Eq.mp (by kernel_rfl) h) (obs_none _ _ _ _ _))

-- (*inspect.view).passes
def W_inspect_view_passes (p1 : Option Addr) (H : Hp) (K : Value → Hp → Prop) : Prop :=
  HCalls Tryz.prog 222 #[.pointer p1] H fun v1 H1 => DA v1 fun y1 => ixV y1 1 fun v2 => DI .i64 v2 fun x1 => BIf (x1 != (4 : Int)) (K (.slice none 0 0) H1) (NN p1 fun a1 => NN p1 fun a2 => (HCalls Tryz.prog 222 #[.pointer p1] H1 fun v3 H2 => DA v3 fun y2 => ixV y2 2 fun v4 => DI .i64 v4 fun x2 => (HCalls Tryz.prog 222 #[.pointer p1] H2 fun v5 H3 => DA v5 fun y3 => ixV y3 3 fun v6 => DI .i64 v6 fun x3 => Ld H3 ((a1.add 5).add 1) fun v7 => DI .i64 v7 fun x4 => Ld H3 ((a2.add 1).add 3) fun v8 => DI .i64 v8 fun x5 => HCalls Tryz.prog 67 #[.int .i64 x2, .int .i64 x3, .int .i64 x4, .int .i64 x5] H3 fun v9 H4 => DTup v9 fun l1 => DCons l1 fun v10 l2 => DSl v10 fun A1 n1 m1 => DCons l2 fun v11 l3 => DI .i64 v11 fun x6 => DNil l3 (K (.slice A1 n1 m1) H4)) ∧ (Ld H2 ((a1.add 5).add 1) fun v12 => DI .i64 v12 fun x7 => (HCalls Tryz.prog 222 #[.pointer p1] H2 fun v13 H5 => DA v13 fun y4 => ixV y4 3 fun v14 => DI .i64 v14 fun x8 => Ld H5 ((a2.add 1).add 3) fun v15 => DI .i64 v15 fun x9 => HCalls Tryz.prog 67 #[.int .i64 x2, .int .i64 x8, .int .i64 x7, .int .i64 x9] H5 fun v16 H6 => DTup v16 fun l4 => DCons l4 fun v17 l5 => DSl v17 fun A2 n2 m2 => DCons l5 fun v18 l6 => DI .i64 v18 fun x10 => DNil l6 (K (.slice A2 n2 m2) H6)) ∧ (Ld H2 ((a2.add 1).add 3) fun v19 => DI .i64 v19 fun x11 => HCalls Tryz.prog 222 #[.pointer p1] H2 fun v20 H7 => DA v20 fun y5 => ixV y5 3 fun v21 => DI .i64 v21 fun x12 => HCalls Tryz.prog 67 #[.int .i64 x2, .int .i64 x12, .int .i64 x7, .int .i64 x11] H7 fun v22 H8 => DTup v22 fun l7 => DCons l7 fun v23 l8 => DSl v23 fun A3 n3 m3 => DCons l8 fun v24 l9 => DI .i64 v24 fun x13 => DNil l9 (K (.slice A3 n3 m3) H8))) ∧ (Ld H2 ((a2.add 1).add 3) fun v25 => DI .i64 v25 fun x14 => (HCalls Tryz.prog 222 #[.pointer p1] H2 fun v26 H9 => DA v26 fun y6 => ixV y6 3 fun v27 => DI .i64 v27 fun x15 => Ld H9 ((a1.add 5).add 1) fun v28 => DI .i64 v28 fun x16 => HCalls Tryz.prog 67 #[.int .i64 x2, .int .i64 x15, .int .i64 x16, .int .i64 x14] H9 fun v29 H10 => DTup v29 fun l10 => DCons l10 fun v30 l11 => DSl v30 fun A4 n4 m4 => DCons l11 fun v31 l12 => DI .i64 v31 fun x17 => DNil l12 (K (.slice A4 n4 m4) H10)) ∧ (Ld H2 ((a1.add 5).add 1) fun v32 => DI .i64 v32 fun x18 => HCalls Tryz.prog 222 #[.pointer p1] H2 fun v33 H11 => DA v33 fun y7 => ixV y7 3 fun v34 => DI .i64 v34 fun x19 => HCalls Tryz.prog 67 #[.int .i64 x2, .int .i64 x19, .int .i64 x18, .int .i64 x14] H11 fun v35 H12 => DTup v35 fun l13 => DCons l13 fun v36 l14 => DSl v36 fun A5 n5 m5 => DCons l14 fun v37 l15 => DI .i64 v37 fun x20 => DNil l15 (K (.slice A5 n5 m5) H12)))) ∧ (Ld H1 ((a1.add 5).add 1) fun v38 => DI .i64 v38 fun x21 => (HCalls Tryz.prog 222 #[.pointer p1] H1 fun v39 H13 => DA v39 fun y8 => ixV y8 2 fun v40 => DI .i64 v40 fun x22 => (HCalls Tryz.prog 222 #[.pointer p1] H13 fun v41 H14 => DA v41 fun y9 => ixV y9 3 fun v42 => DI .i64 v42 fun x23 => Ld H14 ((a2.add 1).add 3) fun v43 => DI .i64 v43 fun x24 => HCalls Tryz.prog 67 #[.int .i64 x22, .int .i64 x23, .int .i64 x21, .int .i64 x24] H14 fun v44 H15 => DTup v44 fun l16 => DCons l16 fun v45 l17 => DSl v45 fun A6 n6 m6 => DCons l17 fun v46 l18 => DI .i64 v46 fun x25 => DNil l18 (K (.slice A6 n6 m6) H15)) ∧ (Ld H13 ((a2.add 1).add 3) fun v47 => DI .i64 v47 fun x26 => HCalls Tryz.prog 222 #[.pointer p1] H13 fun v48 H16 => DA v48 fun y10 => ixV y10 3 fun v49 => DI .i64 v49 fun x27 => HCalls Tryz.prog 67 #[.int .i64 x22, .int .i64 x27, .int .i64 x21, .int .i64 x26] H16 fun v50 H17 => DTup v50 fun l19 => DCons l19 fun v51 l20 => DSl v51 fun A7 n7 m7 => DCons l20 fun v52 l21 => DI .i64 v52 fun x28 => DNil l21 (K (.slice A7 n7 m7) H17))) ∧ (Ld H1 ((a2.add 1).add 3) fun v53 => DI .i64 v53 fun x29 => HCalls Tryz.prog 222 #[.pointer p1] H1 fun v54 H18 => DA v54 fun y11 => ixV y11 2 fun v55 => DI .i64 v55 fun x30 => HCalls Tryz.prog 222 #[.pointer p1] H18 fun v56 H19 => DA v56 fun y12 => ixV y12 3 fun v57 => DI .i64 v57 fun x31 => HCalls Tryz.prog 67 #[.int .i64 x30, .int .i64 x31, .int .i64 x21, .int .i64 x29] H19 fun v58 H20 => DTup v58 fun l22 => DCons l22 fun v59 l23 => DSl v59 fun A8 n8 m8 => DCons l23 fun v60 l24 => DI .i64 v60 fun x32 => DNil l24 (K (.slice A8 n8 m8) H20))) ∧ (Ld H1 ((a2.add 1).add 3) fun v61 => DI .i64 v61 fun x33 => (HCalls Tryz.prog 222 #[.pointer p1] H1 fun v62 H21 => DA v62 fun y13 => ixV y13 2 fun v63 => DI .i64 v63 fun x34 => (HCalls Tryz.prog 222 #[.pointer p1] H21 fun v64 H22 => DA v64 fun y14 => ixV y14 3 fun v65 => DI .i64 v65 fun x35 => Ld H22 ((a1.add 5).add 1) fun v66 => DI .i64 v66 fun x36 => HCalls Tryz.prog 67 #[.int .i64 x34, .int .i64 x35, .int .i64 x36, .int .i64 x33] H22 fun v67 H23 => DTup v67 fun l25 => DCons l25 fun v68 l26 => DSl v68 fun A9 n9 m9 => DCons l26 fun v69 l27 => DI .i64 v69 fun x37 => DNil l27 (K (.slice A9 n9 m9) H23)) ∧ (Ld H21 ((a1.add 5).add 1) fun v70 => DI .i64 v70 fun x38 => HCalls Tryz.prog 222 #[.pointer p1] H21 fun v71 H24 => DA v71 fun y15 => ixV y15 3 fun v72 => DI .i64 v72 fun x39 => HCalls Tryz.prog 67 #[.int .i64 x34, .int .i64 x39, .int .i64 x38, .int .i64 x33] H24 fun v73 H25 => DTup v73 fun l28 => DCons l28 fun v74 l29 => DSl v74 fun A10 n10 m10 => DCons l29 fun v75 l30 => DI .i64 v75 fun x40 => DNil l30 (K (.slice A10 n10 m10) H25))) ∧ (Ld H1 ((a1.add 5).add 1) fun v76 => DI .i64 v76 fun x41 => HCalls Tryz.prog 222 #[.pointer p1] H1 fun v77 H26 => DA v77 fun y16 => ixV y16 2 fun v78 => DI .i64 v78 fun x42 => HCalls Tryz.prog 222 #[.pointer p1] H26 fun v79 H27 => DA v79 fun y17 => ixV y17 3 fun v80 => DI .i64 v80 fun x43 => HCalls Tryz.prog 67 #[.int .i64 x42, .int .i64 x43, .int .i64 x41, .int .i64 x33] H27 fun v81 H28 => DTup v81 fun l31 => DCons l31 fun v82 l32 => DSl v82 fun A11 n11 m11 => DCons l32 fun v83 l33 => DI .i64 v83 fun x44 => DNil l33 (K (.slice A11 n11 m11) H28))))
def W_inspect_view_passes.Λ (_ : Value → Hp → Prop) : Cuts := Cuts.none (fun i => match Nat.beq i 3 with | true => some ([10, 15], [0, 1, 3, 0, 11, 27, 0, 64, 192, 448, 960, 0, 2048, 6144, 14336, 30720, 65535, 131071, 262143, 262143, 524287, 2097151], 0) | false => none)
theorem W_inspect_view_passes.ok (p1 : Option Addr) (H : Hp) (K : Value → Hp → Prop) (h : W_inspect_view_passes p1 H K) : HCalls Tryz.prog 224 #[.pointer p1] H K :=
  hcalls Tryz.func224 rfl (Nat.le_of_ble_eq_true rfl) (hw_safe (Λ := Cuts.none (fun i => match Nat.beq i 3 with | true => some ([10, 15], [0, 1, 3, 0, 11, 27, 0, 64, 192, 448, 960, 0, 2048, 6144, 14336, 30720, 65535, 131071, 262143, 262143, 524287, 2097151], 0) | false => none)) mixWinspect _ _ _ _ _ (Eq.mp (by kernel_rfl) h) (obs_none _ _ _ _ _))

-- (*inspect.view).sum
def W_inspect_view_sum.j2 (K : Value → Hp → Prop) (p16 : Option Addr) (x9 : Int) (H : Hp) : Prop :=
  BIf (x9 != (0 : Int)) (K (.tuple #[.int .u32 (0 : Int), .int .i64 x9]) H) (HCalls Tryz.prog 65 #[.pointer p16] H fun v26 H11 => DTup v26 fun l20 => DCons l20 fun v27 l21 => DI .u32 v27 fun x10 => DCons l21 fun v28 l22 => DI .i64 v28 fun x11 => DNil l22 (K (.tuple #[.int .u32 x10, .int .i64 x11]) H11))
def W_inspect_view_sum (p1 : Option Addr) (x1 : Int) (x2 : Int) (H : Hp) (K : Value → Hp → Prop) : Prop :=
  NN p1 fun a1 => NN p1 fun a2 => Ld H ((a2.add 5).add 1) fun v1 => DI .i64 v1 fun x3 => NN p1 fun a3 => (Ld H (a1.add 0) fun v2 => DP v2 fun p2 => (HCalls Tryz.prog 51 #[.int .i64 x3] H fun v3 H1 => DP v3 fun p3 => LdA H1 (a3.add 5) 17 fun l1 => HCalls Tryz.prog 54 #[.pointer p2, .pointer p3, .agg l1.toArray, .int .i64 x1, .int .i64 x2] H1 fun v4 H2 => DTup v4 fun l2 => DCons l2 fun v5 l3 => DP v5 fun p4 => DCons l3 fun v6 l4 => DI .i64 v6 fun x4 => DNil l4 (W_inspect_view_sum.j2 K p4 x4 H2)) ∧ (LdA H (a3.add 5) 17 fun l5 => HCalls Tryz.prog 51 #[.int .i64 x3] H fun v7 H3 => DP v7 fun p5 => HCalls Tryz.prog 54 #[.pointer p2, .pointer p5, .agg l5.toArray, .int .i64 x1, .int .i64 x2] H3 fun v8 H4 => DTup v8 fun l6 => DCons l6 fun v9 l7 => DP v9 fun p6 => DCons l7 fun v10 l8 => DI .i64 v10 fun x5 => DNil l8 (W_inspect_view_sum.j2 K p6 x5 H4))) ∧ (HCalls Tryz.prog 51 #[.int .i64 x3] H fun v11 H5 => DP v11 fun p7 => Ld H5 (a1.add 0) fun v12 => DP v12 fun p8 => LdA H5 (a3.add 5) 17 fun l9 => HCalls Tryz.prog 54 #[.pointer p8, .pointer p7, .agg l9.toArray, .int .i64 x1, .int .i64 x2] H5 fun v13 H6 => DTup v13 fun l10 => DCons l10 fun v14 l11 => DP v14 fun p9 => DCons l11 fun v15 l12 => DI .i64 v15 fun x6 => DNil l12 (W_inspect_view_sum.j2 K p9 x6 H6)) ∧ (LdA H (a3.add 5) 17 fun l13 => (Ld H (a1.add 0) fun v16 => DP v16 fun p10 => HCalls Tryz.prog 51 #[.int .i64 x3] H fun v17 H7 => DP v17 fun p11 => HCalls Tryz.prog 54 #[.pointer p10, .pointer p11, .agg l13.toArray, .int .i64 x1, .int .i64 x2] H7 fun v18 H8 => DTup v18 fun l14 => DCons l14 fun v19 l15 => DP v19 fun p12 => DCons l15 fun v20 l16 => DI .i64 v20 fun x7 => DNil l16 (W_inspect_view_sum.j2 K p12 x7 H8)) ∧ (HCalls Tryz.prog 51 #[.int .i64 x3] H fun v21 H9 => DP v21 fun p13 => Ld H9 (a1.add 0) fun v22 => DP v22 fun p14 => HCalls Tryz.prog 54 #[.pointer p14, .pointer p13, .agg l13.toArray, .int .i64 x1, .int .i64 x2] H9 fun v23 H10 => DTup v23 fun l17 => DCons l17 fun v24 l18 => DP v24 fun p15 => DCons l18 fun v25 l19 => DI .i64 v25 fun x8 => DNil l19 (W_inspect_view_sum.j2 K p15 x8 H10)))
def W_inspect_view_sum.Λ (K : Value → Hp → Prop) : Cuts := ⟨fun i => match Nat.beq i 2 with | true => some (fun E D H => DG (E.get? 8) fun w8 => DP w8 fun p16 => DG (E.get? 9) fun w9 => DI .i64 w9 fun x9 => DNilD D (W_inspect_view_sum.j2 K p16 x9 H)) | false => none, fun i => none, (fun i => match Nat.beq i 1 with | true => some ([3, 8, 13], [0, 1, 3, 7, 0, 16, 48, 112, 240, 496, 0, 1024, 3072, 7168, 0, 0, 65535, 131071, 262143, 262143, 524287, 2097151], 0) | false => none)⟩
theorem W_inspect_view_sum.ok (p1 : Option Addr) (x1 : Int) (x2 : Int) (H : Hp) (K : Value → Hp → Prop) (h : W_inspect_view_sum p1 x1 x2 H K) : HCalls Tryz.prog 256 #[.pointer p1, .int .i64 x1, .int .i64 x2] H K :=
  hcalls Tryz.func256 rfl (Nat.le_of_ble_eq_true rfl) (hw_safe (Λ := (W_inspect_view_sum.Λ K)) mixWinspect _ _ _ _ _ (Eq.mp (by kernel_rfl) h) (obs_seq obs_region rfl (obs_seqc obs_region rfl (fun E D H h => by
      obtain ⟨w8, e8, g1⟩ := DG.out h
      obtain ⟨p16, rfl, g2⟩ := DP.out g1
      obtain ⟨w9, e9, g3⟩ := DG.out g2
      obtain ⟨x9, rfl, g4⟩ := DI.out g3
      obtain ⟨rfl, h'⟩ := DNilD.out g4
      exact (hw_safe (Λ := (W_inspect_view_sum.Λ K)) mixWinspect _ _ [(8, .pointer p16), (9, .int .i64 x9)] [] H (Eq.mp (by kernel_rfl) h') (obs_seq (obs_seq obs_region rfl (obs_cond (obs_seq obs_region rfl obs_ret) obs_skip)) rfl (obs_seq obs_region rfl obs_ret))).weaken (EnvLe.cons e8 (EnvLe.cons e9 (EnvLe.nil _))) (Hp.le_refl _)))))

end Go.Proofs.YtlgpappgnndgiaaGreatDoor.W

end
section
/-! Wabacistlaw35 -/
/- Formulas of functions, printed by wip/tools/hwp.py. -/
set_option maxRecDepth 100000
set_option linter.unusedVariables false
namespace Go.Proofs.YtlgpappgnndgiaaGreatDoor.W
open Go Go.Hw

theorem mixWabacistlaw35 : Tryz.prog.follows .mixedOrders = true := by kernel_rfl
-- abacistlaw35.InspectWords
def W_abacistlaw35_InspectWords.j12 (K : Value → Hp → Prop) (R8 : Option Addr → Nat → Nat → Int → Addr → Int → Int → Hp → Prop) (A3 : Option Addr) (n3 : Nat) (m3 : Nat) (x6 : Int) (a3 : Addr) (x7 : Int) (x8 : Int) (H : Hp) : Prop :=
  ixI x8 n3 (NN A3 fun a4 => LdA H (a4.add (x8.toNat * 2)) 2 fun l1 => HCalls Tryz.prog 46 #[.agg l1.toArray] H fun v3 H4 => DS v3 fun s1 => ixI x8 n3 (NN A3 fun a5 => Ld H4 ((a5.add (x8.toNat * 2)).add 0) fun v4 => DI .i64 v4 fun x9 => BIf (decide (x9 < (1 : Int))) (BIf (!(s1.toList == ((⟨#[]⟩) : ByteArray).toList)) (K (.bool false) H4) (R8 A3 n3 m3 x6 a3 x7 (IntKind.i64.wrap (x8 + (1 : Int))) H4)) (ixI x8 n3 (NN A3 fun a6 => Ld H4 ((a6.add (x8.toNat * 2)).add 0) fun v5 => DI .i64 v5 fun x10 => BIf (decide (x10 > (6 : Int))) (BIf (!(s1.toList == ((⟨#[]⟩) : ByteArray).toList)) (K (.bool false) H4) (R8 A3 n3 m3 x6 a3 x7 (IntKind.i64.wrap (x8 + (1 : Int))) H4)) (ixI x8 n3 (NN A3 fun a7 => Ld H4 ((a7.add (x8.toNat * 2)).add 1) fun v6 => DI .i64 v6 fun x11 => BIf (decide (x11 ≥ (0 : Int))) (ixI x8 n3 (NN A3 fun a8 => Ld H4 ((a8.add (x8.toNat * 2)).add 0) fun v7 => DI .i64 v7 fun x12 => ixI x12 7 (Ld H4 (a3.add (x12.toNat * 1)) fun v8 => DS v8 fun s2 => ixI x8 n3 (NN A3 fun a9 => Ld H4 ((a9.add (x8.toNat * 2)).add 1) fun v9 => DI .i64 v9 fun x13 => QCall Tryz.prog 47 #[.int .u64 (IntKind.u64.wrap x13)] H4 fun v10 => DS v10 fun s3 => (s2.size + s3.size ≤ 4611686018427387904 ∧ BIf (!(s1.toList == (s2 ++ s3).toList)) (K (.bool false) H4) (R8 A3 n3 m3 x6 a3 x7 (IntKind.i64.wrap (x8 + (1 : Int))) H4)))))) (R8 A3 n3 m3 x6 a3 x7 (IntKind.i64.wrap (x8 + (1 : Int))) H4)))))))
def W_abacistlaw35_InspectWords.l8 (K : Value → Hp → Prop) : Nat → Option Addr → Nat → Nat → Int → Addr → Int → Int → Hp → Prop
  | 0, _, _, _, _, _, _, _, _ => False
  | k + 1, A2, n2, m2, x2, a1, x3, x4, H =>
    let R8 := W_abacistlaw35_InspectWords.l8 K k
    BIf (decide (x4 < ((n2 : Nat) : Int))) (ixI x4 n2 (NN A2 fun a2 => Ld H ((a2.add (x4.toNat * 2)).add 0) fun v2 => DI .i64 v2 fun x5 => BIf (x5 == x2) (W_abacistlaw35_InspectWords.j12 K R8 A2 n2 m2 x2 a1 (IntKind.i64.wrap (x3 + (1 : Int))) x4 H) (W_abacistlaw35_InspectWords.j12 K R8 A2 n2 m2 x2 a1 x3 x4 H))) (HCalls Tryz.prog 48 #[.slice A2 n2 m2, .int .i64 x2] H fun v11 H5 => DI .i64 v11 fun x14 => K (.bool (x14 == x3)) H5)
def W_abacistlaw35_InspectWords (A1 : Option Addr) (n1 : Nat) (m1 : Nat) (x1 : Int) (H : Hp) (K : Value → Hp → Prop) : Prop :=
  HCalls Tryz.prog 45 #[] H fun v1 H1 => DB v1 fun c1 => BIf (!c1) (K (.bool false) H1) (BIf (decide (((n1 : Nat) : Int) > (40 : Int))) (K (.bool true) H1) (Nw H1 (.obj (.cells #[.string ByteArray.empty, .string ByteArray.empty, .string ByteArray.empty, .string ByteArray.empty, .string ByteArray.empty, .string ByteArray.empty, .string ByteArray.empty] 115)) fun b1 H2 => StA H2 (⟨b1, 0, none⟩ : Addr) #[.string (⟨#[]⟩), .string (⟨#[98, 97, 114, 101, 32]⟩), .string (⟨#[115, 108, 111, 116, 32]⟩), .string (⟨#[103, 97, 112, 32]⟩), .string (⟨#[105, 110, 112, 117, 116, 32]⟩), .string (⟨#[111, 117, 116, 112, 117, 116, 32]⟩), .string (⟨#[115, 111, 117, 114, 99, 101, 32]⟩)] 7 fun H3 => (∃ k, W_abacistlaw35_InspectWords.l8 K k A1 n1 m1 x1 (⟨b1, 0, none⟩ : Addr) (0 : Int) (0 : Int) H3)))
def W_abacistlaw35_InspectWords.l8.L (K : Value → Hp → Prop) (k : Nat) : Mid := fun E D H =>
  DG (E.get? 0) fun w0 => DSl w0 fun A2 n2 m2 => DG (E.get? 1) fun w1 => DI .i64 w1 fun x2 => DG (E.get? 5) fun w5 => DP w5 fun pw5 => NN pw5 fun a1 => DG (E.get? 6) fun w6 => DI .i64 w6 fun x3 => DG (E.get? 7) fun w7 => DI .i64 w7 fun x4 => DNilD D (W_abacistlaw35_InspectWords.l8 K k A2 n2 m2 x2 a1 x3 x4 H)
def W_abacistlaw35_InspectWords.Λ8 (K : Value → Hp → Prop) (R8 : Option Addr → Nat → Nat → Int → Addr → Int → Int → Hp → Prop) : Cuts := ⟨fun i => match Nat.beq i 12 with | true => some (fun E D H => DG (E.get? 0) fun w0 => DSl w0 fun A3 n3 m3 => DG (E.get? 1) fun w1 => DI .i64 w1 fun x6 => DG (E.get? 5) fun w5 => DP w5 fun pw5 => NN pw5 fun a3 => DG (E.get? 6) fun w6 => DI .i64 w6 fun x7 => DG (E.get? 7) fun w7 => DI .i64 w7 fun x8 => DNilD D (W_abacistlaw35_InspectWords.j12 K R8 A3 n3 m3 x6 a3 x7 x8 H)) | false => none, fun i => none, (fun _ => none)⟩
def W_abacistlaw35_InspectWords.Λ (K : Value → Hp → Prop) : Cuts := ⟨fun i => none, fun i => match Nat.beq i 8 with | true => some (fun E D H => ∃ k, W_abacistlaw35_InspectWords.l8.L K k E D H) | false => none, (fun _ => none)⟩
theorem W_abacistlaw35_InspectWords.ok (A1 : Option Addr) (n1 : Nat) (m1 : Nat) (x1 : Int) (H : Hp) (K : Value → Hp → Prop) (h : W_abacistlaw35_InspectWords A1 n1 m1 x1 H K) : HCalls Tryz.prog 7 #[.slice A1 n1 m1, .int .i64 x1] H K :=
  hcalls Tryz.func7 rfl (Nat.le_of_ble_eq_true rfl) (hw_safe (Λ := (W_abacistlaw35_InspectWords.Λ K)) mixWabacistlaw35 _ _ _ _ _ (Eq.mp (by kernel_rfl) h) (obs_seq obs_region rfl (obs_seq (obs_seq obs_region rfl (obs_cond (obs_seq obs_region rfl obs_ret) obs_skip)) rfl (obs_seq (obs_seq obs_region rfl (obs_cond (obs_seq obs_region rfl obs_ret) obs_skip)) rfl (obs_seq obs_region rfl (obs_seq obs_region rfl (obs_seq (obs_seq obs_region rfl (obs_block (obs_loop rfl (fun E D H h => by
      refine Safe.loop' (W_abacistlaw35_InspectWords.l8.L K) (fun E D H h => ?_) (fun k E D H h => ?_) E D H h
      · obtain ⟨w0, e0, g1⟩ := DG.out h; obtain ⟨A2, n2, m2, rfl, g2⟩ := DSl.out g1; obtain ⟨w1, e1, g3⟩ := DG.out g2; obtain ⟨x2, rfl, g4⟩ := DI.out g3; obtain ⟨w5, e5, g5⟩ := DG.out g4; obtain ⟨pw5, rfl, g6⟩ := DP.out g5; obtain ⟨a1, rfl, g7⟩ := NN.out g6; obtain ⟨w6, e6, g8⟩ := DG.out g7; obtain ⟨x3, rfl, g9⟩ := DI.out g8; obtain ⟨w7, e7, g10⟩ := DG.out g9; obtain ⟨x4, rfl, g11⟩ := DI.out g10; obtain ⟨rfl, h'⟩ := DNilD.out g11; exact h'
      · obtain ⟨w0, e0, g1⟩ := DG.out h
        obtain ⟨A2, n2, m2, rfl, g2⟩ := DSl.out g1
        obtain ⟨w1, e1, g3⟩ := DG.out g2
        obtain ⟨x2, rfl, g4⟩ := DI.out g3
        obtain ⟨w5, e5, g5⟩ := DG.out g4
        obtain ⟨pw5, rfl, g6⟩ := DP.out g5
        obtain ⟨a1, rfl, g7⟩ := NN.out g6
        obtain ⟨w6, e6, g8⟩ := DG.out g7
        obtain ⟨x3, rfl, g9⟩ := DI.out g8
        obtain ⟨w7, e7, g10⟩ := DG.out g9
        obtain ⟨x4, rfl, g11⟩ := DI.out g10
        obtain ⟨rfl, h'⟩ := DNilD.out g11
        exact (hw_safe (Λ := (W_abacistlaw35_InspectWords.Λ8 K (W_abacistlaw35_InspectWords.l8 K k))) mixWabacistlaw35 _ _ [(0, .slice A2 n2 m2), (1, .int .i64 x2), (5, .pointer (some a1)), (6, .int .i64 x3), (7, .int .i64 x4)] [] H (Eq.mp (by kernel_rfl) h') (obs_seq (obs_seq obs_region rfl (obs_cond obs_skip obs_exit)) rfl (obs_seq (obs_block (obs_seqc (obs_seq obs_region rfl (obs_cond obs_region obs_skip)) rfl (fun E D H h => by
            obtain ⟨w0, e0, g1⟩ := DG.out h
            obtain ⟨A3, n3, m3, rfl, g2⟩ := DSl.out g1
            obtain ⟨w1, e1, g3⟩ := DG.out g2
            obtain ⟨x6, rfl, g4⟩ := DI.out g3
            obtain ⟨w5, e5, g5⟩ := DG.out g4
            obtain ⟨pw5, rfl, g6⟩ := DP.out g5
            obtain ⟨a3, rfl, g7⟩ := NN.out g6
            obtain ⟨w6, e6, g8⟩ := DG.out g7
            obtain ⟨x7, rfl, g9⟩ := DI.out g8
            obtain ⟨w7, e7, g10⟩ := DG.out g9
            obtain ⟨x8, rfl, g11⟩ := DI.out g10
            obtain ⟨rfl, h'⟩ := DNilD.out g11
            exact (hw_safe (Λ := (W_abacistlaw35_InspectWords.Λ8 K (W_abacistlaw35_InspectWords.l8 K k))) mixWabacistlaw35 _ _ [(0, .slice A3 n3 m3), (1, .int .i64 x6), (5, .pointer (some a3)), (6, .int .i64 x7), (7, .int .i64 x8)] [] H (Eq.mp (by kernel_rfl) h') (obs_seq obs_region rfl (obs_seq (obs_seq obs_region rfl (obs_cond (obs_seq (obs_seq obs_region rfl (obs_cond (obs_seq obs_region rfl obs_ret) obs_skip)) rfl obs_exit) obs_skip)) rfl (obs_seq obs_region rfl (obs_cond (obs_seq obs_region rfl obs_ret) obs_skip))))).weaken (EnvLe.cons e0 (EnvLe.cons e1 (EnvLe.cons e5 (EnvLe.cons e6 (EnvLe.cons e7 (EnvLe.nil _)))))) (Hp.le_refl _)))) rfl obs_region))).weaken (EnvLe.cons e0 (EnvLe.cons e1 (EnvLe.cons e5 (EnvLe.cons e6 (EnvLe.cons e7 (EnvLe.nil _)))))) (Hp.le_refl _))))) rfl (obs_seq obs_region rfl obs_ret))))))))

-- abacistlaw35.awake
def W_abacistlaw35_awake (H : Hp) (K : Value → Hp → Prop) : Prop :=
  HCalls Tryz.prog 23 #[.int .i64 (13 : Int), .int .i64 (32 : Int)] H fun v1 H1 => DP v1 fun p1 => HCalls Tryz.prog 85 #[.pointer p1] H1 fun v2 H2 => DTup v2 fun l1 => DCons l1 fun v3 l2 => DSl v3 fun A1 n1 m1 => DCons l2 fun v4 l3 => DI .i64 v4 fun x1 => DNil l3 (BIf (x1 == (0 : Int)) (BIf (((n1 : Nat) : Int) == (1 : Int)) (ixI (0 : Int) n1 (NN A1 fun a1 => LdA H2 (a1.add ((0 : Int).toNat * 2)) 2 fun l4 => EqV Tryz.prog .eql 117 (.agg l4.toArray) (.agg #[.int .i64 (1 : Int), .int .i64 (0 : Int)]) fun c1 => BIf c1 (ixI (0 : Int) n1 (NN A1 fun a2 => LdA H2 (a2.add ((0 : Int).toNat * 2)) 2 fun l5 => HCalls Tryz.prog 46 #[.agg l5.toArray] H2 fun v5 H3 => DS v5 fun s1 => K (.bool (s1.toList == ((⟨#[98, 97, 114, 101, 32, 48]⟩) : ByteArray).toList)) H3)) (K (.bool false) H2))) (K (.bool false) H2)) (K (.bool false) H2))
def W_abacistlaw35_awake.Λ (_ : Value → Hp → Prop) : Cuts := Cuts.none (fun _ => none)
theorem W_abacistlaw35_awake.ok (H : Hp) (K : Value → Hp → Prop) (h : W_abacistlaw35_awake H K) : HCalls Tryz.prog 45 #[] H K :=
  hcalls Tryz.func45 rfl (Nat.le_of_ble_eq_true rfl) (hw_safe (Λ := Cuts.none (fun _ => none)) mixWabacistlaw35 _ _ _ _ _ (Eq.mp (by kernel_rfl) h) (obs_none _ _ _ _ _))

end Go.Proofs.YtlgpappgnndgiaaGreatDoor.W

end
section
/-! InsA -/
/- inspect: a finding's line, how many of a kind; a disk that was never formatted; law 35: InspectWords. -/
set_option maxRecDepth 100000
set_option linter.unusedSimpArgs false
set_option linter.unusedVariables false
set_option linter.unnecessarySimpa false
set_option linter.unusedSectionVars false
namespace Go.Proofs.YtlgpappgnndgiaaGreatDoor.Ins
open Go Go.Hw Go.Proofs.YtlgpappgnndgiaaGreatDoor.W Go.Proofs.YtlgpappgnndgiaaGreatDoor.Dec

def iw : Nat → List UInt8
  | 1 => [98, 97, 114, 101] | 2 => [115, 108, 111, 116] | 3 => [103, 97, 112] | 4 => [105, 110, 112, 117, 116] | 5 => [111, 117, 116, 112, 117, 116] | 6 => [115, 111, 117, 114, 99, 101] | _ => []
def wordsI : List Value := [.string ⟨#[]⟩, .string ⟨#[98, 97, 114, 101]⟩, .string ⟨#[115, 108, 111, 116]⟩, .string ⟨#[103, 97, 112]⟩, .string ⟨#[105, 110, 112, 117, 116]⟩, .string ⟨#[111, 117, 116, 112, 117, 116]⟩, .string ⟨#[115, 111, 117, 114, 99, 101]⟩]
def Words (H : Hp) : Prop := Cells H (some ⟨0, 0, none⟩) wordsI
theorem Words.le {H H' : Hp} (h : Words H) (k : H.le H') : Words H' := Cells.le h k
theorem words_get : ∀ i, i < 7 → wordsI[i]? = some (.string ⟨⟨iw i⟩⟩)
  | 0, _ => rfl | 1, _ => rfl | 2, _ => rfl | 3, _ => rfl | 4, _ => rfl | 5, _ => rfl | 6, _ => rfl
  | i + 7, h => absurd h (by omega)
theorem iw_len (i : Nat) : (iw i).length ≤ 6 := by unfold iw; split <;> decide
theorem itoa_len {x : Int} (hx : -9223372036854775808 ≤ x ∧ x ≤ 9223372036854775807) : (itoaS x).length ≤ 21 := by
  have := dd_len (x := x.natAbs) (by omega)
  unfold itoaS
  split
  · simp; omega
  · omega

def lineI (k x : Int) : List UInt8 := if 1 ≤ k ∧ k ≤ 6 then iw k.toNat ++ 32 :: itoaS x else []

theorem Line_ok (k x : Int) (hx : -9223372036854775808 ≤ x ∧ x ≤ 9223372036854775807) (H : Hp) (hW : Words H) (hP : P10 H) :
    HCalls Tryz.prog 46 #[.agg #[.int .i64 k, .int .i64 x]] H (RetE (.string ⟨⟨lineI k x⟩⟩) H) := HCalls.ret (by
  apply W_inspect_Line.ok
  unfold W_inspect_Line
  refine (Sep.start H).nw fun b1 H1 hs => ?_
  first | refine hs.ldf 1 rfl rfl ?_ | refine hs.ldg 1 rfl rfl ?_
  try simp only [DI_int', DB_bool, DS_string, DP_pointer, DSl_slice, DM_map, DA_agg, DTup_tuple, DCons_cons, DNil_nil, NN_some, BIf_true, BIf_false, BIf_same, List.toList_toArray, Bool.not_true, Bool.not_false]
  by_cases h1 : k < 1
  · refine BIf_dpos h1 ?_
    unfold lineI
    rw [if_neg (by omega)]
    exact hs.fin 0 rfl _
  refine BIf_dneg h1 ?_
  first | refine hs.ldf 1 rfl rfl ?_ | refine hs.ldg 1 rfl rfl ?_
  try simp only [DI_int', DB_bool, DS_string, DP_pointer, DSl_slice, DM_map, DA_agg, DTup_tuple, DCons_cons, DNil_nil, NN_some, BIf_true, BIf_false, BIf_same, List.toList_toArray, Bool.not_true, Bool.not_false]
  by_cases h6 : k > 6
  · refine BIf_dpos h6 ?_
    unfold lineI
    rw [if_neg (by omega)]
    exact hs.fin 0 rfl _
  refine BIf_dneg h6 ?_
  obtain ⟨i, rfl⟩ := Int.eq_ofNat_of_zero_le (show 0 ≤ k by omega)
  have hl : lineI (i : Int) x = iw i ++ 32 :: itoaS x := by unfold lineI; rw [if_pos (by omega), Int.toNat_natCast]
  rw [hl]
  have hwl := iw_len i
  have hil := itoa_len hx
  have hw : ∀ {K : Value → Prop}, K (.string ⟨⟨iw i⟩⟩) → Ld H1 ((⟨0, 0, none⟩ : Addr).add ((i : Int).toNat * 1)) K := fun k => by
    obtain ⟨a, ha, hc⟩ := (hW.le (hs.ow 0 rfl)) i _ (words_get i (by omega))
    cases ha
    rw [Int.toNat_natCast, Nat.mul_one]
    exact Ld_of hc k
  have hI := Itoa_ok x hx H1 (hP.le (hs.ow 0 rfl))
  have s1 : (⟨⟨iw i⟩⟩ : ByteArray).size + (⟨#[32]⟩ : ByteArray).size ≤ 4611686018427387904 := by
    show (iw i).length + 1 ≤ _; omega
  have eA : (⟨⟨iw i⟩⟩ : ByteArray) ++ (⟨#[32]⟩ : ByteArray) = ⟨(iw i ++ [32]).toArray⟩ := ba_app (iw i) [32]
  have s2 : ((⟨⟨iw i⟩⟩ : ByteArray) ++ (⟨#[32]⟩ : ByteArray)).size + (⟨⟨itoaS x⟩⟩ : ByteArray).size ≤ 4611686018427387904 := by
    rw [eA]
    show (iw i ++ [32]).toArray.size + (itoaS x).length ≤ _
    simp only [List.size_toArray, List.length_append, List.length_singleton]; omega
  have eB : ((⟨⟨iw i⟩⟩ : ByteArray) ++ (⟨#[32]⟩ : ByteArray)) ++ (⟨⟨itoaS x⟩⟩ : ByteArray) = ⟨⟨iw i ++ 32 :: itoaS x⟩⟩ := by
    rw [eA]
    refine (ba_app (iw i ++ [32]) (itoaS x)).trans ?_
    rw [List.append_assoc]
    rfl
  have fin : ∀ (X : ByteArray), X = ⟨⟨iw i ++ 32 :: itoaS x⟩⟩ → Ret (.string ⟨⟨iw i ++ 32 :: itoaS x⟩⟩) H (.string X) H1 := fun X hX => by
    rw [hX]; exact hs.fin 0 rfl _
  have ix : ∀ {K : Prop}, K → ixI (i : Int) 7 K := fun k => ⟨by omega, by omega, k⟩
  have ldk : ∀ {K : Value → Prop}, K (.int .i64 (i : Int)) → Ld H1 ((⟨b1, 0, none⟩ : Addr).add 0) K := fun k => hs.ldf 1 rfl rfl k
  have ldn : ∀ {K : Value → Prop}, K (.int .i64 x) → Ld H1 ((⟨b1, 0, none⟩ : Addr).add 1) K := fun k => hs.ldf 1 rfl rfl k
  refine ⟨ldk (ix ⟨hw ⟨s1, ldn (HCalls.use hI ⟨s2, fin _ eB⟩)⟩, ldn ⟨hw ⟨s1, HCalls.use hI ⟨s2, fin _ eB⟩⟩, HCalls.use hI (hw ⟨s1, s2, fin _ eB⟩)⟩⟩),
    ldn ⟨ldk (ix ⟨hw ⟨s1, HCalls.use hI ⟨s2, fin _ eB⟩⟩, HCalls.use hI (hw ⟨s1, s2, fin _ eB⟩)⟩), HCalls.use hI (ldk (ix (hw ⟨s1, s2, fin _ eB⟩)))⟩⟩)

/-! ## Counting -/

def frow (f : Int × Int) : List Value := [.int .i64 f.1, .int .i64 f.2]
def cntF (k : Int) (l : List (Int × Int)) : Nat := l.countP fun f => decide (f.1 = k)

theorem rowA {H : Hp} {A : Option Addr} {rows : List (List Value)} (h : CellsS 2 H A rows) {i : Nat} {u v : Value} (hi : rows[i]? = some [u, v]) {x : Int} (hx : x = i) {n : Nat} (hn : rows.length ≤ n) {K : List Value → Prop} (k : K [u, v]) :
    ixI x n (NN A fun a => LdA H (a.add (x.toNat * 2)) 2 K) := by
  obtain ⟨a, rfl, hc⟩ := h i _ hi
  subst hx
  have := (List.getElem?_eq_some_iff.1 hi).1
  refine ⟨by omega, by omega, ?_⟩
  rw [Int.toNat_natCast, NN_some]
  unfold LdA Hp.cells? Hp.cells? Hp.cells?
  rw [add_add, add_add, hc 0 u rfl, hc 1 v rfl]
  exact k

theorem cntF_next (k : Int) (l : List (Int × Int)) (j : Nat) (h : j < l.length) : cntF k (l.take (j + 1)) = cntF k (l.take j) + if l[j].1 = k then 1 else 0 := by
  unfold cntF
  rw [List.take_succ_eq_append_getElem h, List.countP_append]
  congr 1
  simp [List.countP_cons]

theorem Count_loop (k : Int) (A : Option Addr) (n m : Nat) (l : List (Int × Int)) (hn : n = l.length) (hl : n ≤ 1000) (H0 : Hp) (hc : CellsS 2 H0 A (l.map frow)) :
    ∀ (t j : Nat) (H : Hp), j + t = n → H0.le H → W_inspect_Count.l3 (Ret (.int .i64 (cntF k l : Int)) H0) (t + 1) k (cntF k (l.take j) : Int) A n m (n : Int) (j : Int) H
  | 0, j, H, hj, hle => by
    unfold W_inspect_Count.l3
    refine BIf_dneg (by omega) ?_
    rw [List.take_of_length_le (by omega)]
    exact ⟨rfl, hle⟩
  | t + 1, j, H, hj, hle => by
    unfold W_inspect_Count.l3
    refine BIf_dpos (by omega) ?_
    have hlt : j < l.length := by omega
    refine rowA (hc.le hle) (i := j) (u := .int .i64 l[j].1) (v := .int .i64 l[j].2) (by rw [List.getElem?_map, List.getElem?_eq_getElem hlt]; rfl) rfl (by rw [List.length_map]; omega) ?_
    refine (Sep.start H).nw fun b1 H1 hs => ?_
    first | refine hs.stw 1 rfl rfl rfl rfl fun H hs => ?_
    try simp only [DI_int', DB_bool, DS_string, DP_pointer, DSl_slice, DM_map, DA_agg, DTup_tuple, DCons_cons, DNil_nil, NN_some, BIf_true, BIf_false, BIf_same, List.toList_toArray, Bool.not_true, Bool.not_false]
    first | refine hs.ldf 1 rfl rfl ?_ | refine hs.ldg 1 rfl rfl ?_
    try simp only [DI_int', DB_bool, DS_string, DP_pointer, DSl_slice, DM_map, DA_agg, DTup_tuple, DCons_cons, DNil_nil, NN_some, BIf_true, BIf_false, BIf_same, List.toList_toArray, Bool.not_true, Bool.not_false]
    have hle2 := Hp.le_trans hle (hs.ow 0 rfl)
    have hnx := cntF_next k l j hlt
    have hcl : cntF k (l.take j) ≤ j := by
      have := List.countP_le_length (p := fun f : Int × Int => decide (f.1 = k)) (l := l.take j)
      rw [List.length_take] at this
      unfold cntF
      omega
    have ih := Count_loop k A n m l hn hl H0 hc t (j + 1) _ (by omega) hle2
    rw [i64w (x := (j : Int) + 1) (by omega) (by omega)]
    by_cases he : l[j].1 = k
    · refine BIf_beqp he ?_
      rw [i64w (x := (cntF k (l.take j) : Int) + 1) (by omega) (by omega)]
      rw [if_pos he] at hnx
      rw [show (cntF k (l.take j) : Int) + 1 = ((cntF k (l.take (j + 1)) : Nat) : Int) by omega]
      exact ih
    · refine BIf_beqn he ?_
      rw [if_neg he] at hnx
      rw [show (cntF k (l.take j) : Int) = ((cntF k (l.take (j + 1)) : Nat) : Int) by omega]
      exact ih

theorem Count_ok (k : Int) (A : Option Addr) (n m : Nat) (l : List (Int × Int)) (hn : n = l.length) (hl : n ≤ 1000) (H : Hp) (hc : CellsS 2 H A (l.map frow)) :
    HCalls Tryz.prog 48 #[.slice A n m, .int .i64 k] H (RetE (.int .i64 (cntF k l : Int)) H) := HCalls.ret (by
  apply W_inspect_Count.ok
  unfold W_inspect_Count
  exact ⟨n + 1, Count_loop k A n m l hn hl H hc n 0 H (by omega) (Hp.le_refl _)⟩)

/-! ## A disk that was never formatted -/

theorem zeros_take : (Sup.takeV (List.replicate 32 0)).2 = 10 := by decide +kernel

theorem bare_read {p : Nat} : Tr Tryz.prog 177 #[.pointer (some ⟨p, 0, none⟩)] [Dsk.Dk p (Dsk.D.fresh 13 32)] fun v _ => v = .tuple #[.agg (Sup.supV 0 0 0 0), .int .i64 10] := fun H hs => by
  have hok : Dsk.Ok (Dsk.D.fresh 13 32) := Dsk.Ok.fresh (by omega) (by decide) (by omega)
  apply W_super_Read.ok
  unfold W_super_Read
  refine hs.nw fun b1 H hs => ?_
  refine (Dsk.Read_tr (p := p) (d := Dsk.D.fresh 13 32) hok (by decide) 0).use hs [0] rfl rfl ?_
  rintro _ _ H (⟨h, _⟩ | ⟨_, h, _⟩ | ⟨_, _, b, c, m, rfl, hcc, rfl⟩) hs
  · exact absurd (by decide) h
  · exact absurd h (by decide)
  · simp only [DI_int', DB_bool, DS_string, DP_pointer, DSl_slice, DM_map, DA_agg, DTup_tuple, DCons_cons, DNil_nil, NN_some, BIf_true, BIf_false, BIf_same, List.toList_toArray, Bool.not_true, Bool.not_false]
    refine BIf_bnen rfl ?_
    have hnow : (Dsk.D.fresh 13 32).now 0 = List.replicate 32 0 := by decide +kernel
    have hsz : (Dsk.D.fresh 13 32).size = 32 := rfl
    rw [hnow] at hs
    rw [hsz] at hcc ⊢
    have hcell : Cells H (some ⟨b, 0, none⟩) (byteVals (List.replicate 32 0)) := by
      have := Cells.row (hs.get 1 (b := b) (o := .row (byteVals (List.replicate 32 0)) 5 m) rfl) 0 32
      rw [List.drop_zero, List.take_of_length_le (by rw [byteVals_length]; decide)] at this
      exact this
    refine HCalls.use (Sup.Take_ok (some ⟨b, 0, none⟩) 32 c hcc (by omega) (List.replicate 32 0) rfl H hcell) ?_
    rw [zeros_take]
    unfold Sup.sbV
    simp only [DI_int', DB_bool, DS_string, DP_pointer, DSl_slice, DM_map, DA_agg, DTup_tuple, DCons_cons, DNil_nil, NN_some, BIf_true, BIf_false, BIf_same, List.toList_toArray, Bool.not_true, Bool.not_false]
    refine hs.nw fun b2 H hs => ?_
    refine hs.stw 3 (y := Sup.supV _ _ _ _) rfl rfl rfl rfl fun H hs => ?_
    refine BIf_bnep (by decide) ?_
    refine hs.stw 2 rfl rfl rfl rfl fun H hs => ?_
    refine hs.ldw 2 rfl rfl ?_
    exact ⟨_, rfl, hs⟩

end Go.Proofs.YtlgpappgnndgiaaGreatDoor.Ins

end
section
/-! InsB -/
/- law 35: InspectWords. -/
set_option maxRecDepth 100000
set_option linter.unusedSimpArgs false
set_option linter.unusedVariables false
set_option linter.unnecessarySimpa false
set_option linter.unusedSectionVars false
namespace Go.Proofs.YtlgpappgnndgiaaGreatDoor.Ins
open Go Go.Hw Go.Proofs.YtlgpappgnndgiaaGreatDoor.W Go.Proofs.YtlgpappgnndgiaaGreatDoor.Dec

theorem open_bare {p : Nat} : Tr Tryz.prog 136 #[.pointer (some ⟨p, 0, none⟩)] [Dsk.Dk p (Dsk.D.fresh 13 32)] fun v _ => v = .tuple #[.pointer none, .bool false, .int .i64 0] := fun H hs => by
  apply W_inspect_open.ok
  unfold W_inspect_open
  refine BIf_neg rfl ?_
  refine bare_read.use hs [0] rfl rfl ?_
  rintro _ M H1 rfl hs
  unfold Sup.supV
  simp only [DI_int', DB_bool, DS_string, DP_pointer, DSl_slice, DM_map, DA_agg, DTup_tuple, DCons_cons, DNil_nil, NN_some, BIf_true, BIf_false, BIf_same, List.toList_toArray, Bool.not_true, Bool.not_false]
  have hs : Hw.Sep [] H1 := trivial
  refine hs.nw fun b1 H1 hs => ?_
  refine hs.stw 0 rfl rfl rfl rfl fun H1 hs => ?_
  refine BIf_beqn (by decide) (BIf_bnep (by decide) ?_)
  exact ⟨_, trivial, hs⟩

theorem Check_bare {p : Nat} : Tr Tryz.prog 85 #[.pointer (some ⟨p, 0, none⟩)] [Dsk.Dk p (Dsk.D.fresh 13 32)] fun v M => ∃ b, v = .tuple #[.slice (some ⟨b, 0, none⟩) 1 1, .int .i64 0] ∧ M = [pts b (.row [.int .i64 1, .int .i64 0] 117 2)] := fun H hs => by
  apply W_inspect_Check.ok
  unfold W_inspect_Check
  refine open_bare.use hs [0] rfl rfl ?_
  rintro _ M H1 rfl hs
  simp only [DI_int', DB_bool, DS_string, DP_pointer, DSl_slice, DM_map, DA_agg, DTup_tuple, DCons_cons, DNil_nil, NN_some, BIf_true, BIf_false, BIf_same, List.toList_toArray, Bool.not_true, Bool.not_false]
  refine BIf_bnen rfl ?_
  have hs : Hw.Sep [] H1 := trivial
  refine hs.nw fun b H1 hs => ?_
  exact ⟨_, ⟨b, rfl, rfl⟩, hs⟩

theorem p_find : plain64 Tryz.prog 117 2 := ⟨by kernel_rfl, by kernel_rfl, by kernel_rfl, by kernel_rfl⟩

theorem awake_ok (H : Hp) (hW : Words H) (hP : P10 H) : HCalls Tryz.prog 45 #[] H (RetE (.bool true) H) := HCalls.ret (by
  apply W_abacistlaw35_awake.ok
  unfold W_abacistlaw35_awake
  refine (Dsk.New_tr 13 32 (by omega) (by decide) (by omega)).use (Sep.start H) [] rfl rfl ?_
  rintro _ _ H1 ⟨p, rfl, rfl⟩ hs
  simp only [DI_int', DB_bool, DS_string, DP_pointer, DSl_slice, DM_map, DA_agg, DTup_tuple, DCons_cons, DNil_nil, NN_some, BIf_true, BIf_false, BIf_same, List.toList_toArray, Bool.not_true, Bool.not_false]
  have hs : Hw.Sep [Dsk.Dk p (Dsk.D.fresh 13 32), own H] H1 := hs
  refine Check_bare.use hs [0] rfl rfl ?_
  rintro _ _ H1 ⟨b, rfl, rfl⟩ hs
  simp only [DI_int', DB_bool, DS_string, DP_pointer, DSl_slice, DM_map, DA_agg, DTup_tuple, DCons_cons, DNil_nil, NN_some, BIf_true, BIf_false, BIf_same, List.toList_toArray, Bool.not_true, Bool.not_false]
  have hs : Hw.Sep [pts b (.row [.int .i64 1, .int .i64 0] 117 2), own H] H1 := hs
  refine BIf_beqp rfl (BIf_beqp rfl ?_)
  have hb := hs.get 0 rfl
  have ld : ∀ {K : List Value → Prop}, K [.int .i64 1, .int .i64 0] → LdA H1 ((⟨b, 0, none⟩ : Addr).add ((0 : Int).toNat * 2)) 2 K := fun k => by
    unfold LdA Hp.cells? Hp.cells? Hp.cells?
    rw [Addr.add_lit', Addr.add_lit', Addr.add_lit', cell_row hb, cell_row hb]
    exact k
  refine ⟨by decide, by decide, ?_⟩
  refine ld ?_
  refine EqI_eql p_find (a := [1, 0]) (b := [1, 0]) rfl rfl (by intro x hx; simp at hx; omega) (by intro x hx; simp at hx; omega) rfl rfl ?_
  refine BIf_pos (by decide) ⟨by decide, by decide, ?_⟩
  refine ld ?_
  refine HCalls.use (Line_ok 1 0 (by omega) H1 (hW.le (hs.ow 1 rfl)) (hP.le (hs.ow 1 rfl))) ?_
  simp only [DI_int', DB_bool, DS_string, DP_pointer, DSl_slice, DM_map, DA_agg, DTup_tuple, DCons_cons, DNil_nil, NN_some, BIf_true, BIf_false, BIf_same, List.toList_toArray, Bool.not_true, Bool.not_false]
  have hl : lineI 1 0 = [98, 97, 114, 101, 32, 48] := by
    unfold lineI itoaS
    rw [if_pos (by omega), if_neg (by omega)]
    show iw 1 ++ 32 :: Go.Lib.decDigits 0 = _
    rw [Go.Lib.decDigits_one (by decide)]
    rfl
  rw [hl, ba_eq rfl]
  exact ⟨rfl, hs.ow 1 rfl⟩)

/-! ## The law -/

def wordsC : Array Value := #[.string ⟨#[]⟩, .string ⟨#[98, 97, 114, 101, 32]⟩, .string ⟨#[115, 108, 111, 116, 32]⟩, .string ⟨#[103, 97, 112, 32]⟩, .string ⟨#[105, 110, 112, 117, 116, 32]⟩, .string ⟨#[111, 117, 116, 112, 117, 116, 32]⟩, .string ⟨#[115, 111, 117, 114, 99, 101, 32]⟩]
theorem wordsC_get : ∀ i, 1 ≤ i → i < 7 → nthV wordsC.toList i = some (.string ⟨(iw i ++ [32]).toArray⟩)
  | 1, _, _ => rfl | 2, _, _ => rfl | 3, _, _ => rfl | 4, _, _ => rfl | 5, _, _ => rfl | 6, _, _ => rfl
  | i + 7, _, h => absurd h (by omega)

theorem words_loop (A : Option Addr) (n m : Nat) (l : List (Int × Int)) (hn : n = l.length) (hl : n ≤ 40) (k : Int) (hb : ∀ f ∈ l, -9223372036854775808 ≤ f.2 ∧ f.2 ≤ 9223372036854775807) (H0 : Hp) (hW : Words H0) (hP : P10 H0) (hc : CellsS 2 H0 A (l.map frow)) (b1 : Nat) (e : TypeId) :
    ∀ (t j : Nat) (H : Hp), j + t = n → Hw.Sep [own H0, pts b1 (.obj (.cells wordsC e))] H →
      W_abacistlaw35_InspectWords.l8 (Ret (.bool true) H0) (t + 1) A n m k ⟨b1, 0, none⟩ (cntF k (l.take j) : Int) (j : Int) H
  | 0, j, H, hj, hs => by
    unfold W_abacistlaw35_InspectWords.l8
    refine BIf_dneg (by omega) ?_
    rw [List.take_of_length_le (by omega)]
    refine HCalls.use (Count_ok k A n m l hn (by omega) H (hc.le (hs.ow 0 rfl))) ?_
    simp only [DI_int', DB_bool, DS_string, DP_pointer, DSl_slice, DM_map, DA_agg, DTup_tuple, DCons_cons, DNil_nil, NN_some, BIf_true, BIf_false, BIf_same, List.toList_toArray, Bool.not_true, Bool.not_false]
    rw [show ((cntF k l : Int) == (cntF k l : Int)) = true by simp]
    exact ⟨rfl, hs.ow 0 rfl⟩
  | t + 1, j, H, hj, hs => by
    unfold W_abacistlaw35_InspectWords.l8
    refine BIf_dpos (by omega) ?_
    have hlt : j < l.length := by omega
    have hcl := hc.le (hs.ow 0 rfl)
    have hg : (l.map frow)[j]? = some [.int .i64 l[j].1, .int .i64 l[j].2] := by rw [List.getElem?_map, List.getElem?_eq_getElem hlt]; rfl
    have hlm : (l.map frow).length ≤ n := by rw [List.length_map]; omega
    refine hcl.rd hg rfl hlm (j := 0) rfl ?_
    simp only [DI_int', DB_bool, DS_string, DP_pointer, DSl_slice, DM_map, DA_agg, DTup_tuple, DCons_cons, DNil_nil, NN_some, BIf_true, BIf_false, BIf_same, List.toList_toArray, Bool.not_true, Bool.not_false]
    have hx := hb _ (List.getElem_mem hlt)
    have hnx := cntF_next k l j hlt
    have hcl0 : cntF k (l.take j) ≤ j := by
      have := List.countP_le_length (p := fun f : Int × Int => decide (f.1 = k)) (l := l.take j)
      rw [List.length_take] at this
      unfold cntF
      omega
    have ih := words_loop A n m l hn hl k hb H0 hW hP hc b1 e t (j + 1) H (by omega) hs
    generalize l[j].1 = q at *
    generalize l[j].2 = x at *
    have hj12 : W_abacistlaw35_InspectWords.j12 (Ret (.bool true) H0) (W_abacistlaw35_InspectWords.l8 (Ret (.bool true) H0) (t + 1)) A n m k ⟨b1, 0, none⟩ ((cntF k (l.take (j + 1)) : Nat) : Int) (j : Int) H := by
      unfold W_abacistlaw35_InspectWords.j12
      rw [i64w (x := (j : Int) + 1) (by omega) (by omega)]
      refine rowA hcl hg rfl hlm ?_
      refine HCalls.use (Line_ok q x hx H (hW.le (hs.ow 0 rfl)) (hP.le (hs.ow 0 rfl))) ?_
      simp only [DI_int', DB_bool, DS_string, DP_pointer, DSl_slice, DM_map, DA_agg, DTup_tuple, DCons_cons, DNil_nil, NN_some, BIf_true, BIf_false, BIf_same, List.toList_toArray, Bool.not_true, Bool.not_false]
      refine hcl.rd hg rfl hlm (j := 0) rfl ?_
      simp only [DI_int', DB_bool, DS_string, DP_pointer, DSl_slice, DM_map, DA_agg, DTup_tuple, DCons_cons, DNil_nil, NN_some, BIf_true, BIf_false, BIf_same, List.toList_toArray, Bool.not_true, Bool.not_false]
      by_cases h1 : q < 1
      · refine BIf_dpos h1 (BIf_neg ?_ ih)
        have : lineI q x = [] := by unfold lineI; rw [if_neg (by omega)]
        rw [this, ba_eq rfl]; rfl
      refine BIf_dneg h1 ?_
      refine hcl.rd hg rfl hlm (j := 0) rfl ?_
      simp only [DI_int', DB_bool, DS_string, DP_pointer, DSl_slice, DM_map, DA_agg, DTup_tuple, DCons_cons, DNil_nil, NN_some, BIf_true, BIf_false, BIf_same, List.toList_toArray, Bool.not_true, Bool.not_false]
      by_cases h6 : q > 6
      · refine BIf_dpos h6 (BIf_neg ?_ ih)
        have : lineI q x = [] := by unfold lineI; rw [if_neg (by omega)]
        rw [this, ba_eq rfl]; rfl
      refine BIf_dneg h6 ?_
      refine hcl.rd hg rfl hlm (j := 1) rfl ?_
      simp only [DI_int', DB_bool, DS_string, DP_pointer, DSl_slice, DM_map, DA_agg, DTup_tuple, DCons_cons, DNil_nil, NN_some, BIf_true, BIf_false, BIf_same, List.toList_toArray, Bool.not_true, Bool.not_false]
      by_cases hx0 : x ≥ 0
      · refine BIf_dpos hx0 ?_
        refine hcl.rd hg rfl hlm (j := 0) rfl ?_
        simp only [DI_int', DB_bool, DS_string, DP_pointer, DSl_slice, DM_map, DA_agg, DTup_tuple, DCons_cons, DNil_nil, NN_some, BIf_true, BIf_false, BIf_same, List.toList_toArray, Bool.not_true, Bool.not_false]
        obtain ⟨i, rfl⟩ := Int.eq_ofNat_of_zero_le (show 0 ≤ q by omega)
        obtain ⟨u, rfl⟩ := Int.eq_ofNat_of_zero_le hx0
        refine ⟨by omega, by omega, ?_⟩
        rw [Addr.add_lit', Nat.zero_add, Int.toNat_natCast, Nat.mul_one]
        refine hs.ld 1 rfl (wordsC_get i (by omega) (by omega)) ?_
        simp only [DI_int', DB_bool, DS_string, DP_pointer, DSl_slice, DM_map, DA_agg, DTup_tuple, DCons_cons, DNil_nil, NN_some, BIf_true, BIf_false, BIf_same, List.toList_toArray, Bool.not_true, Bool.not_false]
        refine hcl.rd hg rfl hlm (j := 1) rfl ?_
        simp only [DI_int', DB_bool, DS_string, DP_pointer, DSl_slice, DM_map, DA_agg, DTup_tuple, DCons_cons, DNil_nil, NN_some, BIf_true, BIf_false, BIf_same, List.toList_toArray, Bool.not_true, Bool.not_false]
        rw [u64n (by omega)]
        refine QCall.use (rDigits_ok u (by omega) H) ?_
        simp only [DI_int', DB_bool, DS_string, DP_pointer, DSl_slice, DM_map, DA_agg, DTup_tuple, DCons_cons, DNil_nil, NN_some, BIf_true, BIf_false, BIf_same, List.toList_toArray, Bool.not_true, Bool.not_false]
        have hwl := iw_len i
        have hdl := dd_len (x := u) (by omega)
        rw [ba_app]
        refine ⟨?_, BIf_neg ?_ ih⟩
        · show (iw i ++ [32]).toArray.size + (Go.Lib.decDigits u).toArray.size ≤ _
          simp only [List.size_toArray, List.length_append, List.length_singleton]; omega
        · have : lineI (i : Int) (u : Int) = iw i ++ [32] ++ Go.Lib.decDigits u := by
            unfold lineI itoaS
            rw [if_pos (by omega), if_neg (by omega), Int.toNat_natCast, Int.natAbs_natCast]
            simp
          rw [this]
          have e : ((⟨⟨iw i ++ [32] ++ Go.Lib.decDigits u⟩⟩ : ByteArray).toList == (⟨⟨iw i ++ [32] ++ Go.Lib.decDigits u⟩⟩ : ByteArray).toList) = true := ba_eq rfl
          exact congrArg (!·) e
      · exact BIf_dneg hx0 ih
    by_cases he : q = k
    · refine BIf_beqp he ?_
      rw [if_pos he] at hnx
      rw [i64w (x := (cntF k (l.take j) : Int) + 1) (by omega) (by omega), show (cntF k (l.take j) : Int) + 1 = ((cntF k (l.take (j + 1)) : Nat) : Int) by omega]
      exact hj12
    · refine BIf_beqn he ?_
      rw [if_neg he] at hnx
      rw [show (cntF k (l.take j) : Int) = ((cntF k (l.take (j + 1)) : Nat) : Int) by omega]
      exact hj12

theorem InspectWords_ok (A : Option Addr) (n m : Nat) (l : List (Int × Int)) (hn : l.length = n) (k : Int) (hb : ∀ f ∈ l, -9223372036854775808 ≤ f.2 ∧ f.2 ≤ 9223372036854775807) (H : Hp) (hW : Words H) (hP : P10 H) (hc : CellsS 2 H A (l.map frow)) :
    HCalls Tryz.prog 7 #[.slice A n m, .int .i64 k] H (Ret (.bool true) H) := by
  apply W_abacistlaw35_InspectWords.ok
  unfold W_abacistlaw35_InspectWords
  refine HCalls.use (awake_ok H hW hP) ?_
  simp only [DI_int', DB_bool, DS_string, DP_pointer, DSl_slice, DM_map, DA_agg, DTup_tuple, DCons_cons, DNil_nil, NN_some, BIf_true, BIf_false, BIf_same, List.toList_toArray, Bool.not_true, Bool.not_false]
  by_cases h40 : n > 40
  · exact BIf_dpos (by omega) ⟨rfl, Hp.le_refl _⟩
  refine BIf_dneg (by omega) ?_
  refine (Sep.start H).nw fun b1 H1 hs => ?_
  refine hs.stw 1 (y := wordsC) rfl rfl rfl rfl fun H1 hs => ?_
  exact ⟨n + 1, words_loop A n m l hn.symm (by omega) k hb H hW hP hc b1 _ n 0 H1 (by omega) hs⟩

section
open Go.RowKit Go.ChangeShapes Go.WideShapes Go.ChangeAt
variable {H : Type} {enc : TypeId × Value → H} {W : World}
theorem finds_of {A : Option Addr} {n : Nat} {rows : List (List Value)} (hl : rows.length = n)
    (h : ∀ (i : Nat) (r : List Value), rows[i]? = some r → ∃ a, A = some a ∧ (∀ j v, r[j]? = some v → (Full W).cell? (a.add (i * Tryz.prog.cellsOf 117 + j)) = some v) ∧ r.length = Tryz.prog.cellsOf 117 ∧
      ∃ f d' p', DataW.trod enc Tryz.prog W 0 (fun _ => true) true f 117 r = some (d', p')) : ∃ l : List (Int × Int), l.length = n ∧ CellsS 2 (Full W) A (l.map frow) ∧ ∀ x ∈ l, -9223372036854775808 ≤ x.2 ∧ x.2 ≤ 9223372036854775807 := by
  have hc : Tryz.prog.cellsOf 117 = 2 := by kernel_rfl
  refine rows_st hl fun i r hi => ?_
  obtain ⟨a, ha, h1, h2, f, d', p', h3⟩ := h i r hi
  rw [hc] at h1 h2
  refine ⟨a, ha, h1, ?_⟩
  obtain ⟨_, f', h4⟩ := trod_st Tryz.underlying117 h3
  obtain ⟨x, hx, _⟩ := trod_fint (o := 0) Tryz.underlying3 (by kernel_rfl) (h4 0 _ rfl)
  obtain ⟨y, hy, wy⟩ := trod_fint (o := 1) Tryz.underlying3 (by kernel_rfl) (h4 1 _ rfl)
  exact ⟨(x, y), list2 h2 hx hy, wf_int wy⟩
end

end Go.Proofs.YtlgpappgnndgiaaGreatDoor.Ins

end
