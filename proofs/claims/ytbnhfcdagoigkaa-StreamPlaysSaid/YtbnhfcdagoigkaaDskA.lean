/- A disk as a part of memory: contracts of its functions. -/
import Derived.Test.YtbnhfcdagoigkaaHwK
import Derived.Test.YtbnhfcdagoigkaaHwW
import Derived.Test.YtbnhfcdagoigkaaWdisk
set_option maxRecDepth 100000
set_option linter.unusedSimpArgs false
set_option linter.unusedVariables false
set_option linter.unnecessarySimpa false
set_option linter.unusedSectionVars false
namespace Go.Proofs.Ytbnhfcdagoigkaa.Dsk
open Go Go.Hw Go.Proofs.Ytbnhfcdagoigkaa.W

/-- What a disk is. -/
structure D where
  sec : Nat
  size : Nat
  safe : Int → Option (List UInt8)
  cache : Int → Option (List UInt8)
  tch : Int → Bool
  rd : Nat
  wr : Nat
  sy : Nat
  down : Bool
  fuse : Nat

def strV (l : List UInt8) : Value := .string ⟨l.toArray⟩
def strM (m : Int → Option (List UInt8)) : Int → Option Value := fun k => (m k).map strV
def tchM (m : Int → Bool) : Int → Option Value := fun k => if m k then some (.int .i64 1) else none
def dskO (d : D) (r1 r2 r3 : Nat) : AO := .obj (.cells #[.int .i64 d.sec, .int .i64 d.size, .map (some r1), .int .i64 d.rd, .int .i64 d.wr, .int .i64 d.sy, .map (some r2), .bool d.down, .int .i64 d.fuse, .map (some r3)] 43)

structure Ok (d : D) : Prop where
  sec : 1 ≤ d.sec ∧ d.sec ≤ 1048576
  size : 32 ≤ d.size ∧ d.size ≤ 4096
  big : d.sec * d.size ≤ 67108864
  per : d.size % 8 = 0
  safe : ∀ k b, d.safe k = some b → b.length = d.size
  cache : ∀ k b, d.cache k = some b → b.length = d.size
  fz : d.fuse ≤ 9223372036854775807

/-- A disk in memory. -/
def Dk (p : Nat) (d : D) : As := fun H => ∃ r1 r2 r3, Sep [pts p (dskO d r1 r2 r3), Mp r1 (strM d.safe), Mp r2 (tchM d.tch), Mp r3 (strM d.cache)] H

theorem Dk.up {p : Nat} {d : D} {H H' : Hp} (h : Dk p d H) (k : H.le H') : Dk p d H' := by
  obtain ⟨r1, r2, r3, h⟩ := h
  exact ⟨r1, r2, r3, h.up k⟩

theorem Sep.fold {M L : List As} {A : As} {H : Hp} (h : Sep (M ++ L) H) (k : ∀ H1, Sep M H1 → A H1) : Sep (A :: L) H := by
  obtain ⟨H1, H2, h1, h2, h3, h4, h5⟩ := h.append
  exact ⟨H1, H2, h1, h2, h3, k H1 h4, h5⟩

/-- A disk, opened. -/
theorem Dk.open {p : Nat} {d : D} {L : List As} {H : Hp} (h : Sep (Dk p d :: L) H) : ∃ r1 r2 r3, Sep (pts p (dskO d r1 r2 r3) :: Mp r1 (strM d.safe) :: Mp r2 (tchM d.tch) :: Mp r3 (strM d.cache) :: L) H := by
  obtain ⟨H1, H2, h1, h2, h3, ⟨r1, r2, r3, h4⟩, h5⟩ := h
  exact ⟨r1, r2, r3, Sep.join h1 h2 h3 h4 h5⟩
theorem Dk.shut {p : Nat} {d : D} {r1 r2 r3 : Nat} {L : List As} {H : Hp} (h : Sep (pts p (dskO d r1 r2 r3) :: Mp r1 (strM d.safe) :: Mp r2 (tchM d.tch) :: Mp r3 (strM d.cache) :: L) H) : Sep (Dk p d :: L) H :=
  Sep.fold (M := [pts p (dskO d r1 r2 r3), Mp r1 (strM d.safe), Mp r2 (tchM d.tch), Mp r3 (strM d.cache)]) h fun H1 h1 => ⟨r1, r2, r3, h1⟩

theorem Dk.see {p : Nat} {d : D} {L : List As} {H : Hp} (h : Sep L H) (i : Nat) (hi : L[i]? = some (Dk p d)) : ∃ r1 r2 r3, H p = some (dskO d r1 r2 r3) := by
  obtain ⟨H1, ⟨r1, r2, r3, h1⟩, hle⟩ := h.see i hi
  exact ⟨r1, r2, r3, hle _ _ (h1.get 0 rfl)⟩

section
variable {L : List As} {H : Hp} {p : Nat} {d : D}
theorem Sectors_s (h : Sep L H) (i : Nat) (hi : L[i]? = some (Dk p d)) : HCalls Try.prog 65 #[.pointer (some ⟨p, 0, none⟩)] H (RetE (.int .i64 (d.sec : Int)) H) := by
  obtain ⟨r1, r2, r3, hd⟩ := Dk.see h i hi
  apply W_disk_plates_Sectors.ok
  unfold W_disk_plates_Sectors
  simp only [NN_some, Addr.add_lit', Addr.add_zero, Nat.zero_add, Nat.add_zero]
  refine Ld_obj hd (v := .int .i64 d.sec) rfl ?_
  simp only [DI_int', DB_bool, DS_string, DP_pointer, DSl_slice, DM_map, DA_agg, DTup_tuple, DCons_cons, DNil_nil, NN_some, BIf_true, BIf_false, BIf_same, List.toList_toArray, Bool.not_true, Bool.not_false]
  exact RetE.mk _ _
theorem Size_s (h : Sep L H) (i : Nat) (hi : L[i]? = some (Dk p d)) : HCalls Try.prog 66 #[.pointer (some ⟨p, 0, none⟩)] H (RetE (.int .i64 (d.size : Int)) H) := by
  obtain ⟨r1, r2, r3, hd⟩ := Dk.see h i hi
  apply W_disk_plates_Size.ok
  unfold W_disk_plates_Size
  simp only [NN_some, Addr.add_lit', Addr.add_zero, Nat.zero_add, Nat.add_zero]
  refine Ld_obj hd (v := .int .i64 d.size) rfl ?_
  simp only [DI_int', DB_bool, DS_string, DP_pointer, DSl_slice, DM_map, DA_agg, DTup_tuple, DCons_cons, DNil_nil, NN_some, BIf_true, BIf_false, BIf_same, List.toList_toArray, Bool.not_true, Bool.not_false]
  exact RetE.mk _ _
theorem Down_s (h : Sep L H) (i : Nat) (hi : L[i]? = some (Dk p d)) : HCalls Try.prog 12 #[.pointer (some ⟨p, 7, none⟩)] H (RetE (.bool d.down) H) := by
  obtain ⟨r1, r2, r3, hd⟩ := Dk.see h i hi
  apply W_disk_power_Down.ok
  unfold W_disk_power_Down
  simp only [NN_some, Addr.add_lit', Addr.add_zero, Nat.zero_add, Nat.add_zero]
  refine Ld_obj hd (v := .bool d.down) rfl ?_
  simp only [DI_int', DB_bool, DS_string, DP_pointer, DSl_slice, DM_map, DA_agg, DTup_tuple, DCons_cons, DNil_nil, NN_some, BIf_true, BIf_false, BIf_same, List.toList_toArray, Bool.not_true, Bool.not_false]
  exact RetE.mk _ _
/-- What is wrong with a sector. -/
def D.chk (d : D) (i : Int) : Int := if d.down then 8 else if i < 0 ∨ i ≥ d.sec then 2 else 0

theorem check_s (h : Sep L H) (i : Nat) (hi : L[i]? = some (Dk p d)) (x : Int) : HCalls Try.prog 59 #[.pointer (some ⟨p, 0, none⟩), .int .i64 x] H (RetE (.int .i64 (d.chk x)) H) := by
  obtain ⟨r1, r2, r3, hd⟩ := Dk.see h i hi
  apply W_disk_Disk_check.ok
  unfold W_disk_Disk_check
  simp only [NN_some, Addr.add_lit', Addr.add_zero, Nat.zero_add, Nat.add_zero]
  refine Ld_obj hd (v := .bool d.down) rfl ?_
  simp only [DI_int', DB_bool, DS_string, DP_pointer, DSl_slice, DM_map, DA_agg, DTup_tuple, DCons_cons, DNil_nil, NN_some, BIf_true, BIf_false, BIf_same, List.toList_toArray, Bool.not_true, Bool.not_false]
  unfold D.chk
  cases d.down with
  | true => exact RetE.mk _ _
  | false =>
    simp only [DI_int', DB_bool, DS_string, DP_pointer, DSl_slice, DM_map, DA_agg, DTup_tuple, DCons_cons, DNil_nil, NN_some, BIf_true, BIf_false, BIf_same, List.toList_toArray, Bool.not_true, Bool.not_false]
    rw [if_neg (by simp)]
    by_cases h1 : x < 0
    · rw [if_pos (.inl h1)]; exact BIf_dpos h1 (RetE.mk _ _)
    · refine BIf_dneg h1 ?_
      refine Ld_obj hd (v := .int .i64 d.sec) rfl ?_
      simp only [DI_int', DB_bool, DS_string, DP_pointer, DSl_slice, DM_map, DA_agg, DTup_tuple, DCons_cons, DNil_nil, NN_some, BIf_true, BIf_false, BIf_same, List.toList_toArray, Bool.not_true, Bool.not_false]
      by_cases h2 : x ≥ d.sec
      · rw [if_pos (.inr h2)]; exact BIf_dpos h2 (RetE.mk _ _)
      · rw [if_neg (by omega)]; exact BIf_dneg h2 (RetE.mk _ _)
end

/-- An operation is counted down. -/
def D.burnt (d : D) : D := if d.fuse = 0 then d else { d with fuse := d.fuse - 1, down := decide (d.fuse = 1) }
def D.burns (d : D) : Bool := decide (d.fuse = 1)

theorem burns_tr {p : Nat} {d : D} (hf : d.fuse ≤ 9223372036854775807) : Tr Try.prog 60 #[.pointer (some ⟨p, 7, none⟩)] [Dk p d] fun v M => v = .bool d.burns ∧ M = [Dk p d.burnt] := fun H hs => by
  obtain ⟨r1, r2, r3, hs⟩ := Dk.open hs
  apply W_disk_power_burns.ok
  unfold W_disk_power_burns
  simp only [NN_some, Addr.add_lit', Addr.add_zero, Nat.zero_add, Nat.add_zero]
  refine hs.ld 0 rfl rfl ?_
  simp only [DI_int', DB_bool, DS_string, DP_pointer, DSl_slice, DM_map, DA_agg, DTup_tuple, DCons_cons, DNil_nil, NN_some, BIf_true, BIf_false, BIf_same, List.toList_toArray, Bool.not_true, Bool.not_false]
  by_cases h0 : d.fuse = 0
  · refine BIf_beqp (by omega) ⟨_, ⟨?_, rfl⟩, ?_⟩
    · unfold D.burns; rw [h0]; rfl
    · have : d.burnt = d := by unfold D.burnt; rw [if_pos h0]
      rw [this]; exact Dk.shut hs
  · refine BIf_beqn (by omega) ?_
    refine hs.ld 0 rfl rfl ?_
    simp only [DI_int', DB_bool, DS_string, DP_pointer, DSl_slice, DM_map, DA_agg, DTup_tuple, DCons_cons, DNil_nil, NN_some, BIf_true, BIf_false, BIf_same, List.toList_toArray, Bool.not_true, Bool.not_false]
    refine hs.st 0 rfl (by show 8 < 10; omega) rfl fun H hs => ?_
    refine hs.ld 0 rfl rfl ?_
    simp only [DI_int', DB_bool, DS_string, DP_pointer, DSl_slice, DM_map, DA_agg, DTup_tuple, DCons_cons, DNil_nil, NN_some, BIf_true, BIf_false, BIf_same, List.toList_toArray, Bool.not_true, Bool.not_false]
    rw [i64w (x := (d.fuse : Int) - 1) (by omega) (by omega)] at hs ⊢
    refine hs.st 0 rfl (by show 7 < 10; omega) rfl fun H hs => ?_
    refine hs.ld 0 rfl rfl ?_
    simp only [DI_int', DB_bool, DS_string, DP_pointer, DSl_slice, DM_map, DA_agg, DTup_tuple, DCons_cons, DNil_nil, NN_some, BIf_true, BIf_false, BIf_same, List.toList_toArray, Bool.not_true, Bool.not_false]
    have e : ((d.fuse : Int) - 1 == 0) = d.burns := by
      unfold D.burns
      by_cases h1 : d.fuse = 1
      · simp [h1]
      · rw [decide_eq_false h1]; simp; omega
    rw [e] at hs ⊢
    refine ⟨_, ⟨rfl, rfl⟩, ?_⟩
    have hb : d.burnt = { d with fuse := d.fuse - 1, down := d.burns } := by unfold D.burnt; rw [if_neg h0]; rfl
    rw [hb]
    refine Dk.shut (r1 := r1) (r2 := r2) (r3 := r3) ?_
    have ef : ((d.fuse - 1 : Nat) : Int) = (d.fuse : Int) - 1 := by omega
    unfold dskO
    simp only [ef]
    exact hs

end Go.Proofs.Ytbnhfcdagoigkaa.Dsk
