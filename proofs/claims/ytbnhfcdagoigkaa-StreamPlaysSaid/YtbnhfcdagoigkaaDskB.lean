/- disk: New, Read, Write, Sync. -/
import Derived.Test.YtbnhfcdagoigkaaDskA
import Derived.Test.YtbnhfcdagoigkaaLayA
import Derived.Test.YtbnhfcdagoigkaaWlmaps
set_option maxRecDepth 100000
set_option linter.unusedSimpArgs false
set_option linter.unusedVariables false
set_option linter.unnecessarySimpa false
set_option linter.unusedSectionVars false
namespace Go.Proofs.Ytbnhfcdagoigkaa.Dsk
open Go Go.Hw Go.Proofs.Ytbnhfcdagoigkaa.W

theorem u_int : Try.prog.underlying 3 = some (.int .i64) := by kernel_rfl
theorem u_strm : Try.prog.underlying 32 = some (.map 3 9) := by kernel_rfl
theorem u_intm : Try.prog.underlying 37 = some (.map 3 3) := by kernel_rfl
theorem z_str : ∃ j, Try.prog.info? 9 = some j ∧ j.zero = some (.string ByteArray.empty) := by
  have h : (Try.prog.info? 9).map (·.zero) = some (some (.string ByteArray.empty)) := by kernel_rfl
  obtain ⟨j, hj, h2⟩ := Option.map_eq_some_iff.1 h
  exact ⟨j, hj, h2⟩
theorem c_u8 : cellInfo Try.prog 5 = some (1, 1, some #[.int .u8 0]) := by kernel_rfl

def D.fresh (sec size : Nat) : D := ⟨sec, size, fun _ => none, fun _ => none, fun _ => false, 0, 0, 0, false, 0⟩
/-- A sector's bytes, as they are safe, and as they are read. -/
def D.sat (d : D) (i : Int) : List UInt8 := (d.safe i).getD (List.replicate d.size 0)
def D.now (d : D) (i : Int) : List UInt8 := (d.cache i).getD (d.sat i)

theorem Ok.sat {d : D} (h : Ok d) (i : Int) : (d.sat i).length = d.size := by
  unfold D.sat
  cases e : d.safe i with
  | none => simp
  | some b => exact h.safe i b e
theorem Ok.now {d : D} (h : Ok d) (i : Int) : (d.now i).length = d.size := by
  unfold D.now
  cases e : d.cache i with
  | none => exact h.sat i
  | some b => exact h.cache i b e
theorem Ok.burnt {d : D} (h : Ok d) : Ok d.burnt := by
  unfold D.burnt
  split
  · exact h
  · exact ⟨h.sec, h.size, h.big, h.per, h.safe, h.cache, Nat.le_trans (Nat.sub_le _ _) h.fz⟩
theorem Ok.fresh {sec size : Nat} (h1 : 1 ≤ sec ∧ sec ≤ 1048576) (h2 : 0 < Lay.perN size) (h3 : sec * size ≤ 67108864) : Ok (D.fresh sec size) := by
  have h : size = 32 ∨ size = 64 ∨ size = 128 ∨ size = 256 ∨ size = 512 ∨ size = 1024 ∨ size = 2048 ∨ size = 4096 := by
    unfold Lay.perN at h2
    repeat' split at h2
    all_goals omega
  refine ⟨h1, ?_, h3, ?_, fun k b h => (by cases h), fun k b h => (by cases h), Nat.zero_le _⟩
  · show 32 ≤ size ∧ size ≤ 4096; omega
  · show size % 8 = 0; omega

theorem New_tr (sec size : Nat) (h1 : 1 ≤ sec ∧ sec ≤ 1048576) (h2 : 0 < Lay.perN size) (h3 : sec * size ≤ 67108864) : Tr Try.prog 6 #[.int .i64 sec, .int .i64 size] [] fun v M => ∃ p, v = .pointer (some ⟨p, 0, none⟩) ∧ M = [Dk p (D.fresh sec size)] := fun H hs => by
  apply W_disk_New.ok
  unfold W_disk_New
  have h32 : ¬ ((size : Int) < 32) := fun h => by rw [Lay.perN_small h] at h2; omega
  have h40 : ¬ ((size : Int) > 4096) := fun h => by rw [Lay.perN_great h] at h2; omega
  refine BIf_dneg (by omega) (BIf_dneg (by omega) (BIf_dneg h32 (BIf_dneg h40 ?_)))
  have ht := List.all_eq_true.1 Lay.pow_table size (by simp; omega)
  rw [if_pos (by omega)] at ht
  rw [show ((size : Int) - 1) = ((size - 1 : Nat) : Int) by omega, i64w (by omega) (by omega), Lay.bAnd_nat (by omega) (by omega)]
  split at ht
  · rename_i h4
    simp only [beq_iff_eq] at h4
    rw [h4]
    refine BIf_bnen rfl ⟨by omega, rfl, ?_⟩
    rw [show Int.tdiv 67108864 (size : Int) = ((67108864 / size : Nat) : Int) from rfl]
    have hd : sec ≤ 67108864 / size := (Nat.le_div_iff_mul_le (by omega)).2 h3
    have hle : 67108864 / size ≤ 67108864 := Nat.div_le_self _ _
    rw [i64n (by omega)]
    refine BIf_dneg (by omega) ?_
    refine hs.nw fun b1 H hs => ?_
    have hs := Mp.new hs
    refine hs.nw fun b2 H hs => ?_
    have hs := Mp.new hs
    refine hs.nw fun b3 H hs => ?_
    have hs := Mp.new hs
    refine hs.nw fun b4 H hs => ?_
    refine ⟨_, ⟨b4, rfl, rfl⟩, Dk.shut (r1 := b1) (r2 := b2) (r3 := b3) (hs.re [3, 0, 1, 2] rfl)⟩
  · simp only [beq_iff_eq] at ht
    omega

theorem New_no (sec size : Int) (h : sec < 1 ∨ sec > 1048576 ∨ Lay.perN size = 0) (H : Hp) : HCalls Try.prog 6 #[.int .i64 sec, .int .i64 size] H (RetE (.pointer none) H) := by
  apply W_disk_New.ok
  unfold W_disk_New
  rw [BIf_decide, BIf_decide, BIf_decide, BIf_decide]
  split
  · exact RetE.mk _ _
  split
  · exact RetE.mk _ _
  split
  · exact RetE.mk _ _
  split
  · exact RetE.mk _ _
  obtain ⟨n, rfl⟩ := Int.eq_ofNat_of_zero_le (show 0 ≤ size by omega)
  have ht := List.all_eq_true.1 Lay.pow_table n (by simp; omega)
  rw [if_pos (by omega)] at ht
  rw [show ((n : Int) - 1) = ((n - 1 : Nat) : Int) by omega, i64w (by omega) (by omega), Lay.bAnd_nat (by omega) (by omega)]
  split at ht
  · simp only [Bool.and_eq_true, bne_iff_ne] at ht
    omega
  · rename_i h4
    simp only [beq_iff_eq] at h4
    exact BIf_bnep (by omega) (RetE.mk _ _)

theorem get_tr {p : Nat} {d : D} (hok : Ok d) (i : Int) : Tr Try.prog 61 #[.pointer (some ⟨p, 0, none⟩), .int .i64 i] [Dk p d] fun v M => ∃ b, v = .slice (some ⟨b, 0, none⟩) d.size d.size ∧ M = [Dk p d, pts b (.row (byteVals (d.sat i)) 5 d.size)] := fun H hs => by
  obtain ⟨r1, r2, r3, hs⟩ := Dk.open hs
  obtain ⟨jz, hz1, hz2⟩ := z_str
  have hsz := hok.size
  apply W_disk_plates_get.ok
  unfold W_disk_plates_get
  simp only [NN_some, Addr.add_lit', Addr.add_zero, Nat.zero_add, Nat.add_zero]
  refine hs.ld 0 rfl rfl ?_
  simp only [DI_int', DB_bool, DS_string, DP_pointer, DSl_slice, DM_map, DA_agg, DTup_tuple, DCons_cons, DNil_nil, NN_some, BIf_true, BIf_false, BIf_same, List.toList_toArray, Bool.not_true, Bool.not_false]
  refine hs.mks c_u8 rfl (n := d.size) (m := d.size) rfl rfl (Nat.le_refl _) (by omega) (by omega) fun b H hs => ?_
  simp only [DI_int', DB_bool, DS_string, DP_pointer, DSl_slice, DM_map, DA_agg, DTup_tuple, DCons_cons, DNil_nil, NN_some, BIf_true, BIf_false, BIf_same, List.toList_toArray, Bool.not_true, Bool.not_false]
  refine hs.ld 0 rfl rfl ?_
  simp only [DI_int', DB_bool, DS_string, DP_pointer, DSl_slice, DM_map, DA_agg, DTup_tuple, DCons_cons, DNil_nil, NN_some, BIf_true, BIf_false, BIf_same, List.toList_toArray, Bool.not_true, Bool.not_false]
  obtain ⟨H1, ⟨l, clock, hr1, hgk⟩, hle⟩ := hs.see 1 rfl
  refine lookupK u_int u_strm hz1 hz2 (hle _ _ hr1) false ?_
  rw [hgk.get]
  have e : ∀ bs : List UInt8, (bs.length = d.size ∨ bs = []) → setAt (zeroRow [.int .u8 0] d.size) 0 (byteVals bs) = byteVals (if bs = [] then List.replicate d.size 0 else bs) := fun bs hb => by
    rw [zeroRow_one]
    rcases hb with hb | rfl
    · rw [setAt_all (by rw [byteVals_length, List.length_replicate]; exact hb), if_neg (fun e => by rw [e] at hb; simp at hb; omega)]
    · rw [show byteVals [] = [] from rfl, setAt_nil, if_pos rfl]
      simp [byteVals]
  have fin : ∀ bs : List UInt8, (bs.length = d.size ∨ bs = []) → (if bs = [] then List.replicate d.size 0 else bs) = d.sat i →
      CpK Try.prog 5 (.slice (some ⟨b, 0, none⟩) d.size d.size) (.string ⟨bs.toArray⟩) H fun v5 H2 => DI .i64 v5 fun x3 => ∃ M, (∃ b', (.slice (some ⟨b, 0, none⟩) d.size d.size : Value) = .slice (some ⟨b', 0, none⟩) d.size d.size ∧ M = [Dk p d, pts b' (.row (byteVals (d.sat i)) 5 d.size)]) ∧ Sep M H2 := fun bs hb hsat => by
    have hlb : bs.length ≤ d.size := by rcases hb with hb | rfl <;> simp_all
    refine hs.cp 4 (k := bs.length) (ys := byteVals bs) rfl c_u8 rfl ?_ (by rw [byteVals_length, zeroRow_length]; simp; omega) (fun y hy => ?_) fun H hs => ?_
    · rw [show Nat.min bs.length d.size = bs.length from Nat.min_eq_left hlb]
      show some (byteVals ((⟨bs.toArray⟩ : ByteArray).extract 0 bs.length).data.toList) = _
      congr 2
      simp [ByteArray.extract, ByteArray.copySlice]
    · obtain ⟨x, _, rfl⟩ := List.mem_map.1 hy; rfl
    · simp only [DI_int', DB_bool, DS_string, DP_pointer, DSl_slice, DM_map, DA_agg, DTup_tuple, DCons_cons, DNil_nil, NN_some, BIf_true, BIf_false, BIf_same, List.toList_toArray, Bool.not_true, Bool.not_false]
      refine ⟨_, ⟨b, rfl, rfl⟩, ?_⟩
      rw [e bs hb, hsat, Nat.mul_one] at hs
      exact Dk.shut (hs.re [0, 1, 2, 3, 4] rfl)
  unfold strM
  cases hsf : d.safe i with
  | none =>
    exact fin [] (.inr rfl) (by unfold D.sat; rw [hsf]; rfl)
  | some bs =>
    have := hok.safe i bs hsf
    exact fin bs (.inl this) (by unfold D.sat; rw [hsf, if_neg (fun e => by rw [e] at this; simp at this; omega)]; rfl)

/-- What a read answers. -/
def readQ (p : Nat) (d : D) (i : Int) (v : Value) (M : List As) : Prop :=
  (d.chk i ≠ 0 ∧ v = .tuple #[.slice none 0 0, .int .i64 (d.chk i)] ∧ M = [Dk p d]) ∨
  (d.chk i = 0 ∧ d.burns = true ∧ v = .tuple #[.slice none 0 0, .int .i64 8] ∧ M = [Dk p d.burnt]) ∨
  (d.chk i = 0 ∧ d.burns = false ∧ ∃ b c m, v = .tuple #[.slice (some ⟨b, 0, none⟩) d.size c, .int .i64 0] ∧ d.size ≤ c ∧ M = [Dk p { d.burnt with rd := d.rd + 1 }, pts b (.row (byteVals (d.now i)) 5 m)])

theorem burnt_rd (d : D) : d.burnt.rd = d.rd ∧ d.burnt.wr = d.wr ∧ d.burnt.sy = d.sy ∧ d.burnt.size = d.size ∧ d.burnt.sec = d.sec ∧ d.burnt.safe = d.safe ∧ d.burnt.cache = d.cache ∧ d.burnt.tch = d.tch := by
  unfold D.burnt; split <;> simp

theorem Read_tr {p : Nat} {d : D} (hok : Ok d) (ho : d.rd ≤ 4611686018427387904) (i : Int) : Tr Try.prog 29 #[.pointer (some ⟨p, 0, none⟩), .int .i64 i] [Dk p d] (readQ p d i) := fun H hs => by
  obtain ⟨jz, hz1, hz2⟩ := z_str
  have hsz := hok.size
  have hf := hok.fz
  apply W_disk_Disk_Read.ok
  unfold W_disk_Disk_Read
  simp only [NN_some, Addr.add_lit', Addr.add_zero, Nat.zero_add, Nat.add_zero]
  refine HCalls.use (check_s hs 0 rfl i) ?_
  try simp only [DI_int', DB_bool, DS_string, DP_pointer, DSl_slice, DM_map, DA_agg, DTup_tuple, DCons_cons, DNil_nil, NN_some, BIf_true, BIf_false, BIf_same, List.toList_toArray, Bool.not_true, Bool.not_false]
  by_cases hc : d.chk i = 0
  · refine BIf_bnen hc ?_
    refine (burns_tr hf).use hs [0] rfl rfl ?_
    rintro _ _ H ⟨rfl, rfl⟩ hs
    simp only [DI_int', DB_bool, DS_string, DP_pointer, DSl_slice, DM_map, DA_agg, DTup_tuple, DCons_cons, DNil_nil, NN_some, BIf_true, BIf_false, BIf_same, List.toList_toArray, Bool.not_true, Bool.not_false]
    cases hb : d.burns with
    | true => exact ⟨_, .inr (.inl ⟨hc, hb, rfl, rfl⟩), hs⟩
    | false =>
      simp only [DI_int', DB_bool, DS_string, DP_pointer, DSl_slice, DM_map, DA_agg, DTup_tuple, DCons_cons, DNil_nil, NN_some, BIf_true, BIf_false, BIf_same, List.toList_toArray, Bool.not_true, Bool.not_false]
      have hbr := burnt_rd d
      obtain ⟨r1, r2, r3, hs⟩ := Dk.open (L := []) hs
      refine hs.ld 0 rfl rfl ?_
      simp only [DI_int', DB_bool, DS_string, DP_pointer, DSl_slice, DM_map, DA_agg, DTup_tuple, DCons_cons, DNil_nil, NN_some, BIf_true, BIf_false, BIf_same, List.toList_toArray, Bool.not_true, Bool.not_false]
      refine hs.st 0 rfl (by show 3 < 10; omega) rfl fun H hs => ?_
      rw [hbr.1] at hs
      rw [i64w (x := (d.rd : Int) + 1) (by omega) (by omega)] at hs
      refine hs.ld 0 rfl rfl ?_
      simp only [DI_int', DB_bool, DS_string, DP_pointer, DSl_slice, DM_map, DA_agg, DTup_tuple, DCons_cons, DNil_nil, NN_some, BIf_true, BIf_false, BIf_same, List.toList_toArray, Bool.not_true, Bool.not_false]
      have hs : Sep [pts p (dskO { d.burnt with rd := d.rd + 1 } r1 r2 r3), Mp r1 (strM d.burnt.safe), Mp r2 (tchM d.burnt.tch), Mp r3 (strM d.burnt.cache)] H := hs
      obtain ⟨H1, ⟨l, clock, hr1, hgk⟩, hle⟩ := hs.see 3 rfl
      refine lookupK u_int u_strm hz1 hz2 (hle _ _ hr1) true ?_
      rw [hgk.get, hbr.2.2.2.2.2.2.1]
      unfold strM
      cases hcd : d.cache i with
      | some bs =>
        have hl := hok.cache i bs hcd
        simp only [Option.map_some, strV, if_true]
        simp only [DI_int', DB_bool, DS_string, DP_pointer, DSl_slice, DM_map, DA_agg, DTup_tuple, DCons_cons, DNil_nil, NN_some, BIf_true, BIf_false, BIf_same, List.toList_toArray, Bool.not_true, Bool.not_false]
        refine ⟨by show bs.toArray.size ≤ _; simp; omega, fun c hbc => ?_⟩
        refine hs.nw fun b H hs => ?_
        simp only [DI_int', DB_bool, DS_string, DP_pointer, DSl_slice, DM_map, DA_agg, DTup_tuple, DCons_cons, DNil_nil, NN_some, BIf_true, BIf_false, BIf_same, List.toList_toArray, Bool.not_true, Bool.not_false]
        have hsize : ((⟨bs.toArray⟩ : ByteArray).size) = d.size := by show bs.toArray.size = _; simpa using hl
        rw [hsize] at hbc ⊢
        refine ⟨_, .inr (.inr ⟨hc, hb, b, c, c, rfl, hbc, rfl⟩), ?_⟩
        have : d.now i = bs := by unfold D.now; rw [hcd]; rfl
        rw [this]
        exact Dk.shut hs
      | none =>
        simp only [Option.map_none, if_true]
        simp only [DI_int', DB_bool, DS_string, DP_pointer, DSl_slice, DM_map, DA_agg, DTup_tuple, DCons_cons, DNil_nil, NN_some, BIf_true, BIf_false, BIf_same, List.toList_toArray, Bool.not_true, Bool.not_false]
        have hs := Dk.shut (L := []) hs
        have hsat : (D.sat { d.burnt with rd := d.rd + 1 } i) = d.sat i := by unfold D.sat; rw [show ({ d.burnt with rd := d.rd + 1 } : D).safe = d.burnt.safe from rfl, hbr.2.2.2.2.2.1, show ({ d.burnt with rd := d.rd + 1 } : D).size = d.burnt.size from rfl, hbr.2.2.2.1]
        have hok2 : Ok { d.burnt with rd := d.rd + 1 } := ⟨hok.burnt.sec, hok.burnt.size, hok.burnt.big, hok.burnt.per, hok.burnt.safe, hok.burnt.cache, hok.burnt.fz⟩
        refine (get_tr hok2 i).use hs [0] rfl rfl ?_
        rintro _ _ H ⟨b, rfl, rfl⟩ hs
        simp only [DI_int', DB_bool, DS_string, DP_pointer, DSl_slice, DM_map, DA_agg, DTup_tuple, DCons_cons, DNil_nil, NN_some, BIf_true, BIf_false, BIf_same, List.toList_toArray, Bool.not_true, Bool.not_false]
        refine ⟨_, .inr (.inr ⟨hc, hb, b, d.size, d.size, ?_, Nat.le_refl _, rfl⟩), ?_⟩
        · show (Value.tuple #[.slice (some ⟨b, 0, none⟩) d.burnt.size d.burnt.size, .int .i64 0]) = _
          rw [hbr.2.2.2.1]
        · have : d.now i = d.sat i := by unfold D.now; rw [hcd]; rfl
          rw [this, ← hsat]
          have e : ({ d.burnt with rd := d.rd + 1 } : D).size = d.size := hbr.2.2.2.1
          rw [← e]
          exact hs
  · refine BIf_bnep hc ⟨_, .inl ⟨hc, rfl, rfl⟩, hs⟩

def updB (m : Int → Option (List UInt8)) (k : Int) (v : List UInt8) : Int → Option (List UInt8) := fun j => if j = k then some v else m j
def updT (m : Int → Bool) (k : Int) : Int → Bool := fun j => if j = k then true else m j
theorem updB_M (m : Int → Option (List UInt8)) (k : Int) (v : List UInt8) : updM (strM m) k (strV v) = strM (updB m k v) := by
  funext j
  unfold updM strM updB
  split <;> rfl
theorem updT_M (m : Int → Bool) (k : Int) : updM (tchM m) k (.int .i64 1) = tchM (updT m k) := by
  funext j
  unfold updM tchM updT
  split <;> rfl

def D.wrote (d : D) (i : Int) (bs : List UInt8) : D := { d.burnt with wr := d.wr + 1, tch := updT d.tch i, cache := updB d.cache i bs }
/-- What a write answers. -/
def D.writeE (d : D) (i : Int) (n : Nat) : Int := if d.chk i ≠ 0 then d.chk i else if n ≠ d.size then 19 else if d.burns then 8 else 0
def D.writeD (d : D) (i : Int) (bs : List UInt8) : D := if d.chk i ≠ 0 then d else if bs.length ≠ d.size then d else if d.burns then d.burnt else d.wrote i bs

theorem Write_tr {p : Nat} {d : D} (hok : Ok d) (ho : d.wr ≤ 4611686018427387904) (i : Int) (A : Option Addr) (n m : Nat) (bs : List UInt8) (hn : n = bs.length) (R : As) (hR : ∀ H, R H → Cells H A (byteVals bs)) :
    Tr Try.prog 32 #[.pointer (some ⟨p, 0, none⟩), .int .i64 i, .slice A n m] [Dk p d, R] fun v M => v = .int .i64 (d.writeE i n) ∧ M = [Dk p (d.writeD i bs), R] := fun H hs => by
  have hf := hok.fz
  have hsz := hok.size
  apply W_disk_Disk_Write.ok
  unfold W_disk_Disk_Write
  simp only [NN_some, Addr.add_lit', Addr.add_zero, Nat.zero_add, Nat.add_zero]
  refine HCalls.use (check_s hs 0 rfl i) ?_
  try simp only [DI_int', DB_bool, DS_string, DP_pointer, DSl_slice, DM_map, DA_agg, DTup_tuple, DCons_cons, DNil_nil, NN_some, BIf_true, BIf_false, BIf_same, List.toList_toArray, Bool.not_true, Bool.not_false]
  by_cases hc : d.chk i = 0
  · refine BIf_bnen hc ?_
    obtain ⟨r1, r2, r3, hd⟩ := Dk.see hs 0 rfl
    refine Ld_obj hd (v := .int .i64 d.size) rfl ?_
    simp only [DI_int', DB_bool, DS_string, DP_pointer, DSl_slice, DM_map, DA_agg, DTup_tuple, DCons_cons, DNil_nil, NN_some, BIf_true, BIf_false, BIf_same, List.toList_toArray, Bool.not_true, Bool.not_false]
    by_cases hnd : n = d.size
    · refine BIf_bnen (by omega) ?_
      have hnl : bs.length = d.size := by omega
      refine (burns_tr hf).use hs [0] rfl rfl ?_
      rintro _ _ H ⟨rfl, rfl⟩ hs
      simp only [DI_int', DB_bool, DS_string, DP_pointer, DSl_slice, DM_map, DA_agg, DTup_tuple, DCons_cons, DNil_nil, NN_some, BIf_true, BIf_false, BIf_same, List.toList_toArray, Bool.not_true, Bool.not_false]
      cases hb : d.burns with
      | true => exact ⟨_, ⟨by simp [D.writeE, hc, hnd, hb], by simp [D.writeD, hc, hnl, hb]; rfl⟩, hs⟩
      | false =>
        simp only [DI_int', DB_bool, DS_string, DP_pointer, DSl_slice, DM_map, DA_agg, DTup_tuple, DCons_cons, DNil_nil, NN_some, BIf_true, BIf_false, BIf_same, List.toList_toArray, Bool.not_true, Bool.not_false]
        have hbr := burnt_rd d
        obtain ⟨r1, r2, r3, hs⟩ := Dk.open hs
        refine hs.ld 0 rfl rfl ?_
        simp only [DI_int', DB_bool, DS_string, DP_pointer, DSl_slice, DM_map, DA_agg, DTup_tuple, DCons_cons, DNil_nil, NN_some, BIf_true, BIf_false, BIf_same, List.toList_toArray, Bool.not_true, Bool.not_false]
        refine hs.st 0 rfl (by show 4 < 10; omega) rfl fun H hs => ?_
        rw [hbr.2.1] at hs
        rw [i64w (x := (d.wr : Int) + 1) (by omega) (by omega)] at hs
        refine hs.ld 0 rfl rfl ?_
        simp only [DI_int', DB_bool, DS_string, DP_pointer, DSl_slice, DM_map, DA_agg, DTup_tuple, DCons_cons, DNil_nil, NN_some, BIf_true, BIf_false, BIf_same, List.toList_toArray, Bool.not_true, Bool.not_false]
        refine hs.upd u_int u_intm 2 rfl fun H hs => ?_
        rw [updT_M, hbr.2.2.2.2.2.2.2] at hs
        refine hs.ld 0 rfl rfl ?_
        simp only [DI_int', DB_bool, DS_string, DP_pointer, DSl_slice, DM_map, DA_agg, DTup_tuple, DCons_cons, DNil_nil, NN_some, BIf_true, BIf_false, BIf_same, List.toList_toArray, Bool.not_true, Bool.not_false]
        obtain ⟨H1, hR1, hle⟩ := hs.see 4 (A := R) rfl
        refine BsK_of ((hR H1 hR1).le hle) hn ?_
        refine hs.upd u_int u_strm 3 rfl fun H hs => ?_
        rw [show (Value.string ⟨bs.toArray⟩) = strV bs from rfl, updB_M, hbr.2.2.2.2.2.2.1] at hs
        refine ⟨_, ⟨by simp [D.writeE, hc, hnd, hb], by simp [D.writeD, hc, hnl, hb]; rfl⟩, ?_⟩
        exact Dk.shut (d := d.wrote i bs) (r1 := r1) (r2 := r2) (r3 := r3) hs
    · refine BIf_bnep (by omega) ?_
      have hnl : bs.length ≠ d.size := by omega
      exact ⟨_, ⟨by simp [D.writeE, hc, hnd], by simp [D.writeD, hc, hnl]⟩, hs⟩
  · refine BIf_bnep hc ?_
    exact ⟨_, ⟨by simp [D.writeE, hc], by simp [D.writeD, hc]⟩, hs⟩

theorem chk_in {d : D} {i : Int} (h : d.chk i = 0) : 0 ≤ i ∧ i < d.sec ∧ d.down = false := by
  unfold D.chk at h
  split at h
  · omega
  · split at h
    · omega
    · rename_i h1 h2
      exact ⟨by omega, by omega, by simpa using h1⟩

end Go.Proofs.Ytbnhfcdagoigkaa.Dsk
