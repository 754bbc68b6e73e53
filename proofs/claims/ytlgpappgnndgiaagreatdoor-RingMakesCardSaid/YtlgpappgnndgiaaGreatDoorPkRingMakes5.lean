import Derived.Test.YtlgpappgnndgiaaGreatDoorProg
import Derived.Test.YtlgpappgnndgiaaGreatDoorPkRingMakes4
section
/-! DskE -/
/- disk: Sync; and what the laws of the layer do with a disk. -/
set_option maxRecDepth 100000
set_option linter.unusedSimpArgs false
set_option linter.unusedVariables false
set_option linter.unnecessarySimpa false
set_option linter.unusedSectionVars false
namespace Go.Proofs.YtlgpappgnndgiaaGreatDoor.Dsk
open Go Go.Hw Go.Form Go.Proofs.YtlgpappgnndgiaaGreatDoor.W

/-- A map's entries over another one's. -/
def mergeB (s c : Int → Option (List UInt8)) : Int → Option (List UInt8) := fun i => match c i with | some b => some b | none => s i

theorem born_inj {l : List (Int × Value × Nat)} (h : (l.map (·.2.2)).Nodup) {x y : Int × Value × Nat} (hx : x ∈ l) (hy : y ∈ l) (e : x.2.2 = y.2.2) : x = y := by
  induction l with
  | nil => simp at hx
  | cons z l ih =>
    simp only [List.map_cons, List.nodup_cons] at h
    rcases List.mem_cons.1 hx with ex | hx'
    · rcases List.mem_cons.1 hy with ey | hy'
      · rw [ex, ey]
      · exact absurd (by rw [← ex, e]; exact List.mem_map_of_mem hy') h.1
    · rcases List.mem_cons.1 hy with ey | hy'
      · exact absurd (by rw [← ey, ← e]; exact List.mem_map_of_mem hx') h.1
      · exact ih h.2 hx' hy'

theorem mcopy_loop (K : Value → Hp → Prop) {r1 r2 it cl : Nat} {c s : Int → Option (List UInt8)} {l : List (Int × Value × Nat)} (hok : OkK l cl (strM c))
    (hK : ∀ H, Sep [Mp r1 (strM (mergeB s c)), pts r2 (kmap l cl)] H → K (.tuple #[]) H) :
    ∀ (t : Nat) (sj : Int → Option (List UInt8)) (seen : Array Nat) (last : Nat) (H : Hp), (unseenK l seen).length ≤ t → (∀ x ∈ l, x.2.2 < last) → (∀ i, (∀ x ∈ unseenK l seen, x.1 ≠ i) → sj i = mergeB s c i) →
      Sep [Mp r1 (strM sj), pts r2 (kmap l cl), pts it (iterO r2 cl seen last)] H → W_maps_Copy_map_int_string_map_int_string_int_string.l1 K (t + 1) (some r1) (.pointer (some ⟨it, 0, none⟩)) H := fun t => by
  induction t with
  | zero =>
    intro sj seen last H ht hlast hsj hs
    unfold W_maps_Copy_map_int_string_map_int_string_int_string.l1
    have h0 : unseenK l seen = [] := List.length_eq_zero_iff.1 (by omega)
    refine next_K (hs.get 2 rfl) (hs.get 1 rfl) hok.bl hlast (fun x hx => by rw [h0] at hx; simp at hx) (fun _ => ?_)
    simp only [Ex, List.getElem?_toArray, List.getElem?_cons_zero, DB_bool, BIf_false]
    refine hK H ?_
    have : sj = mergeB s c := funext fun i => hsj i (fun x hx => by rw [h0] at hx; simp at hx)
    rw [← this]
    exact hs.re [0, 1] rfl
  | succ t ih =>
    intro sj seen last H ht hlast hsj hs
    unfold W_maps_Copy_map_int_string_map_int_string_int_string.l1
    refine next_K (hs.get 2 rfl) (hs.get 1 rfl) hok.bl hlast (fun x hx => ?_) (fun h0 => ?_)
    · simp only [Ex, List.getElem?_toArray, List.getElem?_cons_zero, DB_bool, BIf_true]
      have hxl : x ∈ l := (List.mem_filter.1 hx).1
      have hs := hs.put 2 (iterO r2 cl (seen.push x.2.2) cl) rfl
      refine entry_K (hs.get 2 rfl) (hs.get 1 rfl) hxl (by simp) hok.bn ?_
      simp only [Ex, List.getElem?_toArray, List.getElem?_cons_zero, List.getElem?_cons_succ]
      have hg : strM c x.1 = some x.2.1 := by rw [← hok.get, getK_mem hok.nd hxl]
      obtain ⟨b, hcb, hxb⟩ : ∃ b, c x.1 = some b ∧ x.2.1 = strV b := by
        unfold strM at hg
        cases hc : c x.1 with
        | none => rw [hc] at hg; cases hg
        | some b => rw [hc] at hg; exact ⟨b, rfl, (Option.some.inj hg).symm⟩
      rw [hxb]
      show DI .i64 (.int .i64 x.1) fun x1 => DS (.string ⟨b.toArray⟩) _
      simp only [DI_int', DB_bool, DS_string, DP_pointer, DSl_slice, DM_map, DA_agg, DTup_tuple, DCons_cons, DNil_nil, NN_some, BIf_true, BIf_false, BIf_same, List.toList_toArray, Bool.not_true, Bool.not_false]
      refine hs.upd u_int u_strm 0 rfl fun H hs => ?_
      rw [show (Value.string ⟨b.toArray⟩) = strV b from rfl, updB_M] at hs
      have hlt := unseenK_lt hx
      refine ih (updB sj x.1 b) (seen.push x.2.2) cl H (by omega) hok.bl (fun i hi => ?_) hs
      by_cases e : i = x.1
      · subst e
        unfold mergeB updB
        rw [hcb]; simp
      · unfold updB
        rw [if_neg e]
        refine hsj i fun y hy ey => ?_
        obtain ⟨hyl, hys⟩ := List.mem_filter.1 hy
        have hne : y.2.2 ≠ x.2.2 := fun e2 => e (by rw [← ey, born_inj hok.bn hyl hxl e2])
        refine hi y (List.mem_filter.2 ⟨hyl, ?_⟩) ey
        rw [Array.contains_push]
        simp only [Bool.not_eq_true', Bool.or_eq_false_iff] at hys ⊢
        exact ⟨hys, by simpa using hne⟩
    · simp only [Ex, List.getElem?_toArray, List.getElem?_cons_zero, DB_bool, BIf_false]
      refine hK H ?_
      have : sj = mergeB s c := funext fun i => hsj i (fun x hx => by rw [h0] at hx; simp at hx)
      rw [← this]
      exact hs.re [0, 1] rfl

theorem mcopy_tr (r1 r2 : Nat) (s c : Int → Option (List UInt8)) : Tr Tryz.prog 99 #[.map (some r1), .map (some r2)] [Mp r1 (strM s), Mp r2 (strM c)] fun v M =>
    v = .tuple #[] ∧ M = [Mp r1 (strM (mergeB s c)), Mp r2 (strM c)] := fun H hs => by
  have hs0 := hs
  obtain ⟨H1, ⟨l, clock, hr1, hok⟩, hle⟩ := hs.see 1 rfl
  apply W_maps_Copy_map_int_string_map_int_string_int_string.ok
  unfold W_maps_Copy_map_int_string_map_int_string_int_string
  refine range_K u_strm (hle _ _ hr1) fun it hit => ?_
  have hs1 : Sep [Mp r1 (strM s), pts r2 (kmap l clock)] H := hs.turn' 1 rfl fun H2 hle2 hA => by
    obtain ⟨l2, clock2, h2, _⟩ := hA
    have e1 := hle2 _ _ h2
    have e2 := hle _ _ hr1
    rw [e1] at e2
    show H2 r2 = some (kmap l clock)
    rw [h2, e2]
  have hs2 := hs1.new hit (iterO r2 clock #[] clock)
  refine ⟨l.length + 1, ?_⟩
  refine mcopy_loop _ (s := s) hok (fun H hs => ⟨_, ⟨rfl, rfl⟩, hs.turn 1 rfl fun H2 hA => ⟨l, clock, hA, hok⟩⟩) l.length s #[] clock _ ?_ hok.bl (fun i hi => ?_) hs2
  · unfold unseenK; exact List.length_filter_le _ _
  · unfold mergeB
    have hn : c i = none := by
      have : getK l i = none := getK_none.2 fun x hx => hi x (by unfold unseenK; simp [hx])
      rw [hok.get] at this
      unfold strM at this
      cases hc : c i with
      | none => rfl
      | some b => rw [hc] at this; cases this
    rw [hn]

/-- A disk whose sectors are safe. -/
def D.synced (d : D) : D := { d.burnt with sy := d.sy + 1, safe := mergeB d.safe d.cache, cache := fun _ => none }
def D.syncE (d : D) : Int := if d.down then 8 else if d.burns then 8 else 0
def D.syncD (d : D) : D := if d.down then d else if d.burns then d.burnt else d.synced

theorem Sync_tr {p : Nat} {d : D} (hok : Ok d) (ho : d.sy ≤ 4611686018427387904) : Tr Tryz.prog 56 #[.pointer (some ⟨p, 0, none⟩)] [Dk p d] fun v M => v = .int .i64 d.syncE ∧ M = [Dk p d.syncD] := fun H hs => by
  have hf := hok.fz
  obtain ⟨r1, r2, r3, hp⟩ := Dk.see hs 0 rfl
  apply W_disk_Disk_Sync.ok
  unfold W_disk_Disk_Sync
  simp only [NN_some, Addr.add_lit', Addr.add_zero, Nat.zero_add, Nat.add_zero]
  refine Ld_obj hp (v := .bool d.down) rfl ?_
  simp only [DI_int', DB_bool, DS_string, DP_pointer, DSl_slice, DM_map, DA_agg, DTup_tuple, DCons_cons, DNil_nil, NN_some, BIf_true, BIf_false, BIf_same, List.toList_toArray, Bool.not_true, Bool.not_false]
  cases hdn : d.down with
  | true => exact BIf_pos rfl ⟨_, ⟨by simp [D.syncE, hdn], by simp [D.syncD, hdn]⟩, hs⟩
  | false =>
    refine BIf_neg rfl ?_
    refine (burns_tr hf).use hs [0] rfl rfl ?_
    rintro _ _ H ⟨rfl, rfl⟩ hs
    simp only [DI_int', DB_bool, DS_string, DP_pointer, DSl_slice, DM_map, DA_agg, DTup_tuple, DCons_cons, DNil_nil, NN_some, BIf_true, BIf_false, BIf_same, List.toList_toArray, Bool.not_true, Bool.not_false]
    cases hb : d.burns with
    | true => exact BIf_pos rfl ⟨_, ⟨by simp [D.syncE, hdn, hb], by simp [D.syncD, hdn, hb]; rfl⟩, hs⟩
    | false =>
      refine BIf_neg rfl ?_
      have hbr := burnt_rd d
      obtain ⟨r1, r2, r3, hs⟩ := Dk.open hs
      try simp only [NN_some, Addr.add_lit', Addr.add_zero, Nat.zero_add, Nat.add_zero]
      refine hs.ld 0 rfl rfl ?_
      simp only [DI_int', DB_bool, DS_string, DP_pointer, DSl_slice, DM_map, DA_agg, DTup_tuple, DCons_cons, DNil_nil, NN_some, BIf_true, BIf_false, BIf_same, List.toList_toArray, Bool.not_true, Bool.not_false]
      refine hs.st 0 rfl (by show 5 < 10; omega) rfl fun H hs => ?_
      rw [hbr.2.2.1] at hs
      rw [i64w (x := (d.sy : Int) + 1) (by omega) (by omega)] at hs
      refine hs.ld 0 rfl rfl ?_
      simp only [DI_int', DB_bool, DS_string, DP_pointer, DSl_slice, DM_map, DA_agg, DTup_tuple, DCons_cons, DNil_nil, NN_some, BIf_true, BIf_false, BIf_same, List.toList_toArray, Bool.not_true, Bool.not_false]
      refine hs.ld 0 rfl rfl ?_
      simp only [DI_int', DB_bool, DS_string, DP_pointer, DSl_slice, DM_map, DA_agg, DTup_tuple, DCons_cons, DNil_nil, NN_some, BIf_true, BIf_false, BIf_same, List.toList_toArray, Bool.not_true, Bool.not_false]
      rw [hbr.2.2.2.2.2.1, hbr.2.2.2.2.2.2.1] at hs
      refine (mcopy_tr r1 r3 d.safe d.cache).use hs [1, 3] rfl rfl ?_
      rintro _ _ H ⟨rfl, rfl⟩ hs
      try simp only [DI_int', DB_bool, DS_string, DP_pointer, DSl_slice, DM_map, DA_agg, DTup_tuple, DCons_cons, DNil_nil, NN_some, BIf_true, BIf_false, BIf_same, List.toList_toArray, Bool.not_true, Bool.not_false]
      refine hs.ld 2 rfl rfl ?_
      simp only [DI_int', DB_bool, DS_string, DP_pointer, DSl_slice, DM_map, DA_agg, DTup_tuple, DCons_cons, DNil_nil, NN_some, BIf_true, BIf_false, BIf_same, List.toList_toArray, Bool.not_true, Bool.not_false]
      refine hs.clearK u_int u_strm 1 rfl fun H hs => ?_
      refine ⟨_, ⟨by simp [D.syncE, hdn, hb], by simp [D.syncD, hdn, hb]; rfl⟩, ?_⟩
      exact Dk.shut (d := d.synced) (r1 := r1) (r2 := r2) (r3 := r3) (hs.re [2, 0, 3, 1] rfl)

end Go.Proofs.YtlgpappgnndgiaaGreatDoor.Dsk

end
section
/-! DskF -/
/- disk: what the law DiskSafe does with a disk. -/
set_option maxRecDepth 100000
set_option linter.unusedSimpArgs false
set_option linter.unusedVariables false
set_option linter.unnecessarySimpa false
set_option linter.unusedSectionVars false
namespace Go.Proofs.YtlgpappgnndgiaaGreatDoor.Dsk
open Go Go.Hw Go.Form Go.Proofs.YtlgpappgnndgiaaGreatDoor.W

theorem CellsS.rdA {s : Nat} {H : Hp} {A : Option Addr} {rows : List (List Value)} (h : CellsS s H A rows) {i : Nat} {r : List Value} (hi : rows[i]? = some r) (hr : r.length = s) {x : Int} (hx : x = i) {n : Nat} (hn : rows.length ≤ n) {K : List Value → Prop} (k : K r) :
    ixI x n (NN A fun a => LdA H (a.add (x.toNat * s)) s K) := by
  obtain ⟨a, rfl, hc⟩ := h i r hi
  subst hx
  have := (List.getElem?_eq_some_iff.1 hi).1
  refine ⟨by omega, by omega, ?_⟩
  rw [Int.toNat_natCast]
  have hcells : Cells H (some (a.add (i * s))) r := fun j v hj => ⟨_, rfl, by rw [add_add]; exact hc j v hj⟩
  have := hcells.cells?
  rw [hr] at this
  show LdA H (a.add (i * s)) s K
  unfold LdA
  rw [this]
  exact k

/-- Something that is done. -/
structure Act where
  k : Int
  i : Int
  A : Option Addr
  n : Nat
  m : Nat
  b : List UInt8
  A' : Option Addr
  n' : Nat
  m' : Nat
  ks : List Bool
def actRow (a : Act) : List Value := [.int .i64 a.k, .int .i64 a.i, .slice a.A a.n a.m, .slice a.A' a.n' a.m']
structure OkA (H : Hp) (a : Act) : Prop where
  n : a.n = a.b.length
  b : Cells H a.A (byteVals a.b)
  n' : a.n' = a.ks.length
  ks : Cells H a.A' (boolVals a.ks)
  i : -9223372036854775808 ≤ a.i ∧ a.i ≤ 9223372036854775807

/-- Bytes, as long as a sector. -/
def laidB (bs : List UInt8) : List UInt8 := bs.take 32 ++ List.replicate (32 - bs.length) 0
theorem laidB_len (bs : List UInt8) : (laidB bs).length = 32 := by
  unfold laidB
  rw [List.length_append, List.length_take, List.length_replicate]; omega

end Go.Proofs.YtlgpappgnndgiaaGreatDoor.Dsk

end
section
/-! DskG -/
/- disk: an act of the law DiskSafe. -/
set_option maxRecDepth 100000
set_option linter.unusedSimpArgs false
set_option linter.unusedVariables false
set_option linter.unnecessarySimpa false
set_option linter.unusedSectionVars false
namespace Go.Proofs.YtlgpappgnndgiaaGreatDoor.Dsk
open Go Go.Hw Go.Form Go.Proofs.YtlgpappgnndgiaaGreatDoor.W

structure Calm (d : D) : Prop where
  down : d.down = false
  fuse : d.fuse = 0

/-- A disk goes on. -/
structure Next (d d' : D) : Prop where
  ok : Ok d'
  dom : Dom d'
  sec : d'.sec = d.sec
  size : d'.size = d.size
  rd : d'.rd ≤ d.rd + 1
  wr : d'.wr ≤ d.wr + 1
  sy : d'.sy ≤ d.sy + 1

section
variable {d : D} (h : Ok d) (hd : Dom d)
include h hd
theorem Next.refl : Next d d := ⟨h, hd, rfl, rfl, by omega, by omega, by omega⟩
theorem Next.burnt : Next d d.burnt := by
  have hb := burnt_rd d
  refine ⟨Ok.burnt h, fun k hk => ?_, hb.2.2.2.2.1, hb.2.2.2.1, by rw [hb.1]; omega, by rw [hb.2.1]; omega, by rw [hb.2.2.1]; omega⟩
  rw [hb.2.2.2.2.2.2.1] at hk
  rw [hb.2.2.2.2.1]; exact hd k hk
theorem Next.read : Next d { d.burnt with rd := d.rd + 1 } := by
  have hb := Next.burnt h hd
  exact ⟨⟨hb.ok.sec, hb.ok.size, hb.ok.big, hb.ok.per, hb.ok.safe, hb.ok.cache, hb.ok.fz⟩, hb.dom, hb.sec, hb.size, Nat.le_refl _, hb.wr, hb.sy⟩
theorem Next.write (i : Int) (bs : List UInt8) : Next d (d.writeD i bs) := by
  have hb := burnt_rd d
  have h1 := Ok.writeD h i bs
  have h2 := Dom.writeD hd i bs
  have hn := Next.burnt h hd
  unfold D.writeD at h1 h2 ⊢
  split
  · exact Next.refl h hd
  · rename_i c1
    rw [if_neg c1] at h1 h2
    split
    · exact Next.refl h hd
    · rename_i c2
      rw [if_neg c2] at h1 h2
      split
      · exact hn
      · rename_i c3
        rw [if_neg c3] at h1 h2
        exact ⟨h1, h2, hn.sec, hn.size, hn.rd, Nat.le_refl _, hn.sy⟩
theorem Next.sync : Next d d.syncD := by
  have hn := Next.burnt h hd
  have hb := burnt_rd d
  unfold D.syncD
  split
  · exact Next.refl h hd
  · split
    · exact hn
    · refine ⟨⟨hn.ok.sec, hn.ok.size, hn.ok.big, hn.ok.per, fun k b hk => ?_, fun k b hk => (by cases hk), hn.ok.fz⟩, fun k hk => (by cases hk), hn.sec, hn.size, hn.rd, hn.wr, Nat.le_refl _⟩
      have hk' : mergeB d.safe d.cache k = some b := hk
      show b.length = d.burnt.size
      rw [hb.2.2.2.1]
      unfold mergeB at hk'
      split at hk'
      · rename_i b' hc; cases hk'; exact h.cache k b hc
      · exact h.safe k b hk'
theorem Next.crash : Next d { d with down := true, fuse := 0 } := ⟨Ok.crash h, hd, rfl, rfl, Nat.le_succ _, Nat.le_succ _, Nat.le_succ _⟩
theorem Next.fused (n : Nat) (hn : n ≤ 9223372036854775807) : Next d { d with fuse := n } := ⟨Ok.fused h n hn, hd, rfl, rfl, Nat.le_succ _, Nat.le_succ _, Nat.le_succ _⟩
theorem Next.boot {ks : List Int} (hk : KeysOf (strM d.cache) ks) (keep : List Bool) : Next d (D.boot d ks keep) := ⟨Ok.boot h hk keep, Dom.boot d ks keep, rfl, rfl, Nat.le_succ _, Nat.le_succ _, Nat.le_succ _⟩
end

/-- What an act does to a disk whose power stays. -/
def Eff (d d' : D) (a : Act) (e : Int) : Prop := Calm d → a.k ≤ 2 → Calm d' ∧ d'.safe = d.safe ∧
  ((0 ≤ a.k ∧ a.k ≤ 1 ∧ e = 0) → (0 ≤ a.i ∧ a.i < d.sec) ∧ d'.cache = updB d.cache a.i (laidB a.b)) ∧ (¬ (0 ≤ a.k ∧ a.k ≤ 1 ∧ e = 0) → d'.cache = d.cache)

theorem Calm.burns {d : D} (h : Calm d) : d.burns = false := by unfold D.burns; rw [h.fuse]; rfl
theorem Calm.burnt {d : D} (h : Calm d) : d.burnt = d := by unfold D.burnt; rw [if_pos h.fuse]

theorem Eff.same {d : D} {a : Act} {e : Int} (h : ¬ (0 ≤ a.k ∧ a.k ≤ 1 ∧ e = 0)) : Eff d d a e := fun hc _ => ⟨hc, rfl, fun h' => absurd h' h, fun _ => rfl⟩
theorem Eff.late {d d' : D} {a : Act} {e : Int} (h : a.k > 2) : Eff d d' a e := fun _ h' => by omega
theorem Eff.write {d : D} {a : Act} (hz : d.size = 32) (hk : 0 ≤ a.k ∧ a.k ≤ 1) : Eff d (d.writeD a.i (laidB a.b)) a (d.writeE a.i 32) := fun hc _ => by
  have hl := laidB_len a.b
  by_cases h0 : d.chk a.i = 0
  · have e1 : d.writeE a.i 32 = 0 := by
      unfold D.writeE
      rw [if_neg (by rw [h0]; simp), if_neg (by omega), hc.burns]; rfl
    have e2 : d.writeD a.i (laidB a.b) = d.wrote a.i (laidB a.b) := by
      unfold D.writeD
      rw [if_neg (by rw [h0]; simp), if_neg (by omega), hc.burns]; rfl
    rw [e1, e2]
    have hb := hc.burnt
    have hr := chk_in h0
    unfold D.wrote
    rw [hb]
    exact ⟨⟨hc.down, hc.fuse⟩, rfl, fun _ => ⟨⟨hr.1, hr.2.1⟩, rfl⟩, fun h => absurd ⟨hk.1, hk.2, rfl⟩ h⟩
  · have e1 : d.writeE a.i 32 = d.chk a.i := by unfold D.writeE; rw [if_pos h0]
    have e2 : d.writeD a.i (laidB a.b) = d := by unfold D.writeD; rw [if_pos h0]
    rw [e1, e2]
    exact ⟨hc, rfl, fun h => absurd h.2.2 h0, fun _ => rfl⟩
theorem Eff.read {d : D} {a : Act} {e : Int} (hk : a.k = 2) : Eff d { d.burnt with rd := d.rd + 1 } a e := fun hc _ => by
  rw [hc.burnt]
  exact ⟨⟨hc.down, hc.fuse⟩, rfl, fun h => by omega, fun _ => rfl⟩
theorem Eff.burnt {d : D} {a : Act} {e : Int} (hk : a.k = 2) : Eff d d.burnt a e := fun hc _ => by
  rw [hc.burnt]
  exact ⟨hc, rfl, fun h => by omega, fun _ => rfl⟩



end Go.Proofs.YtlgpappgnndgiaaGreatDoor.Dsk

end
section
/-! RngA -/
/- ring: New, slot. -/
set_option maxRecDepth 100000
set_option linter.unusedSimpArgs false
set_option linter.unusedVariables false
set_option linter.unnecessarySimpa false
set_option linter.unusedSectionVars false
namespace Go.Proofs.YtlgpappgnndgiaaGreatDoor.Rng
open Go Go.Hw Go.Proofs.YtlgpappgnndgiaaGreatDoor.W Go.Proofs.YtlgpappgnndgiaaGreatDoor.Rec Go.Proofs.YtlgpappgnndgiaaGreatDoor.Srt Go.Proofs.YtlgpappgnndgiaaGreatDoor.Dsk

/-- A ring, in memory. -/
def ringO (p : Nat) (f n w : Int) : AO := .obj (.cells #[.int .i64 f, .int .i64 n, .int .i64 w, .pointer (some ⟨p, 0, none⟩)] 150)
/-- Can a ring have this extent? -/
def extB (d : D) (f n : Int) : Bool := decide (2 ≤ n ∧ 0 ≤ f ∧ f < d.sec ∧ n ≤ d.sec - f)

def NewQ (p : Nat) (d : D) (f n w : Int) (v : Value) (M : List As) : Prop :=
  (extB d f n = true ∧ ∃ b, v = .tuple #[.pointer (some ⟨b, 0, none⟩), .int .i64 0] ∧ M = [Dk p d, pts b (ringO p f n w)]) ∨ (extB d f n = false ∧ v = .tuple #[.pointer none, .int .i64 2] ∧ M = [Dk p d])
theorem NewQ.yes {p : Nat} {d : D} {f n w : Int} (h : extB d f n = true) (b : Nat) : NewQ p d f n w (.tuple #[.pointer (some ⟨b, 0, none⟩), .int .i64 0]) [Dk p d, pts b (ringO p f n w)] := .inl ⟨h, b, rfl, rfl⟩
theorem NewQ.no {p : Nat} {d : D} {f n w : Int} (h : extB d f n = false) : NewQ p d f n w (.tuple #[.pointer none, .int .i64 2]) [Dk p d] := .inr ⟨h, rfl, rfl⟩

theorem New_tr {p : Nat} {d : D} (hok : Ok d) (f n w : Int) (hf : -9223372036854775808 ≤ f ∧ f ≤ 9223372036854775807) :
    Tr Tryz.prog 24 #[.pointer (some ⟨p, 0, none⟩), .agg #[.int .i64 f, .int .i64 n, .int .i64 w]] [Dk p d] (NewQ p d f n w) := fun H hs => by
  have hsec := hok.sec
  apply W_ring_New.ok
  unfold W_ring_New
  refine hs.nw fun b1 H hs => ?_
  have hs : Hw.Sep [Dk p d, pts b1 (.obj (.cells #[.int .i64 f, .int .i64 n, .int .i64 w] 30))] H := hs
  have bad : extB d f n = false → ∃ M, NewQ p d f n w (.tuple #[.pointer none, .int .i64 2]) M ∧ Hw.Sep M H := fun h => ⟨_, .no h, hs.re [0] rfl⟩
  refine BIf_neg rfl ?_
  refine hs.ldf 1 rfl rfl ?_
  simp only [DI_int', DB_bool, DS_string, DP_pointer, DSl_slice, DM_map, DA_agg, DTup_tuple, DCons_cons, DNil_nil, NN_some, BIf_true, BIf_false, BIf_same, List.toList_toArray, Bool.not_true, Bool.not_false]
  by_cases h1 : n < 2
  · exact BIf_dpos h1 (bad (decide_eq_false (by omega)))
  refine BIf_dneg h1 ?_
  refine hs.ldf 1 rfl rfl ?_
  simp only [DI_int', DB_bool, DS_string, DP_pointer, DSl_slice, DM_map, DA_agg, DTup_tuple, DCons_cons, DNil_nil, NN_some, BIf_true, BIf_false, BIf_same, List.toList_toArray, Bool.not_true, Bool.not_false]
  by_cases h2 : f < 0
  · exact BIf_dpos h2 (bad (decide_eq_false (by omega)))
  refine BIf_dneg h2 ?_
  refine hs.ldf 1 rfl rfl ?_
  simp only [DI_int', DB_bool, DS_string, DP_pointer, DSl_slice, DM_map, DA_agg, DTup_tuple, DCons_cons, DNil_nil, NN_some, BIf_true, BIf_false, BIf_same, List.toList_toArray, Bool.not_true, Bool.not_false]
  refine QCall.use (Sectors_s hs 0 rfl) ?_
  simp only [DI_int', DB_bool, DS_string, DP_pointer, DSl_slice, DM_map, DA_agg, DTup_tuple, DCons_cons, DNil_nil, NN_some, BIf_true, BIf_false, BIf_same, List.toList_toArray, Bool.not_true, Bool.not_false]
  by_cases h3 : f ≥ (d.sec : Int)
  · exact BIf_dpos h3 (bad (decide_eq_false (by omega)))
  refine BIf_dneg h3 ?_
  refine hs.ldf 1 rfl rfl ?_
  simp only [DI_int', DB_bool, DS_string, DP_pointer, DSl_slice, DM_map, DA_agg, DTup_tuple, DCons_cons, DNil_nil, NN_some, BIf_true, BIf_false, BIf_same, List.toList_toArray, Bool.not_true, Bool.not_false]
  refine QCall.use (Sectors_s hs 0 rfl) ?_
  simp only [DI_int', DB_bool, DS_string, DP_pointer, DSl_slice, DM_map, DA_agg, DTup_tuple, DCons_cons, DNil_nil, NN_some, BIf_true, BIf_false, BIf_same, List.toList_toArray, Bool.not_true, Bool.not_false]
  refine hs.ldf 1 rfl rfl ?_
  simp only [DI_int', DB_bool, DS_string, DP_pointer, DSl_slice, DM_map, DA_agg, DTup_tuple, DCons_cons, DNil_nil, NN_some, BIf_true, BIf_false, BIf_same, List.toList_toArray, Bool.not_true, Bool.not_false]
  rw [i64w (x := (d.sec : Int) - f) (by omega) (by omega)]
  by_cases h4 : n > (d.sec : Int) - f
  · exact BIf_dpos h4 (bad (decide_eq_false (by omega)))
  refine BIf_dneg h4 ?_
  first | refine hs.ldw 1 rfl rfl ?_
  try simp only [DI_int', DB_bool, DS_string, DP_pointer, DSl_slice, DM_map, DA_agg, DTup_tuple, DCons_cons, DNil_nil, NN_some, BIf_true, BIf_false, BIf_same, List.toList_toArray, Bool.not_true, Bool.not_false]
  refine hs.nw fun b2 H hs => ?_
  exact ⟨_, .yes (decide_eq_true (by omega)) b2, hs.re [0, 2] rfl⟩

theorem New_nil (f n w : Int) (H : Hp) : HCalls Tryz.prog 24 #[.pointer none, .agg #[.int .i64 f, .int .i64 n, .int .i64 w]] H (RetE (.tuple #[.pointer none, .int .i64 1]) H) := HCalls.ret (by
  apply W_ring_New.ok
  unfold W_ring_New
  refine (Sep.start H).nw fun b1 H1 hs => BIf_pos rfl ?_
  exact hs.fin 0 rfl _)

/-- The sector of a number. -/
def slotN (f n : Nat) (s : Nat) : Nat := f + (s - 1) % n
theorem slot_ok {L : List As} {H : Hp} (hs : Hw.Sep L H) (i : Nat) {b p : Nat} {f n : Nat} {w : Int} (hi : L[i]? = some (pts b (ringO p f n w))) (hf : f ≤ 1048576) (hn : 1 ≤ n) (hn2 : n ≤ 1048576) (s : Nat) (h1 : 1 ≤ s) (h2 : s < 18446744073709551616) :
    HCalls Tryz.prog 73 #[.pointer (some ⟨b, 0, none⟩), .int .u64 (s : Int)] H (RetE (.int .i64 (slotN f n s : Int)) H) := by
  apply W_ring_Ring_slot.ok
  unfold W_ring_Ring_slot
  simp only [NN_some, Addr.add_lit', Addr.add_zero, Nat.zero_add, Nat.add_zero]
  refine hs.ld i hi rfl ?_
  simp only [DI_int', DB_bool, DS_string, DP_pointer, DSl_slice, DM_map, DA_agg, DTup_tuple, DCons_cons, DNil_nil, NN_some, BIf_true, BIf_false, BIf_same, List.toList_toArray, Bool.not_true, Bool.not_false]
  try simp only [NN_some, Addr.add_lit', Addr.add_zero, Nat.zero_add, Nat.add_zero]
  refine hs.ld i hi rfl ?_
  simp only [DI_int', DB_bool, DS_string, DP_pointer, DSl_slice, DM_map, DA_agg, DTup_tuple, DCons_cons, DNil_nil, NN_some, BIf_true, BIf_false, BIf_same, List.toList_toArray, Bool.not_true, Bool.not_false]
  have hm : (s - 1) % n < n := Nat.mod_lt _ (by omega)
  rw [u64n (by omega), u64w (x := (s : Int) - 1) (by omega) (by omega), show (s : Int) - 1 = ((s - 1 : Nat) : Int) by omega, show Int.tmod ((s - 1 : Nat) : Int) (n : Int) = (((s - 1) % n : Nat) : Int) from rfl, i64n (by omega), i64w (by omega) (by omega)]
  refine ⟨by omega, by simp, ?_⟩
  unfold slotN
  exact RetE.of (by rw [Int.natCast_add])

end Go.Proofs.YtlgpappgnndgiaaGreatDoor.Rng

end
section
/-! RngB -/
/- ring: Scan. -/
set_option maxRecDepth 100000
set_option linter.unusedSimpArgs false
set_option linter.unusedVariables false
set_option linter.unnecessarySimpa false
set_option linter.unusedSectionVars false
namespace Go.Proofs.YtlgpappgnndgiaaGreatDoor.Rng
open Go Go.Hw Go.Proofs.YtlgpappgnndgiaaGreatDoor.W Go.Proofs.YtlgpappgnndgiaaGreatDoor.Rec Go.Proofs.YtlgpappgnndgiaaGreatDoor.Srt Go.Proofs.YtlgpappgnndgiaaGreatDoor.Dsk

/-- What stands in a slot. -/
def stand (f n : Nat) (bs : List UInt8) (i : Nat) : List R := if (takeV bs).2 = 0 ∧ slotN f n (takeV bs).1.s = f + i then [(takeV bs).1] else []
/-- A disk that was read once. -/
def D.red (d : D) : D := { d.burnt with rd := d.rd + 1 }
theorem Ok.red {d : D} (hok : Ok d) : Ok (D.red d) := ⟨hok.burnt.sec, hok.burnt.size, hok.burnt.big, hok.burnt.per, hok.burnt.safe, hok.burnt.cache, hok.burnt.fz⟩

/-- All slots are read: what is wrong, the disk, the records. -/
def scanR (f n : Nat) : Nat → Nat → D → List R → Int × D × List R
  | 0, _, d, acc => (0, d, acc)
  | k + 1, i, d, acc => if d.chk ((f + i : Nat) : Int) ≠ 0 then (d.chk ((f + i : Nat) : Int), d, []) else if d.burns = true then (8, d.burnt, []) else scanR f n k (i + 1) (D.red d) (acc ++ stand f n (d.now ((f + i : Nat) : Int)) i)

def ScanQ (b p f n : Nat) (w : Int) (r : Int × D × List R) (v : Value) (M : List As) : Prop :=
  ∃ A m, v = .tuple #[.slice A r.2.2.length m, .int .i64 r.1] ∧ M = [Dk p r.2.1, pts b (ringO p f n w), Own 91 8 A r.2.2.length m (recV (isort r.2.2 (r.2.2.length - 1)))]

theorem takeV_good {bs : List UInt8} (h : (takeV bs).2 = 0) : (takeV bs).1.good := by
  unfold takeV at h ⊢
  split at h
  · rename_i h1
    rw [if_pos h1]
    split at h
    · rename_i h2
      rw [if_pos h2]
      split at h
      · rename_i h3
        rw [if_pos h3]
        split at h
        · rename_i h4
          rw [if_pos h4]
          exact h4
        · cases h
      · cases h
    · cases h
  · cases h

theorem cell_rec : cellInfo Tryz.prog 91 = some (8, 56, some #[.int .u64 0, .int .i64 0, .int .i64 0, .int .i64 0, .int .i64 0, .int .u32 0, .int .u32 0, .int .u32 0]) := by kernel_rfl

theorem none8 {L : List As} {H : Hp} (h : Hw.Sep L H) : Hw.Sep (L ++ [Own 91 8 none 0 0 []]) H := by
  have : Hw.Sep (Own 91 8 none 0 0 [] :: L) H := ⟨fun _ => none, H, fun _ _ h => (nomatch h), Hp.le_refl _, fun _ => .inl rfl, Own.none _ _ _, h⟩
  exact Hw.Sep.perm (List.perm_append_comm (l₁ := [_])) this

theorem Scan_loop (b p f n : Nat) (w : Int) (hn : 1 ≤ n) (hfn : f + n ≤ 1048576) (r : Int × D × List R) (hr12 : r.1 = 0 → r.2.2.length ≤ 12) :
    ∀ (t i : Nat) (d : D) (acc : List R) (A : Option Addr) (m : Nat) (H : Hp), i + t = n → Ok d → d.rd + t ≤ 1000000 → acc.length ≤ i → r = scanR f n t i d acc →
      Hw.Sep [Dk p d, pts b (ringO p f n w), Own 91 8 A acc.length m (recV acc)] H →
      W_ring_Ring_Scan.l2 (fun v H' => ∃ M, ScanQ b p f n w r v M ∧ Hw.Sep M H') (t + 1) (some ⟨b, 0, none⟩) A acc.length m (n : Int) (i : Int) H
  | 0, i, d, acc, A, m, H, hi, hok, hrd, hacc, hr, hs => by
    unfold W_ring_Ring_Scan.l2
    refine BIf_dneg (by omega) ?_
    have hr : r = (0, d, acc) := hr
    have h12 := hr12 (by rw [hr])
    rw [hr] at h12
    refine (SortFunc_tr A acc.length m h12 acc rfl).use hs [2] rfl rfl ?_
    rintro _ _ H1 ⟨rfl, rfl⟩ hs
    rw [hr]
    exact ⟨_, ⟨A, m, rfl, rfl⟩, hs.re [1, 2, 0] rfl⟩
  | t + 1, i, d, acc, A, m, H, hi, hok, hrd, hacc, hr, hs => by
    unfold W_ring_Ring_Scan.l2
    refine BIf_dpos (by omega) ?_
    have hj5 : ∀ (H : Hp) (v : Value) (M : List As), readQ p d ((f + i : Nat) : Int) v M → Hw.Sep (M ++ [pts b (ringO p f n w), Own 91 8 A acc.length m (recV acc)]) H →
        DTup v fun l1 => DCons l1 fun v5 l2 => DSl v5 fun A2 n2 m2 => DCons l2 fun v6 l3 => DI .i64 v6 fun x5 => DNil l3 (W_ring_Ring_Scan.j5 (fun v H' => ∃ M, ScanQ b p f n w r v M ∧ Hw.Sep M H') (W_ring_Ring_Scan.l2 (fun v H' => ∃ M, ScanQ b p f n w r v M ∧ Hw.Sep M H') (t + 1)) (some ⟨b, 0, none⟩) A acc.length m (i : Int) A2 n2 m2 x5 (n : Int) (i : Int) H) := by
      rintro H _ _ (⟨hc, rfl, rfl⟩ | ⟨hc, hb, rfl, rfl⟩ | ⟨hc, hb, b2, c, mm, rfl, hcc, rfl⟩) hs
      · simp only [DI_int', DB_bool, DS_string, DP_pointer, DSl_slice, DM_map, DA_agg, DTup_tuple, DCons_cons, DNil_nil, NN_some, BIf_true, BIf_false, BIf_same, List.toList_toArray, Bool.not_true, Bool.not_false]
        unfold W_ring_Ring_Scan.j5
        refine BIf_bnep hc ?_
        unfold scanR at hr
        rw [if_pos hc] at hr
        rw [hr]
        have hs := none8 hs
        exact ⟨_, ⟨none, 0, rfl, rfl⟩, hs.re [0, 1, 3] rfl⟩
      · simp only [DI_int', DB_bool, DS_string, DP_pointer, DSl_slice, DM_map, DA_agg, DTup_tuple, DCons_cons, DNil_nil, NN_some, BIf_true, BIf_false, BIf_same, List.toList_toArray, Bool.not_true, Bool.not_false]
        unfold W_ring_Ring_Scan.j5
        refine BIf_bnep (by decide) ?_
        unfold scanR at hr
        rw [if_neg (by omega), if_pos hb] at hr
        rw [hr]
        have hs := none8 hs
        exact ⟨_, ⟨none, 0, rfl, rfl⟩, hs.re [0, 1, 3] rfl⟩
      · simp only [DI_int', DB_bool, DS_string, DP_pointer, DSl_slice, DM_map, DA_agg, DTup_tuple, DCons_cons, DNil_nil, NN_some, BIf_true, BIf_false, BIf_same, List.toList_toArray, Bool.not_true, Bool.not_false]
        unfold W_ring_Ring_Scan.j5
        refine BIf_bnen rfl ?_
        have hs : Hw.Sep [Dk p (D.red d), pts b2 (.row (byteVals (d.now ((f + i : Nat) : Int))) 5 mm), pts b (ringO p f n w), Own 91 8 A acc.length m (recV acc)] H := hs
        unfold scanR at hr
        rw [if_neg (by omega), if_neg (by simp [hb])] at hr
        have hnow := hok.now ((f + i : Nat) : Int)
        have hsz := hok.size
        generalize d.now ((f + i : Nat) : Int) = bs at *
        have hcell : Cells H (some ⟨b2, 0, none⟩) (byteVals bs) := by
          have := Cells.row (hs.get 1 (b := b2) (o := .row (byteVals bs) 5 mm) rfl) 0 d.size
          rw [List.drop_zero, List.take_of_length_le (by rw [byteVals_length]; omega)] at this
          exact this
        refine HCalls.use (Take_ok (some ⟨b2, 0, none⟩) d.size c bs hnow.symm hcc (by omega) (fun _ => hsz.1) H hcell) ?_
        simp only [DI_int', DB_bool, DS_string, DP_pointer, DSl_slice, DM_map, DA_agg, DTup_tuple, DCons_cons, DNil_nil, NN_some, BIf_true, BIf_false, BIf_same, List.toList_toArray, Bool.not_true, Bool.not_false]
        have hg := takeV_good (bs := bs)
        have hst : stand f n bs i = if (takeV bs).2 = 0 ∧ slotN f n (takeV bs).1.s = f + i then [(takeV bs).1] else [] := rfl
        generalize takeV bs = tv at *
        obtain ⟨q, e⟩ := tv
        simp only at hg hst
        refine hs.nw fun b3 H hs => ?_
        refine hs.stw 4 (y := q.c) rfl rfl rfl (recC_ok q) fun H hs => ?_
        have hs : Hw.Sep [Dk p (D.red d), pts b2 (.row (byteVals bs) 5 mm), pts b (ringO p f n w), Own 91 8 A acc.length m (recV acc), pts b3 (.obj (.cells q.c 91))] H := hs
        have hred : (D.red d).rd = d.rd + 1 := rfl
        have next : ∀ H, stand f n bs i = [] → Hw.Sep [Dk p (D.red d), pts b (ringO p f n w), Own 91 8 A acc.length m (recV acc)] H →
            W_ring_Ring_Scan.l2 (fun v H' => ∃ M, ScanQ b p f n w r v M ∧ Hw.Sep M H') (t + 1) (some ⟨b, 0, none⟩) A acc.length m (n : Int) (IntKind.i64.wrap ((i : Int) + 1)) H := fun H h0 hs => by
          rw [i64w (x := (i : Int) + 1) (by omega) (by omega)]
          rw [h0, List.append_nil] at hr
          exact Scan_loop b p f n w hn hfn r hr12 t (i + 1) (D.red d) acc A m H (by omega) (Ok.red hok) (by rw [hred]; omega) (by omega) hr hs
        by_cases he : e = 0
        · have hgood := hg he
          obtain ⟨s1, s2, _⟩ := hgood
          refine BIf_beqp he ?_
          refine hs.ldf 4 rfl rfl ?_
          simp only [DI_int', DB_bool, DS_string, DP_pointer, DSl_slice, DM_map, DA_agg, DTup_tuple, DCons_cons, DNil_nil, NN_some, BIf_true, BIf_false, BIf_same, List.toList_toArray, Bool.not_true, Bool.not_false]
          refine QCall.use (slot_ok hs 2 rfl (by omega) hn (by omega) q.s s1 (by omega)) ?_
          simp only [DI_int', DB_bool, DS_string, DP_pointer, DSl_slice, DM_map, DA_agg, DTup_tuple, DCons_cons, DNil_nil, NN_some, BIf_true, BIf_false, BIf_same, List.toList_toArray, Bool.not_true, Bool.not_false]
          try simp only [NN_some, Addr.add_lit', Addr.add_zero, Nat.zero_add, Nat.add_zero]
          refine hs.ld 2 rfl rfl ?_
          simp only [DI_int', DB_bool, DS_string, DP_pointer, DSl_slice, DM_map, DA_agg, DTup_tuple, DCons_cons, DNil_nil, NN_some, BIf_true, BIf_false, BIf_same, List.toList_toArray, Bool.not_true, Bool.not_false]
          rw [i64w (x := (f : Int) + (i : Int)) (by omega) (by omega)]
          by_cases hsl : slotN f n q.s = f + i
          · refine BIf_beqp (by omega) ?_
            rw [if_pos ⟨he, hsl⟩] at hst
            refine hs.ldw 4 rfl rfl ?_
            unfold R.c
            simp only [DI_int', DB_bool, DS_string, DP_pointer, DSl_slice, DM_map, DA_agg, DTup_tuple, DCons_cons, DNil_nil, NN_some, BIf_true, BIf_false, BIf_same, List.toList_toArray, Bool.not_true, Bool.not_false]
            refine hs.appS 3 rfl cell_rec rfl (by omega) (by omega) rfl rfl (by omega) (by omega) fun A' m' H hs => ?_
            simp only [DI_int', DB_bool, DS_string, DP_pointer, DSl_slice, DM_map, DA_agg, DTup_tuple, DCons_cons, DNil_nil, NN_some, BIf_true, BIf_false, BIf_same, List.toList_toArray, Bool.not_true, Bool.not_false]
            rw [i64w (x := (i : Int) + 1) (by omega) (by omega)]
            rw [hst] at hr
            have hlen : (acc ++ [q]).length = acc.length + 1 := by simp
            have ih := Scan_loop b p f n w hn hfn r hr12 t (i + 1) (D.red d) (acc ++ [q]) A' m' H (by omega) (Ok.red hok) (by rw [hred]; omega) (by omega) hr
            rw [hlen] at ih
            refine ih ?_
            have e1 : recV (acc ++ [q]) = recV acc ++ q.c.toList := by simp [recV]
            rw [e1]
            exact hs.re [0, 2, 3] rfl
          · refine BIf_beqn (by omega) ?_
            rw [if_neg (fun h => hsl h.2)] at hst
            exact next H hst (hs.re [0, 2, 3] rfl)
        · refine BIf_beqn he ?_
          rw [if_neg (fun h => he h.1)] at hst
          exact next H hst (hs.re [0, 2, 3] rfl)
    try simp only [NN_some, Addr.add_lit', Addr.add_zero, Nat.zero_add, Nat.add_zero]
    have hw : IntKind.i64.wrap ((f : Int) + (i : Int)) = ((f + i : Nat) : Int) := by rw [i64w (by omega) (by omega)]; omega
    have hR := Read_tr (p := p) (d := d) hok (by omega) ((f + i : Nat) : Int)
    refine ⟨?_, ?_⟩
    · refine hs.ld 1 rfl rfl ?_
      simp only [DI_int', DB_bool, DS_string, DP_pointer, DSl_slice, DM_map, DA_agg, DTup_tuple, DCons_cons, DNil_nil, NN_some, BIf_true, BIf_false, BIf_same, List.toList_toArray, Bool.not_true, Bool.not_false]
      try simp only [NN_some, Addr.add_lit', Addr.add_zero, Nat.zero_add, Nat.add_zero]
      refine hs.ld 1 rfl rfl ?_
      simp only [DI_int', DB_bool, DS_string, DP_pointer, DSl_slice, DM_map, DA_agg, DTup_tuple, DCons_cons, DNil_nil, NN_some, BIf_true, BIf_false, BIf_same, List.toList_toArray, Bool.not_true, Bool.not_false]
      rw [hw]
      refine hR.use hs [0] rfl rfl ?_
      intro v M H1 hq hs
      exact hj5 H1 v M hq hs
    · refine hs.ld 1 rfl rfl ?_
      simp only [DI_int', DB_bool, DS_string, DP_pointer, DSl_slice, DM_map, DA_agg, DTup_tuple, DCons_cons, DNil_nil, NN_some, BIf_true, BIf_false, BIf_same, List.toList_toArray, Bool.not_true, Bool.not_false]
      try simp only [NN_some, Addr.add_lit', Addr.add_zero, Nat.zero_add, Nat.add_zero]
      refine hs.ld 1 rfl rfl ?_
      simp only [DI_int', DB_bool, DS_string, DP_pointer, DSl_slice, DM_map, DA_agg, DTup_tuple, DCons_cons, DNil_nil, NN_some, BIf_true, BIf_false, BIf_same, List.toList_toArray, Bool.not_true, Bool.not_false]
      rw [hw]
      refine hR.use hs [0] rfl rfl ?_
      intro v M H1 hq hs
      exact hj5 H1 v M hq hs

end Go.Proofs.YtlgpappgnndgiaaGreatDoor.Rng

end
section
/-! RngC -/
/- ring: Scan and Last: the contracts. -/
set_option maxRecDepth 100000
set_option linter.unusedSimpArgs false
set_option linter.unusedVariables false
set_option linter.unnecessarySimpa false
set_option linter.unusedSectionVars false
namespace Go.Proofs.YtlgpappgnndgiaaGreatDoor.Rng
open Go Go.Hw Go.Proofs.YtlgpappgnndgiaaGreatDoor.W Go.Proofs.YtlgpappgnndgiaaGreatDoor.Rec Go.Proofs.YtlgpappgnndgiaaGreatDoor.Srt Go.Proofs.YtlgpappgnndgiaaGreatDoor.Dsk

theorem stand_len (f n : Nat) (bs : List UInt8) (i : Nat) : (stand f n bs i).length ≤ 1 := by unfold stand; split <;> simp
theorem scanR_len (f n : Nat) : ∀ (k i : Nat) (d : D) (acc : List R), (scanR f n k i d acc).2.2.length ≤ acc.length + k
  | 0, _, _, _ => Nat.le_refl _
  | k + 1, i, d, acc => by
    unfold scanR
    split
    · exact Nat.zero_le _
    · split
      · exact Nat.zero_le _
      · have h1 := scanR_len f n k (i + 1) (D.red d) (acc ++ stand f n (d.now ((f + i : Nat) : Int)) i)
        have h2 := stand_len f n (d.now ((f + i : Nat) : Int)) i
        rw [List.length_append] at h1
        omega
theorem scanR_err (f n : Nat) : ∀ (k i : Nat) (d : D) (acc : List R), (scanR f n k i d acc).1 ≠ 0 → (scanR f n k i d acc).2.2 = []
  | 0, _, _, _, h => absurd rfl h
  | k + 1, i, d, acc, h => by
    unfold scanR at h ⊢
    by_cases h1 : d.chk ((f + i : Nat) : Int) ≠ 0
    · rw [if_pos h1]
    · rw [if_neg h1] at h ⊢
      by_cases h2 : d.burns = true
      · rw [if_pos h2]
      · rw [if_neg h2] at h ⊢
        exact scanR_err f n k (i + 1) _ _ h

/-- A scan of a ring. -/
def scanA (f n : Nat) (d : D) : Int × D × List R := scanR f n n 0 d []

theorem Scan_tr {b p f n : Nat} {w : Int} {d : D} (hn : 1 ≤ n) (hfn : f + n ≤ 1048576) (hok : Ok d) (hrd : d.rd + n ≤ 1000000) (h12 : (scanA f n d).1 = 0 → (scanA f n d).2.2.length ≤ 12) :
    Tr Tryz.prog 25 #[.pointer (some ⟨b, 0, none⟩)] [Dk p d, pts b (ringO p f n w)] (ScanQ b p f n w (scanA f n d)) := fun H hs => by
  apply W_ring_Ring_Scan.ok
  unfold W_ring_Ring_Scan
  try simp only [NN_some, Addr.add_lit', Addr.add_zero, Nat.zero_add, Nat.add_zero]
  refine hs.ld 1 rfl rfl ?_
  simp only [DI_int', DB_bool, DS_string, DP_pointer, DSl_slice, DM_map, DA_agg, DTup_tuple, DCons_cons, DNil_nil, NN_some, BIf_true, BIf_false, BIf_same, List.toList_toArray, Bool.not_true, Bool.not_false]
  exact ⟨n + 1, Scan_loop b p f n w hn hfn _ h12 n 0 d [] none 0 H (by omega) hok hrd (Nat.le_refl _) rfl (none8 hs)⟩

/-- The last one of what stands. -/
def lastR (r : Int × D × List R) : Option R := (isort r.2.2 (r.2.2.length - 1)).getLast?
def LastQ (b p f n : Nat) (w : Int) (r : Int × D × List R) (v : Value) (M : List As) : Prop :=
  v = .tuple #[.agg ((lastR r).getD zeroR).c, .bool (lastR r).isSome, .int .i64 r.1] ∧ M = [Dk p r.2.1, pts b (ringO p f n w)]

theorem Last_tr {b p f n : Nat} {w : Int} {d : D} (hn : 1 ≤ n) (hfn : f + n ≤ 1048576) (hok : Ok d) (hrd : d.rd + n ≤ 1000000) (h12 : (scanA f n d).1 = 0 → (scanA f n d).2.2.length ≤ 12) :
    Tr Tryz.prog 32 #[.pointer (some ⟨b, 0, none⟩)] [Dk p d, pts b (ringO p f n w)] (LastQ b p f n w (scanA f n d)) := fun H hs => by
  apply W_ring_Ring_Last.ok
  unfold W_ring_Ring_Last
  refine hs.nw fun b1 H hs => ?_
  have herr := scanR_err f n n 0 d []
  have hlen := isort_len ((scanA f n d).2.2.length - 1) (scanA f n d).2.2
  refine (Scan_tr (b := b) (p := p) (w := w) hn hfn hok hrd h12).use hs [0, 1] rfl rfl ?_
  rintro _ _ H1 ⟨A, m, rfl, rfl⟩ hs
  change (scanA f n d).1 ≠ 0 → (scanA f n d).2.2 = [] at herr
  unfold LastQ lastR
  generalize scanA f n d = r at *
  obtain ⟨e, d', l⟩ := r
  simp only at hlen herr h12 hs ⊢
  simp only [DI_int', DB_bool, DS_string, DP_pointer, DSl_slice, DM_map, DA_agg, DTup_tuple, DCons_cons, DNil_nil, NN_some, BIf_true, BIf_false, BIf_same, List.toList_toArray, Bool.not_true, Bool.not_false]
  have hs : Hw.Sep [Dk p d', pts b (ringO p f n w), Own 91 8 A l.length m (recV (isort l (l.length - 1))), pts b1 (.obj (.cells #[.int .u64 0, .int .i64 0, .int .i64 0, .int .i64 0, .int .i64 0, .int .u32 0, .int .u32 0, .int .u32 0] 91))] H1 := hs
  have zero : l = [] → ∀ H, Hw.Sep [Dk p d', pts b (ringO p f n w), Own 91 8 A l.length m (recV (isort l (l.length - 1))), pts b1 (.obj (.cells #[.int .u64 0, .int .i64 0, .int .i64 0, .int .i64 0, .int .i64 0, .int .u32 0, .int .u32 0, .int .u32 0] 91))] H →
      StA H ⟨b1, 0, none⟩ #[.int .u64 0, .int .i64 0, .int .i64 0, .int .i64 0, .int .i64 0, .int .u32 0, .int .u32 0, .int .u32 0] 8 fun H3 => LdA H3 ⟨b1, 0, none⟩ 8 fun l5 => ∃ M, ((Value.tuple #[.agg l5.toArray, .bool false, .int .i64 e]) = .tuple #[.agg (((isort l (l.length - 1)).getLast?).getD zeroR).c, .bool ((isort l (l.length - 1)).getLast?).isSome, .int .i64 e] ∧ M = [Dk p d', pts b (ringO p f n w)]) ∧ Hw.Sep M H3 := fun h0 H hs => by
    subst h0
    refine hs.stw 3 rfl rfl rfl rfl fun H hs => hs.ldw 3 rfl rfl ?_
    exact ⟨_, ⟨rfl, rfl⟩, hs.re [0, 1] rfl⟩
  by_cases he : e ≠ 0
  · refine BIf_bnep he ?_
    exact zero (herr he) _ hs
  · have he0 : e = 0 := by omega
    refine BIf_bnen he0 ?_
    by_cases hl : l = []
    · refine BIf_beqp (by rw [hl]; rfl) ?_
      exact zero hl _ hs
    · have hp : 0 < l.length := List.length_pos_iff.2 hl
      refine BIf_beqn (by omega) ?_
      have ei : IntKind.i64.wrap ((l.length : Int) - 1) = ((l.length - 1 : Nat) : Int) := by
        have h12' := h12 he0
        rw [i64w (by omega) (by omega)]; omega
      rw [ei]
      have hlt : l.length - 1 < (isort l (l.length - 1)).length := by omega
      refine (hs.own 2 rfl).rdA rfl (by omega) (recV_get _ (l.length - 1) hlt) ?_
      rw [Array.toArray_toList]
      refine hs.stw 3 rfl rfl rfl (recC_ok _) fun H hs => hs.ldw 3 rfl rfl ?_
      rw [Array.toArray_toList]
      have hgl : (isort l (l.length - 1)).getLast? = some (isort l (l.length - 1))[l.length - 1] := by
        rw [List.getLast?_eq_getElem?, hlen, List.getElem?_eq_getElem hlt]
      rw [hgl, he0]
      exact ⟨_, ⟨rfl, rfl⟩, hs.re [0, 1] rfl⟩

end Go.Proofs.YtlgpappgnndgiaaGreatDoor.Rng

end
section
/-! RecK -/
/- record: Put where it can't. -/
set_option maxRecDepth 100000
set_option linter.unusedSimpArgs false
set_option linter.unusedVariables false
set_option linter.unnecessarySimpa false
set_option linter.unusedSectionVars false
namespace Go.Proofs.YtlgpappgnndgiaaGreatDoor.Rec
open Go Go.Hw Go.Form Go.Crc Go.Proofs.YtlgpappgnndgiaaGreatDoor.W Go.Proofs.YtlgpappgnndgiaaGreatDoor.FormP

theorem Put_no (r : R) (x : Int) (h : ¬ (r.good ∧ secB x = true)) (H : Hp) : HCalls Tryz.prog 77 #[.agg r.c, .int .i64 x] H (RetE (.tuple #[.slice none 0 0, .int .i64 1]) H) := HCalls.ret (by
  apply W_record_Put.ok
  unfold W_record_Put
  refine (Sep.start H).nw fun b1 H1 hs => ?_
  have hs : Sep [own H, pts b1 (recO r)] H1 := hs
  refine hs.ldw 1 rfl rfl ?_
  refine HCalls.use (Good_ok r H1) ?_
  simp only [DI_int', DB_bool, DS_string, DP_pointer, DSl_slice, DM_map, DA_agg, DTup_tuple, DCons_cons, DNil_nil, NN_some, BIf_true, BIf_false, BIf_same, List.toList_toArray, Bool.not_true, Bool.not_false]
  by_cases hg : r.good
  · rw [decide_eq_true hg]
    refine BIf_neg rfl ?_
    refine HCalls.use (sector_ok x H1) ?_
    rw [show secB x = false by simpa using fun g => h ⟨hg, g⟩]
    simp only [DI_int', DB_bool, DS_string, DP_pointer, DSl_slice, DM_map, DA_agg, DTup_tuple, DCons_cons, DNil_nil, NN_some, BIf_true, BIf_false, BIf_same, List.toList_toArray, Bool.not_true, Bool.not_false]
    exact hs.fin 0 rfl _
  · rw [decide_eq_false hg]
    exact BIf_pos rfl (hs.fin 0 rfl _))

/-- What Put's row holds. -/
theorem put_row (r : R) {size : Nat} (h32 : 32 ≤ size) : setAt (zeroRow [Value.int .u8 0] size) 0 (byteVals (Form.form r.w4)) = byteVals (r.form size) := by
  rw [zeroRow_one]
  unfold setAt R.form
  rw [List.take_zero, List.nil_append, Nat.zero_add, byteVals_length, form_w4, List.drop_replicate]
  unfold byteVals
  rw [List.map_append, List.map_replicate]; rfl

end Go.Proofs.YtlgpappgnndgiaaGreatDoor.Rec

end
section
/-! RngD -/
/- ring: Append. -/
set_option maxRecDepth 100000
set_option linter.unusedSimpArgs false
set_option linter.unusedVariables false
set_option linter.unnecessarySimpa false
set_option linter.unusedSectionVars false
namespace Go.Proofs.YtlgpappgnndgiaaGreatDoor.Rng
open Go Go.Hw Go.Proofs.YtlgpappgnndgiaaGreatDoor.W Go.Proofs.YtlgpappgnndgiaaGreatDoor.Rec Go.Proofs.YtlgpappgnndgiaaGreatDoor.Srt Go.Proofs.YtlgpappgnndgiaaGreatDoor.Dsk

theorem scanR_ok (f n : Nat) : ∀ (k i : Nat) (d : D) (acc : List R), Ok d → Ok (scanR f n k i d acc).2.1 ∧ (scanR f n k i d acc).2.1.wr = d.wr ∧ (scanR f n k i d acc).2.1.sy = d.sy ∧ (scanR f n k i d acc).2.1.size = d.size ∧ (scanR f n k i d acc).2.1.sec = d.sec
  | 0, _, d, _, h => ⟨h, rfl, rfl, rfl, rfl⟩
  | k + 1, i, d, acc, h => by
    have hb := burnt_rd d
    unfold scanR
    split
    · exact ⟨h, rfl, rfl, rfl, rfl⟩
    · split
      · exact ⟨h.burnt, hb.2.1, hb.2.2.1, hb.2.2.2.1, hb.2.2.2.2.1⟩
      · obtain ⟨h1, h2, h3, h4, h5⟩ := scanR_ok f n k (i + 1) (D.red d) (acc ++ stand f n (d.now ((f + i : Nat) : Int)) i) (Ok.red h)
        exact ⟨h1, h2.trans hb.2.1, h3.trans hb.2.2.1, h4.trans hb.2.2.2.1, h5.trans hb.2.2.2.2.1⟩

/-- A record is written, and made safe. -/
def putS (f n : Nat) (d : D) (r : R) : Int × D :=
  if d.writeE (slotN f n r.s) d.size ≠ 0 then (d.writeE (slotN f n r.s) d.size, d.writeD (slotN f n r.s) (r.form d.size))
  else ((d.writeD (slotN f n r.s) (r.form d.size)).syncE, (d.writeD (slotN f n r.s) (r.form d.size)).syncD)
/-- May a record stand behind the last one? -/
def mayB (q : Option R) (r : R) : Bool := match q with | some q => decide (after q r) | none => decide (r.s = 1 ∧ r.kd = 1)
def appV (f n : Nat) (d : D) (r : R) : Int × D :=
  if ¬ r.good then (10, d) else if (scanA f n d).1 ≠ 0 then ((scanA f n d).1, (scanA f n d).2.1)
  else if mayB (lastR (scanA f n d)) r = false then (5, (scanA f n d).2.1) else putS f n (scanA f n d).2.1 r

def AppQ (b p f n : Nat) (w : Int) (r : Int × D) (v : Value) (M : List As) : Prop := v = .int .i64 r.1 ∧ M = [Dk p r.2, pts b (ringO p f n w)]

theorem j9_tr {b p f n : Nat} {w : Int} (hn : 1 ≤ n) (hfn : f + n ≤ 1048576) {d : D} (hok : Ok d) (hw : d.wr ≤ 1000000 ∧ d.sy ≤ 1000000) (r : R) (hg : r.good) (b1 b2 mm : Nat) (H : Hp)
    (hs : Hw.Sep [Dk p d, pts b (ringO p f n w), pts b1 (recO r), pts b2 (.row (byteVals (r.form d.size)) 5 mm)] H) :
    W_ring_Ring_Append.j9 (fun v H' => ∃ M, AppQ b p f n w (putS f n d r) v M ∧ Hw.Sep M H') (some ⟨b, 0, none⟩) ⟨b1, 0, none⟩ (some ⟨b2, 0, none⟩) d.size d.size H := by
  unfold W_ring_Ring_Append.j9
  obtain ⟨s1, s2, _⟩ := hg
  have hsz := hok.size
  try simp only [NN_some, Addr.add_lit', Addr.add_zero, Nat.zero_add, Nat.add_zero]
  refine hs.ld 1 rfl rfl ?_
  simp only [DI_int', DB_bool, DS_string, DP_pointer, DSl_slice, DM_map, DA_agg, DTup_tuple, DCons_cons, DNil_nil, NN_some, BIf_true, BIf_false, BIf_same, List.toList_toArray, Bool.not_true, Bool.not_false]
  refine hs.ld 2 rfl rfl ?_
  simp only [DI_int', DB_bool, DS_string, DP_pointer, DSl_slice, DM_map, DA_agg, DTup_tuple, DCons_cons, DNil_nil, NN_some, BIf_true, BIf_false, BIf_same, List.toList_toArray, Bool.not_true, Bool.not_false]
  refine QCall.use (slot_ok hs 1 rfl (by omega) hn (by omega) r.s s1 (by omega)) ?_
  simp only [DI_int', DB_bool, DS_string, DP_pointer, DSl_slice, DM_map, DA_agg, DTup_tuple, DCons_cons, DNil_nil, NN_some, BIf_true, BIf_false, BIf_same, List.toList_toArray, Bool.not_true, Bool.not_false]
  have hl := rform_len r hsz.1
  refine (Write_tr (p := p) (d := d) hok (by omega) (slotN f n r.s : Int) (some ⟨b2, 0, none⟩) d.size d.size (r.form d.size) hl.symm (pts b2 (.row (byteVals (r.form d.size)) 5 mm)) (fun H h => ?_)).use hs [0, 3] rfl rfl ?_
  · have := Cells.row h 0 d.size
    rw [List.drop_zero, List.take_of_length_le (by rw [byteVals_length]; omega)] at this
    exact this
  rintro _ _ H1 ⟨rfl, rfl⟩ hs
  have hs : Hw.Sep [Dk p (d.writeD (slotN f n r.s) (r.form d.size)), pts b2 (.row (byteVals (r.form d.size)) 5 mm), pts b (ringO p f n w), pts b1 (recO r)] H1 := hs
  unfold AppQ putS
  by_cases he : d.writeE (slotN f n r.s) d.size ≠ 0
  · rw [if_pos he]
    simp only [DI_int', DB_bool, DS_string, DP_pointer, DSl_slice, DM_map, DA_agg, DTup_tuple, DCons_cons, DNil_nil, NN_some, BIf_true, BIf_false, BIf_same, List.toList_toArray, Bool.not_true, Bool.not_false]
    refine BIf_bnep he ?_
    exact ⟨_, ⟨by first | trivial | rfl, rfl⟩, hs.re [0, 2] rfl⟩
  · rw [if_neg he]
    simp only [DI_int', DB_bool, DS_string, DP_pointer, DSl_slice, DM_map, DA_agg, DTup_tuple, DCons_cons, DNil_nil, NN_some, BIf_true, BIf_false, BIf_same, List.toList_toArray, Bool.not_true, Bool.not_false]
    refine BIf_bnen (by omega) ?_
    try simp only [NN_some, Addr.add_lit', Addr.add_zero, Nat.zero_add, Nat.add_zero]
    refine hs.ld 2 rfl rfl ?_
    simp only [DI_int', DB_bool, DS_string, DP_pointer, DSl_slice, DM_map, DA_agg, DTup_tuple, DCons_cons, DNil_nil, NN_some, BIf_true, BIf_false, BIf_same, List.toList_toArray, Bool.not_true, Bool.not_false]
    have hsy : (d.writeD (slotN f n r.s) (r.form d.size)).sy = d.sy := by
      have hbr := burnt_rd d
      unfold D.writeD
      split
      · rfl
      · split
        · rfl
        · split
          · exact hbr.2.2.1
          · exact hbr.2.2.1
    refine (Sync_tr (p := p) (d := d.writeD (slotN f n r.s) (r.form d.size)) (Ok.writeD hok _ _) (by rw [hsy]; omega)).use hs [0] rfl rfl ?_
    rintro _ _ H2 ⟨rfl, rfl⟩ hs
    simp only [DI_int', DB_bool, DS_string, DP_pointer, DSl_slice, DM_map, DA_agg, DTup_tuple, DCons_cons, DNil_nil, NN_some, BIf_true, BIf_false, BIf_same, List.toList_toArray, Bool.not_true, Bool.not_false]
    exact ⟨_, ⟨by first | trivial | rfl, rfl⟩, hs.re [0, 2] rfl⟩

end Go.Proofs.YtlgpappgnndgiaaGreatDoor.Rng

end
section
/-! RngE -/
/- ring: Append: the contract. -/
set_option maxRecDepth 100000
set_option linter.unusedSimpArgs false
set_option linter.unusedVariables false
set_option linter.unnecessarySimpa false
set_option linter.unusedSectionVars false
namespace Go.Proofs.YtlgpappgnndgiaaGreatDoor.Rng
open Go Go.Hw Go.Proofs.YtlgpappgnndgiaaGreatDoor.W Go.Proofs.YtlgpappgnndgiaaGreatDoor.Rec Go.Proofs.YtlgpappgnndgiaaGreatDoor.Srt Go.Proofs.YtlgpappgnndgiaaGreatDoor.Dsk

theorem j2_no {K : Value → Hp → Prop} {p4 : Option Addr} {a4 : Addr} {A : Option Addr} {n m : Nat} {x : Int} {H : Hp} (hx : x ≠ 0) (k : K (.int .i64 10) H) : W_ring_Ring_Append.j2 K p4 a4 A n m x H := by
  unfold W_ring_Ring_Append.j2
  exact BIf_bnep hx k

theorem j2_tr {b p f n : Nat} {w : Int} (hn : 1 ≤ n) (hfn : f + n ≤ 1048576) {d : D} (hok : Ok d) (hw : d.wr ≤ 1000000 ∧ d.sy ≤ 1000000) (hrd : d.rd + n ≤ 1000000) (h12 : (scanA f n d).1 = 0 → (scanA f n d).2.2.length ≤ 12) (r : R) (hg : r.good) (b1 b2 mm : Nat) (H : Hp)
    (hs : Hw.Sep [Dk p d, pts b (ringO p f n w), pts b1 (recO r), pts b2 (.row (byteVals (r.form d.size)) 5 mm)] H) :
    W_ring_Ring_Append.j2 (fun v H' => ∃ M, AppQ b p f n w (appV f n d r) v M ∧ Hw.Sep M H') (some ⟨b, 0, none⟩) ⟨b1, 0, none⟩ (some ⟨b2, 0, none⟩) d.size d.size 0 H := by
  unfold W_ring_Ring_Append.j2
  refine BIf_bnen rfl ?_
  refine (Last_tr (b := b) (p := p) (w := w) hn hfn hok hrd h12).use hs [0, 1] rfl rfl ?_
  rintro _ _ H1 ⟨rfl, rfl⟩ hs
  obtain ⟨hok', hwr', hsy', hsz', _⟩ := scanR_ok f n n 0 d [] hok
  have hok' : Ok (scanA f n d).2.1 := hok'
  have hwr' : (scanA f n d).2.1.wr = d.wr := hwr'
  have hsy' : (scanA f n d).2.1.sy = d.sy := hsy'
  have hsz' : (scanA f n d).2.1.size = d.size := hsz'
  have hj9 := fun (b1 b2 mm : Nat) (H : Hp) hs => j9_tr (b := b) (p := p) (w := w) hn hfn hok' (by rw [hwr', hsy']; exact hw) r hg b1 b2 mm H hs
  have hap : appV f n d r = if (scanA f n d).1 ≠ 0 then ((scanA f n d).1, (scanA f n d).2.1) else if mayB (lastR (scanA f n d)) r = false then (5, (scanA f n d).2.1) else putS f n (scanA f n d).2.1 r := by
    unfold appV
    rw [if_neg (fun h => h hg)]
  rw [hap]
  rw [hsz'] at hj9
  generalize lastR (scanA f n d) = lq at *
  generalize scanA f n d = sc at *
  obtain ⟨e, d', l⟩ := sc
  simp only at hj9 hs hok' hwr' hsy' hsz' h12 ⊢
  simp only [DI_int', DB_bool, DS_string, DP_pointer, DSl_slice, DM_map, DA_agg, DTup_tuple, DCons_cons, DNil_nil, NN_some, BIf_true, BIf_false, BIf_same, List.toList_toArray, Bool.not_true, Bool.not_false]
  refine hs.nw fun b3 H hs => ?_
  refine hs.stw 4 (y := (lq.getD zeroR).c) rfl rfl rfl (recC_ok _) fun H hs => ?_
  have hs : Hw.Sep [Dk p d', pts b (ringO p f n w), pts b1 (recO r), pts b2 (.row (byteVals (r.form d.size)) 5 mm), pts b3 (.obj (.cells (lq.getD zeroR).c 91))] H := hs
  by_cases he : e ≠ 0
  · refine BIf_bnep he ?_
    rw [if_pos he]
    exact ⟨_, ⟨rfl, rfl⟩, hs.re [0, 1] rfl⟩
  refine BIf_bnen (by omega) ?_
  rw [if_neg he]
  cases lq with
  | some q =>
    refine BIf_pos rfl ?_
    refine hs.ldw 4 rfl rfl ?_
    refine hs.ldw 2 rfl rfl ?_
    rw [Array.toArray_toList, Array.toArray_toList]
    refine HCalls.use (After_ok q r H) ?_
    simp only [DI_int', DB_bool, DS_string, DP_pointer, DSl_slice, DM_map, DA_agg, DTup_tuple, DCons_cons, DNil_nil, NN_some, BIf_true, BIf_false, BIf_same, List.toList_toArray, Bool.not_true, Bool.not_false]
    by_cases ha : after q r
    · rw [decide_eq_true ha]
      refine BIf_neg rfl (BIf_neg rfl ?_)
      rw [if_neg (show ¬ mayB (some q) r = false by show ¬ (decide (after q r) = false); rw [decide_eq_true ha]; decide)]
      exact hj9 b1 b2 mm H (hs.re [0, 1, 2, 3] rfl)
    · rw [decide_eq_false ha]
      refine BIf_pos rfl ?_
      rw [if_pos (show mayB (some q) r = false from decide_eq_false ha)]
      exact ⟨_, ⟨rfl, rfl⟩, hs.re [0, 1] rfl⟩
  | none =>
    refine BIf_neg rfl (BIf_pos rfl ?_)
    refine hs.ldf 2 rfl rfl ?_
    simp only [DI_int', DB_bool, DS_string, DP_pointer, DSl_slice, DM_map, DA_agg, DTup_tuple, DCons_cons, DNil_nil, NN_some, BIf_true, BIf_false, BIf_same, List.toList_toArray, Bool.not_true, Bool.not_false]
    by_cases h1 : r.s = 1
    · refine BIf_bnen (by omega) ?_
      refine hs.ldf 2 rfl rfl ?_
      simp only [DI_int', DB_bool, DS_string, DP_pointer, DSl_slice, DM_map, DA_agg, DTup_tuple, DCons_cons, DNil_nil, NN_some, BIf_true, BIf_false, BIf_same, List.toList_toArray, Bool.not_true, Bool.not_false]
      by_cases h2 : r.kd = 1
      · refine BIf_bnen h2 ?_
        rw [if_neg (show ¬ mayB none r = false by show ¬ (decide (r.s = 1 ∧ r.kd = 1) = false); rw [decide_eq_true ⟨h1, h2⟩]; decide)]
        exact hj9 b1 b2 mm H (hs.re [0, 1, 2, 3] rfl)
      · refine BIf_bnep h2 ?_
        rw [if_pos (show mayB none r = false from decide_eq_false fun h => h2 h.2)]
        exact ⟨_, ⟨rfl, rfl⟩, hs.re [0, 1] rfl⟩
    · refine BIf_bnep (by omega) ?_
      rw [if_pos (show mayB none r = false from decide_eq_false fun h => h1 h.1)]
      exact ⟨_, ⟨rfl, rfl⟩, hs.re [0, 1] rfl⟩

theorem Append_tr {b p f n : Nat} {w : Int} (hn : 1 ≤ n) (hfn : f + n ≤ 1048576) {d : D} (hok : Ok d) (hw : d.wr ≤ 1000000 ∧ d.sy ≤ 1000000) (hrd : d.rd + n ≤ 1000000) (h12 : (scanA f n d).1 = 0 → (scanA f n d).2.2.length ≤ 12) (hsec : secB (d.size : Int) = true) (r : R) (hu : r.u32) :
    Tr Tryz.prog 28 #[.pointer (some ⟨b, 0, none⟩), .agg r.c] [Dk p d, pts b (ringO p f n w)] (AppQ b p f n w (appV f n d r)) := fun H hs => by
  apply W_ring_Ring_Append.ok
  unfold W_ring_Ring_Append
  have hsz := hok.size
  refine hs.nw fun b1 H hs => ?_
  have hs : Hw.Sep [Dk p d, pts b (ringO p f n w), pts b1 (recO r)] H := hs
  have put : HCalls Tryz.prog 77 #[.agg r.c, .int .i64 (d.size : Int)] H fun v3 H3 => DTup v3 fun l2 => DCons l2 fun v4 l3 => DSl v4 fun A1 n1 m1 => DCons l3 fun v5 l4 => DI .i64 v5 fun x2 => DNil l4 (W_ring_Ring_Append.j2 (fun v H' => ∃ M, AppQ b p f n w (appV f n d r) v M ∧ Hw.Sep M H') (some ⟨b, 0, none⟩) ⟨b1, 0, none⟩ A1 n1 m1 x2 H3) := by
    by_cases hg : r.good
    · have hneed : (Lay.NeedV 0 (d.size : Int)).2 = 0 := of_decide_eq_true hsec
      refine (Put_tr r hg hu d.size hsz.1 hsz.2 hneed).use hs [] rfl rfl ?_
      rintro _ _ H1 ⟨b2, rfl, rfl⟩ hs
      rw [put_row r hsz.1] at hs
      simp only [DI_int', DB_bool, DS_string, DP_pointer, DSl_slice, DM_map, DA_agg, DTup_tuple, DCons_cons, DNil_nil, NN_some, BIf_true, BIf_false, BIf_same, List.toList_toArray, Bool.not_true, Bool.not_false]
      have hs : Hw.Sep [pts b2 (.row (byteVals (r.form d.size)) 5 (d.size * 1)), Dk p d, pts b (ringO p f n w), pts b1 (recO r)] H1 := hs
      exact j2_tr hn hfn hok hw hrd h12 r hg b1 b2 _ H1 (hs.re [1, 2, 3, 0] rfl)
    · refine HCalls.use (Put_no r (d.size : Int) (fun h => hg h.1) H) ?_
      simp only [DI_int', DB_bool, DS_string, DP_pointer, DSl_slice, DM_map, DA_agg, DTup_tuple, DCons_cons, DNil_nil, NN_some, BIf_true, BIf_false, BIf_same, List.toList_toArray, Bool.not_true, Bool.not_false]
      refine j2_no (by decide) ?_
      have : appV f n d r = (10, d) := by unfold appV; rw [if_pos hg]
      rw [this]
      exact ⟨_, ⟨rfl, rfl⟩, hs.re [0, 1] rfl⟩
  have lda : ∀ {K : List Value → Prop}, K r.c.toList → LdA H (⟨b1, 0, none⟩ : Addr) 8 K := fun k => hs.ldw 2 rfl rfl k
  have ldd : ∀ {K : Value → Prop}, K (.pointer (some ⟨p, 0, none⟩)) → Ld H ((⟨b, 0, none⟩ : Addr).add 3) K := fun k => hs.ldf 1 rfl rfl k
  have hS := Size_s hs 0 rfl
  rw [NN_some]
  refine ⟨lda (ldd ?_), ldd ?_⟩
  · simp only [DI_int', DB_bool, DS_string, DP_pointer, DSl_slice, DM_map, DA_agg, DTup_tuple, DCons_cons, DNil_nil, NN_some, BIf_true, BIf_false, BIf_same, List.toList_toArray, Bool.not_true, Bool.not_false]
    refine HCalls.use hS ?_
    simp only [DI_int', DB_bool, DS_string, DP_pointer, DSl_slice, DM_map, DA_agg, DTup_tuple, DCons_cons, DNil_nil, NN_some, BIf_true, BIf_false, BIf_same, List.toList_toArray, Bool.not_true, Bool.not_false]
    exact put
  · simp only [DI_int', DB_bool, DS_string, DP_pointer, DSl_slice, DM_map, DA_agg, DTup_tuple, DCons_cons, DNil_nil, NN_some, BIf_true, BIf_false, BIf_same, List.toList_toArray, Bool.not_true, Bool.not_false]
    refine ⟨lda ?_, ?_⟩
    · refine HCalls.use hS ?_
      simp only [DI_int', DB_bool, DS_string, DP_pointer, DSl_slice, DM_map, DA_agg, DTup_tuple, DCons_cons, DNil_nil, NN_some, BIf_true, BIf_false, BIf_same, List.toList_toArray, Bool.not_true, Bool.not_false]
      exact put
    · refine HCalls.use hS ?_
      simp only [DI_int', DB_bool, DS_string, DP_pointer, DSl_slice, DM_map, DA_agg, DTup_tuple, DCons_cons, DNil_nil, NN_some, BIf_true, BIf_false, BIf_same, List.toList_toArray, Bool.not_true, Bool.not_false]
      refine lda ?_
      rw [Array.toArray_toList]
      exact put

end Go.Proofs.YtlgpappgnndgiaaGreatDoor.Rng

end
section
/-! Wabacistlaw21 -/
/- Formulas of functions, printed by wip/tools/hwp.py. -/
set_option maxRecDepth 100000
set_option linter.unusedVariables false
namespace Go.Proofs.YtlgpappgnndgiaaGreatDoor.W
open Go Go.Hw

theorem mixWabacistlaw21 : Tryz.prog.follows .mixedOrders = true := by kernel_rfl
-- abacistlaw21.RingMakes
def W_abacistlaw21_RingMakes.j9 (K : Value → Hp → Prop) (a1 : Addr) (p4 : Option Addr) (p5 : Option Addr) (x11 : Int) (x12 : Int) (c2 : Bool) (H : Hp) : Prop :=
  BIf (!c2) (BIf p5.isNone (BIf (x11 == (2 : Int)) (K (.bool (x12 == (1 : Int))) H) (K (.bool false) H)) (K (.bool false) H)) (BIf p5.isNone (K (.bool false) H) (BIf (x11 != (0 : Int)) (K (.bool false) H) (BIf (x12 != (1 : Int)) (K (.bool false) H) (HCalls Tryz.prog 25 #[.pointer p5] H fun v14 H6 => DTup v14 fun l9 => DCons l9 fun v15 l10 => DSl v15 fun A1 n1 m1 => DCons l10 fun v16 l11 => DI .i64 v16 fun x13 => DNil l11 (BIf (x13 == (0 : Int)) (BIf (((n1 : Nat) : Int) == (0 : Int)) (NN p4 fun a2 => (HCalls Tryz.prog 14 #[.pointer (some (a2.add 3))] H6 fun v17 H7 => DA v17 fun y1 => Ld H7 (a1.add 1) fun v18 => DI .i64 v18 fun x14 => EqV Tryz.prog .eql 43 (.agg y1) (.agg #[.int .i64 x14, .int .i64 (0 : Int), .int .i64 (0 : Int)]) fun c3 => K (.bool c3) H7) ∧ (Ld H6 (a1.add 1) fun v19 => DI .i64 v19 fun x15 => HCalls Tryz.prog 14 #[.pointer (some (a2.add 3))] H6 fun v20 H8 => DA v20 fun y2 => EqV Tryz.prog .eql 43 (.agg y2) (.agg #[.int .i64 x15, .int .i64 (0 : Int), .int .i64 (0 : Int)]) fun c4 => K (.bool c4) H8)) ((K (.bool false) H6) ∧ (K (.bool false) H6))) ((K (.bool false) H6) ∧ (K (.bool false) H6)))))))
def W_abacistlaw21_RingMakes (x1 : Int) (x2 : Int) (x3 : Int) (H : Hp) (K : Value → Hp → Prop) : Prop :=
  Nw H (.obj (.cells #[.int .i64 x1, .int .i64 x2, .int .i64 x3] 30)) fun b1 H1 => HCalls Tryz.prog 22 #[] H1 fun v1 H2 => DB v1 fun c1 => BIf (!c1) (K (.bool false) H2) (HCalls Tryz.prog 23 #[.int .i64 (40 : Int), .int .i64 (32 : Int)] H2 fun v2 H3 => DP v2 fun p1 => BIf p1.isNone (K (.bool false) H3) (LdA H3 (⟨b1, 0, none⟩ : Addr) 3 fun l1 => HCalls Tryz.prog 24 #[.pointer p1, .agg l1.toArray] H3 fun v3 H4 => DTup v3 fun l2 => DCons l2 fun v4 l3 => DP v4 fun p2 => DCons l3 fun v5 l4 => DI .i64 v5 fun x4 => DNil l4 (LdA H4 (⟨b1, 0, none⟩ : Addr) 3 fun l5 => HCalls Tryz.prog 24 #[.pointer none, .agg l5.toArray] H4 fun v6 H5 => DTup v6 fun l6 => DCons l6 fun v7 l7 => DP v7 fun p3 => DCons l7 fun v8 l8 => DI .i64 v8 fun x5 => DNil l8 (Ld H5 ((⟨b1, 0, none⟩ : Addr).add 1) fun v9 => DI .i64 v9 fun x6 => BIf (decide (x6 ≥ (2 : Int))) (Ld H5 ((⟨b1, 0, none⟩ : Addr).add 0) fun v10 => DI .i64 v10 fun x7 => BIf (decide (x7 ≥ (0 : Int))) (Ld H5 ((⟨b1, 0, none⟩ : Addr).add 0) fun v11 => DI .i64 v11 fun x8 => BIf (decide (x8 < (40 : Int))) (Ld H5 ((⟨b1, 0, none⟩ : Addr).add 1) fun v12 => DI .i64 v12 fun x9 => Ld H5 ((⟨b1, 0, none⟩ : Addr).add 0) fun v13 => DI .i64 v13 fun x10 => W_abacistlaw21_RingMakes.j9 K (⟨b1, 0, none⟩ : Addr) p1 p2 x4 x5 (decide (x9 ≤ (IntKind.i64.wrap ((40 : Int) - x10)))) H5) (W_abacistlaw21_RingMakes.j9 K (⟨b1, 0, none⟩ : Addr) p1 p2 x4 x5 false H5)) (W_abacistlaw21_RingMakes.j9 K (⟨b1, 0, none⟩ : Addr) p1 p2 x4 x5 false H5)) (W_abacistlaw21_RingMakes.j9 K (⟨b1, 0, none⟩ : Addr) p1 p2 x4 x5 false H5)))))
def W_abacistlaw21_RingMakes.Λ (K : Value → Hp → Prop) : Cuts := ⟨fun i => match Nat.beq i 9 with | true => some (fun E D H => DG (E.get? 1) fun w1 => DP w1 fun pw1 => NN pw1 fun a1 => DG (E.get? 3) fun w3 => DP w3 fun p4 => DG (E.get? 4) fun w4 => DP w4 fun p5 => DG (E.get? 5) fun w5 => DI .i64 w5 fun x11 => DG (E.get? 7) fun w7 => DI .i64 w7 fun x12 => DG (E.get? 8) fun w8 => DB w8 fun c2 => DNilD D (W_abacistlaw21_RingMakes.j9 K a1 p4 p5 x11 x12 c2 H)) | false => none, fun i => none, (fun i => match Nat.beq i 14 with | true => some ([], [0, 1, 3, 7, 15, 31, 63, 127, 255, 511, 1023, 2047, 255, 4351, 12543, 32767, 65535, 131071], 0) | false => none)⟩
theorem W_abacistlaw21_RingMakes.ok (x1 : Int) (x2 : Int) (x3 : Int) (H : Hp) (K : Value → Hp → Prop) (h : W_abacistlaw21_RingMakes x1 x2 x3 H K) : HCalls Tryz.prog 4 #[.agg #[.int .i64 x1, .int .i64 x2, .int .i64 x3]] H K :=
  hcalls Tryz.func4 rfl (Nat.le_of_ble_eq_true rfl) (hw_safe (Λ := (W_abacistlaw21_RingMakes.Λ K)) mixWabacistlaw21 _ _ _ _ _ (Eq.mp (by kernel_rfl) h) (obs_seq obs_region rfl (obs_seq (obs_seq obs_region rfl (obs_cond (obs_seq obs_region rfl obs_ret) obs_skip)) rfl (obs_seq obs_region rfl (obs_seq (obs_seq obs_region rfl (obs_cond (obs_seq obs_region rfl obs_ret) obs_skip)) rfl (obs_seq obs_region rfl (obs_seq obs_region rfl (obs_seqc obs_region rfl (fun E D H h => by
      obtain ⟨w1, e1, g1⟩ := DG.out h
      obtain ⟨pw1, rfl, g2⟩ := DP.out g1
      obtain ⟨a1, rfl, g3⟩ := NN.out g2
      obtain ⟨w3, e3, g4⟩ := DG.out g3
      obtain ⟨p4, rfl, g5⟩ := DP.out g4
      obtain ⟨w4, e4, g6⟩ := DG.out g5
      obtain ⟨p5, rfl, g7⟩ := DP.out g6
      obtain ⟨w5, e5, g8⟩ := DG.out g7
      obtain ⟨x11, rfl, g9⟩ := DI.out g8
      obtain ⟨w7, e7, g10⟩ := DG.out g9
      obtain ⟨x12, rfl, g11⟩ := DI.out g10
      obtain ⟨w8, e8, g12⟩ := DG.out g11
      obtain ⟨c2, rfl, g13⟩ := DB.out g12
      obtain ⟨rfl, h'⟩ := DNilD.out g13
      exact (hw_safe (Λ := (W_abacistlaw21_RingMakes.Λ K)) mixWabacistlaw21 _ _ [(1, .pointer (some a1)), (3, .pointer p4), (4, .pointer p5), (5, .int .i64 x11), (7, .int .i64 x12), (8, .bool c2)] [] H (Eq.mp (by kernel_rfl) h') (obs_seq (obs_seq obs_region rfl (obs_cond (obs_seq obs_region rfl obs_ret) obs_skip)) rfl (obs_seq (obs_seq obs_region rfl (obs_cond (obs_seq obs_region rfl obs_ret) obs_skip)) rfl (obs_seq obs_region rfl (obs_seq obs_region rfl obs_ret))))).weaken (EnvLe.cons e1 (EnvLe.cons e3 (EnvLe.cons e4 (EnvLe.cons e5 (EnvLe.cons e7 (EnvLe.cons e8 (EnvLe.nil _))))))) (Hp.le_refl _))))))))))

-- abacistlaw21.RingSafe
def W_abacistlaw21_RingSafe.j28 (K : Value → Hp → Prop) (R14 : Option Addr → Nat → Nat → Option Addr → Nat → Nat → Option Addr → Option Addr → Addr → Int → Hp → Prop) (A11 : Option Addr) (n11 : Nat) (m11 : Nat) (A12 : Option Addr) (n12 : Nat) (m12 : Nat) (p11 : Option Addr) (p12 : Option Addr) (a11 : Addr) (x18 : Int) (a12 : Addr) (x19 : Int) (H : Hp) : Prop :=
  NN p11 fun a13 => HCalls Tryz.prog 30 #[.pointer (some (a13.add 7))] H fun v18 H16 => Ld H16 (a12.add 10) fun v19 => DSl v19 fun A13 n13 m13 => HCalls Tryz.prog 31 #[.pointer p11, .slice A13 n13 m13] H16 fun v20 H17 => DI .i64 v20 fun x20 => BIf (x20 != (0 : Int)) (K (.bool false) H17) (HCalls Tryz.prog 32 #[.pointer p12] H17 fun v21 H18 => DTup v21 fun l8 => DCons l8 fun v22 l9 => DA v22 fun y1 => DCons l9 fun v23 l10 => DB v23 fun c4 => DCons l10 fun v24 l11 => DI .i64 v24 fun x21 => DNil l11 (Nw H18 (.obj (.cells #[.int .u64 (0 : Int), .int .i64 (0 : Int), .int .i64 (0 : Int), .int .i64 (0 : Int), .int .i64 (0 : Int), .int .u32 (0 : Int), .int .u32 (0 : Int), .int .u32 (0 : Int)] 91)) fun b4 H19 => StA H19 (⟨b4, 0, none⟩ : Addr) y1 8 fun H20 => BIf (x21 != (0 : Int)) (K (.bool false) H20) (Ld H20 ((⟨b4, 0, none⟩ : Addr).add 0) fun v25 => DI .u64 v25 fun x22 => BIf (!(c4 == (decide (x22 > (0 : Int))))) (K (.bool false) H20) (LdA H20 (⟨b4, 0, none⟩ : Addr) 8 fun l12 => LdA H20 a11 8 fun l13 => EqV Tryz.prog .neq 91 (.agg l12.toArray) (.agg l13.toArray) fun c5 => BIf c5 (BIf (x19 != (8 : Int)) (K (.bool false) H20) (LdA H20 (⟨b4, 0, none⟩ : Addr) 8 fun l14 => LdA H20 (a12.add 2) 8 fun l15 => EqV Tryz.prog .neq 91 (.agg l14.toArray) (.agg l15.toArray) fun c6 => BIf c6 (K (.bool false) H20) (LdA H20 a11 8 fun l16 => LdA H20 (⟨b4, 0, none⟩ : Addr) 8 fun l17 => HCalls Tryz.prog 33 #[.agg l16.toArray, .agg l17.toArray] H20 fun v26 H21 => DB v26 fun c7 => BIf (!c7) (Ld H21 (a11.add 0) fun v27 => DI .u64 v27 fun x23 => BIf (decide (x23 > (0 : Int))) (K (.bool false) H21) (LdA H21 (⟨b4, 0, none⟩ : Addr) 8 fun l18 => StA H21 a11 l18.toArray 8 fun H22 => R14 A11 n11 m11 A12 n12 m12 p11 p12 a11 (IntKind.i64.wrap (x18 + (1 : Int))) H22)) (LdA H21 (⟨b4, 0, none⟩ : Addr) 8 fun l19 => StA H21 a11 l19.toArray 8 fun H23 => R14 A11 n11 m11 A12 n12 m12 p11 p12 a11 (IntKind.i64.wrap (x18 + (1 : Int))) H23)))) (LdA H20 (⟨b4, 0, none⟩ : Addr) 8 fun l20 => StA H20 a11 l20.toArray 8 fun H24 => R14 A11 n11 m11 A12 n12 m12 p11 p12 a11 (IntKind.i64.wrap (x18 + (1 : Int))) H24)))))
def W_abacistlaw21_RingSafe.j27 (K : Value → Hp → Prop) (R14 : Option Addr → Nat → Nat → Option Addr → Nat → Nat → Option Addr → Option Addr → Addr → Int → Hp → Prop) (A9 : Option Addr) (n9 : Nat) (m9 : Nat) (A10 : Option Addr) (n10 : Nat) (m10 : Nat) (p9 : Option Addr) (p10 : Option Addr) (a8 : Addr) (x15 : Int) (a9 : Addr) (x16 : Int) (H : Hp) : Prop :=
  NN p9 fun a10 => HCalls Tryz.prog 29 #[.pointer (some (a10.add 7))] H fun v16 H15 => DB v16 fun c3 => BIf (!c3) (Ld H15 (a9.add 0) fun v17 => DI .i64 v17 fun x17 => BIf (x17 != (4 : Int)) (R14 A9 n9 m9 A10 n10 m10 p9 p10 a8 (IntKind.i64.wrap (x15 + (1 : Int))) H15) (W_abacistlaw21_RingSafe.j28 K R14 A9 n9 m9 A10 n10 m10 p9 p10 a8 x15 a9 x16 H15)) (W_abacistlaw21_RingSafe.j28 K R14 A9 n9 m9 A10 n10 m10 p9 p10 a8 x15 a9 x16 H15)
def W_abacistlaw21_RingSafe.j25 (K : Value → Hp → Prop) (R14 : Option Addr → Nat → Nat → Option Addr → Nat → Nat → Option Addr → Option Addr → Addr → Int → Hp → Prop) (A7 : Option Addr) (n7 : Nat) (m7 : Nat) (A8 : Option Addr) (n8 : Nat) (m8 : Nat) (p7 : Option Addr) (p8 : Option Addr) (a6 : Addr) (x13 : Int) (a7 : Addr) (x14 : Int) (H : Hp) : Prop :=
  BIf (x14 == (0 : Int)) (LdA H (a7.add 2) 8 fun l7 => StA H a6 l7.toArray 8 fun H14 => W_abacistlaw21_RingSafe.j27 K R14 A7 n7 m7 A8 n8 m8 p7 p8 a6 x13 a7 x14 H14) (W_abacistlaw21_RingSafe.j27 K R14 A7 n7 m7 A8 n8 m8 p7 p8 a6 x13 a7 x14 H)
def W_abacistlaw21_RingSafe.j22 (K : Value → Hp → Prop) (R14 : Option Addr → Nat → Nat → Option Addr → Nat → Nat → Option Addr → Option Addr → Addr → Int → Hp → Prop) (A5 : Option Addr) (n5 : Nat) (m5 : Nat) (A6 : Option Addr) (n6 : Nat) (m6 : Nat) (p5 : Option Addr) (p6 : Option Addr) (a4 : Addr) (x10 : Int) (a5 : Addr) (H : Hp) : Prop :=
  Ld H (a5.add 0) fun v14 => DI .i64 v14 fun x11 => BIf (decide (x11 ≤ (3 : Int))) (LdA H (a5.add 2) 8 fun l6 => HCalls Tryz.prog 28 #[.pointer p6, .agg l6.toArray] H fun v15 H13 => DI .i64 v15 fun x12 => W_abacistlaw21_RingSafe.j25 K R14 A5 n5 m5 A6 n6 m6 p5 p6 a4 x10 a5 x12 H13) (W_abacistlaw21_RingSafe.j25 K R14 A5 n5 m5 A6 n6 m6 p5 p6 a4 x10 a5 (11 : Int) H)
def W_abacistlaw21_RingSafe.l14 (K : Value → Hp → Prop) : Nat → Option Addr → Nat → Nat → Option Addr → Nat → Nat → Option Addr → Option Addr → Addr → Int → Hp → Prop
  | 0, _, _, _, _, _, _, _, _, _, _, _ => False
  | k + 1, A3, n3, m3, A4, n4, m4, p3, p4, a1, x3, H =>
    let R14 := W_abacistlaw21_RingSafe.l14 K k
    BIf (decide (x3 < ((n3 : Nat) : Int))) (ixI x3 n3 (NN A3 fun a2 => LdA H (a2.add (x3.toNat * 12)) 12 fun l5 => Nw H (.obj (.cells #[.int .i64 (0 : Int), .int .i64 (0 : Int), .int .u64 (0 : Int), .int .i64 (0 : Int), .int .i64 (0 : Int), .int .i64 (0 : Int), .int .i64 (0 : Int), .int .u32 (0 : Int), .int .u32 (0 : Int), .int .u32 (0 : Int), .slice none 0 0, .slice none 0 0] 94)) fun b3 H9 => StA H9 (⟨b3, 0, none⟩ : Addr) l5.toArray 12 fun H10 => Ld H10 ((⟨b3, 0, none⟩ : Addr).add 0) fun v7 => DI .i64 v7 fun x4 => BIf (x4 == (5 : Int)) (NN p3 fun a3 => Ld H10 ((⟨b3, 0, none⟩ : Addr).add 1) fun v8 => DI .i64 v8 fun x5 => HCalls Tryz.prog 27 #[.pointer (some (a3.add 7)), .int .i64 x5] H10 fun v9 H11 => R14 A3 n3 m3 A4 n4 m4 p3 p4 a1 (IntKind.i64.wrap (x3 + (1 : Int))) H11) (Ld H10 ((⟨b3, 0, none⟩ : Addr).add 0) fun v10 => DI .i64 v10 fun x6 => BIf (decide (x6 > (4 : Int))) (R14 A3 n3 m3 A4 n4 m4 p3 p4 a1 (IntKind.i64.wrap (x3 + (1 : Int))) H10) (Ld H10 ((⟨b3, 0, none⟩ : Addr).add 0) fun v11 => DI .i64 v11 fun x7 => BIf (decide (x7 < (0 : Int))) (R14 A3 n3 m3 A4 n4 m4 p3 p4 a1 (IntKind.i64.wrap (x3 + (1 : Int))) H10) (Ld H10 ((⟨b3, 0, none⟩ : Addr).add 0) fun v12 => DI .i64 v12 fun x8 => BIf (x8 == (3 : Int)) (Ld H10 (a1.add 0) fun v13 => DI .u64 v13 fun x9 => St H10 ((((⟨b3, 0, none⟩ : Addr).add 2).add 0).add 0) (.int .u64 (IntKind.u64.wrap (x9 + (1 : Int)))) fun H12 => W_abacistlaw21_RingSafe.j22 K R14 A3 n3 m3 A4 n4 m4 p3 p4 a1 x3 (⟨b3, 0, none⟩ : Addr) H12) (W_abacistlaw21_RingSafe.j22 K R14 A3 n3 m3 A4 n4 m4 p3 p4 a1 x3 (⟨b3, 0, none⟩ : Addr) H10)))))) (NN p3 fun a14 => HCalls Tryz.prog 27 #[.pointer (some (a14.add 7)), .int .i64 (0 : Int)] H fun v28 H25 => NN p3 fun a15 => HCalls Tryz.prog 30 #[.pointer (some (a15.add 7))] H25 fun v29 H26 => HCalls Tryz.prog 31 #[.pointer p3, .slice A4 n4 m4] H26 fun v30 H27 => DI .i64 v30 fun x24 => BIf (x24 != (0 : Int)) (K (.bool false) H27) (HCalls Tryz.prog 32 #[.pointer p4] H27 fun v31 H28 => DTup v31 fun l21 => DCons l21 fun v32 l22 => DA v32 fun y2 => DCons l22 fun v33 l23 => DB v33 fun c8 => DCons l23 fun v34 l24 => DI .i64 v34 fun x25 => DNil l24 (Nw H28 (.obj (.cells #[.int .u64 (0 : Int), .int .i64 (0 : Int), .int .i64 (0 : Int), .int .i64 (0 : Int), .int .i64 (0 : Int), .int .u32 (0 : Int), .int .u32 (0 : Int), .int .u32 (0 : Int)] 91)) fun b5 H29 => StA H29 (⟨b5, 0, none⟩ : Addr) y2 8 fun H30 => BIf (x25 == (0 : Int)) (LdA H30 (⟨b5, 0, none⟩ : Addr) 8 fun l25 => LdA H30 a1 8 fun l26 => EqV Tryz.prog .eql 91 (.agg l25.toArray) (.agg l26.toArray) fun c9 => K (.bool c9) H30) (K (.bool false) H30))))
def W_abacistlaw21_RingSafe (x1 : Int) (A1 : Option Addr) (n1 : Nat) (m1 : Nat) (A2 : Option Addr) (n2 : Nat) (m2 : Nat) (H : Hp) (K : Value → Hp → Prop) : Prop :=
  HCalls Tryz.prog 22 #[] H fun v1 H1 => DB v1 fun c1 => BIf (!c1) (K (.bool false) H1) (HCalls Tryz.prog 26 #[.slice A1 n1 m1] H1 fun v2 H2 => DB v2 fun c2 => BIf (!c2) (K (.bool true) H2) (BIf (decide (((n2 : Nat) : Int) > (20 : Int))) (K (.bool true) H2) (HCalls Tryz.prog 23 #[.int .i64 (10 : Int), .int .i64 (32 : Int)] H2 fun v3 H3 => DP v3 fun p1 => ((5 : Int) ≠ 0 ∧ IntKind.i64 = IntKind.i64 ∧ Nw H3 (.obj (.cells #[.int .i64 (0 : Int), .int .i64 (0 : Int), .int .i64 (0 : Int)] 30)) fun b1 H4 => StA H4 (⟨b1, 0, none⟩ : Addr) #[.int .i64 (1 : Int), .int .i64 (IntKind.i64.wrap ((2 : Int) + (Int.tmod (IntKind.i64.wrap x1) (5 : Int)))), .int .i64 (0 : Int)] 3 fun H5 => BIf p1.isNone (K (.bool false) H5) (LdA H5 (⟨b1, 0, none⟩ : Addr) 3 fun l1 => HCalls Tryz.prog 24 #[.pointer p1, .agg l1.toArray] H5 fun v4 H6 => DTup v4 fun l2 => DCons l2 fun v5 l3 => DP v5 fun p2 => DCons l3 fun v6 l4 => DI .i64 v6 fun x2 => DNil l4 (BIf p2.isNone (K (.bool false) H6) (BIf (x2 != (0 : Int)) (K (.bool false) H6) (Nw H6 (.obj (.cells #[.int .u64 (0 : Int), .int .i64 (0 : Int), .int .i64 (0 : Int), .int .i64 (0 : Int), .int .i64 (0 : Int), .int .u32 (0 : Int), .int .u32 (0 : Int), .int .u32 (0 : Int)] 91)) fun b2 H7 => StA H7 (⟨b2, 0, none⟩ : Addr) #[.int .u64 (0 : Int), .int .i64 (0 : Int), .int .i64 (0 : Int), .int .i64 (0 : Int), .int .i64 (0 : Int), .int .u32 (0 : Int), .int .u32 (0 : Int), .int .u32 (0 : Int)] 8 fun H8 => (∃ k, W_abacistlaw21_RingSafe.l14 K k A1 n1 m1 A2 n2 m2 p1 p2 (⟨b2, 0, none⟩ : Addr) (0 : Int) H8)))))))))
def W_abacistlaw21_RingSafe.l14.L (K : Value → Hp → Prop) (k : Nat) : Mid := fun E D H =>
  DG (E.get? 1) fun w1 => DSl w1 fun A3 n3 m3 => DG (E.get? 2) fun w2 => DSl w2 fun A4 n4 m4 => DG (E.get? 7) fun w7 => DP w7 fun p3 => DG (E.get? 9) fun w9 => DP w9 fun p4 => DG (E.get? 11) fun w11 => DP w11 fun pw11 => NN pw11 fun a1 => DG (E.get? 12) fun w12 => DI .i64 w12 fun x3 => DNilD D (W_abacistlaw21_RingSafe.l14 K k A3 n3 m3 A4 n4 m4 p3 p4 a1 x3 H)
def W_abacistlaw21_RingSafe.Λ14 (K : Value → Hp → Prop) (R14 : Option Addr → Nat → Nat → Option Addr → Nat → Nat → Option Addr → Option Addr → Addr → Int → Hp → Prop) : Cuts := ⟨fun i => match Nat.beq i 28 with | true => some (fun E D H => DG (E.get? 1) fun w1 => DSl w1 fun A11 n11 m11 => DG (E.get? 2) fun w2 => DSl w2 fun A12 n12 m12 => DG (E.get? 7) fun w7 => DP w7 fun p11 => DG (E.get? 9) fun w9 => DP w9 fun p12 => DG (E.get? 11) fun w11 => DP w11 fun pw11 => NN pw11 fun a11 => DG (E.get? 12) fun w12 => DI .i64 w12 fun x18 => DG (E.get? 13) fun w13 => DP w13 fun pw13 => NN pw13 fun a12 => DG (E.get? 14) fun w14 => DI .i64 w14 fun x19 => DNilD D (W_abacistlaw21_RingSafe.j28 K R14 A11 n11 m11 A12 n12 m12 p11 p12 a11 x18 a12 x19 H)) | false => match Nat.beq i 27 with | true => some (fun E D H => DG (E.get? 1) fun w1 => DSl w1 fun A9 n9 m9 => DG (E.get? 2) fun w2 => DSl w2 fun A10 n10 m10 => DG (E.get? 7) fun w7 => DP w7 fun p9 => DG (E.get? 9) fun w9 => DP w9 fun p10 => DG (E.get? 11) fun w11 => DP w11 fun pw11 => NN pw11 fun a8 => DG (E.get? 12) fun w12 => DI .i64 w12 fun x15 => DG (E.get? 13) fun w13 => DP w13 fun pw13 => NN pw13 fun a9 => DG (E.get? 14) fun w14 => DI .i64 w14 fun x16 => DNilD D (W_abacistlaw21_RingSafe.j27 K R14 A9 n9 m9 A10 n10 m10 p9 p10 a8 x15 a9 x16 H)) | false => match Nat.beq i 25 with | true => some (fun E D H => DG (E.get? 1) fun w1 => DSl w1 fun A7 n7 m7 => DG (E.get? 2) fun w2 => DSl w2 fun A8 n8 m8 => DG (E.get? 7) fun w7 => DP w7 fun p7 => DG (E.get? 9) fun w9 => DP w9 fun p8 => DG (E.get? 11) fun w11 => DP w11 fun pw11 => NN pw11 fun a6 => DG (E.get? 12) fun w12 => DI .i64 w12 fun x13 => DG (E.get? 13) fun w13 => DP w13 fun pw13 => NN pw13 fun a7 => DG (E.get? 14) fun w14 => DI .i64 w14 fun x14 => DNilD D (W_abacistlaw21_RingSafe.j25 K R14 A7 n7 m7 A8 n8 m8 p7 p8 a6 x13 a7 x14 H)) | false => match Nat.beq i 22 with | true => some (fun E D H => DG (E.get? 1) fun w1 => DSl w1 fun A5 n5 m5 => DG (E.get? 2) fun w2 => DSl w2 fun A6 n6 m6 => DG (E.get? 7) fun w7 => DP w7 fun p5 => DG (E.get? 9) fun w9 => DP w9 fun p6 => DG (E.get? 11) fun w11 => DP w11 fun pw11 => NN pw11 fun a4 => DG (E.get? 12) fun w12 => DI .i64 w12 fun x10 => DG (E.get? 13) fun w13 => DP w13 fun pw13 => NN pw13 fun a5 => DNilD D (W_abacistlaw21_RingSafe.j22 K R14 A5 n5 m5 A6 n6 m6 p5 p6 a4 x10 a5 H)) | false => none, fun i => none, (fun i => match Nat.beq i 18 with | true => some ([], [0, 1, 2, 3, 4], 5) | false => none)⟩
def W_abacistlaw21_RingSafe.Λ (K : Value → Hp → Prop) : Cuts := ⟨fun i => none, fun i => match Nat.beq i 14 with | true => some (fun E D H => ∃ k, W_abacistlaw21_RingSafe.l14.L K k E D H) | false => none, (fun i => match Nat.beq i 18 with | true => some ([], [0, 1, 2, 3, 4], 5) | false => none)⟩
theorem W_abacistlaw21_RingSafe.ok (x1 : Int) (A1 : Option Addr) (n1 : Nat) (m1 : Nat) (A2 : Option Addr) (n2 : Nat) (m2 : Nat) (H : Hp) (K : Value → Hp → Prop) (h : W_abacistlaw21_RingSafe x1 A1 n1 m1 A2 n2 m2 H K) : HCalls Tryz.prog 5 #[.int .u8 x1, .slice A1 n1 m1, .slice A2 n2 m2] H K :=
  hcalls Tryz.func5 rfl (Nat.le_of_ble_eq_true rfl) (hw_safe (Λ := (W_abacistlaw21_RingSafe.Λ K)) mixWabacistlaw21 _ _ _ _ _ (Eq.mp (by kernel_rfl) h) (obs_seq obs_region rfl (obs_seq (obs_seq obs_region rfl (obs_cond (obs_seq obs_region rfl obs_ret) obs_skip)) rfl (obs_seq (obs_seq obs_region rfl (obs_cond (obs_seq obs_region rfl obs_ret) obs_skip)) rfl (obs_seq obs_region rfl (obs_seq obs_region rfl (obs_seq (obs_seq obs_region rfl (obs_cond (obs_seq obs_region rfl obs_ret) obs_skip)) rfl (obs_seq obs_region rfl (obs_seq (obs_seq obs_region rfl (obs_cond (obs_seq obs_region rfl obs_ret) obs_skip)) rfl (obs_seq obs_region rfl (obs_seq (obs_seq obs_region rfl (obs_block (obs_loop rfl (fun E D H h => by
      refine Safe.loop' (W_abacistlaw21_RingSafe.l14.L K) (fun E D H h => ?_) (fun k E D H h => ?_) E D H h
      · obtain ⟨w1, e1, g1⟩ := DG.out h; obtain ⟨A3, n3, m3, rfl, g2⟩ := DSl.out g1; obtain ⟨w2, e2, g3⟩ := DG.out g2; obtain ⟨A4, n4, m4, rfl, g4⟩ := DSl.out g3; obtain ⟨w7, e7, g5⟩ := DG.out g4; obtain ⟨p3, rfl, g6⟩ := DP.out g5; obtain ⟨w9, e9, g7⟩ := DG.out g6; obtain ⟨p4, rfl, g8⟩ := DP.out g7; obtain ⟨w11, e11, g9⟩ := DG.out g8; obtain ⟨pw11, rfl, g10⟩ := DP.out g9; obtain ⟨a1, rfl, g11⟩ := NN.out g10; obtain ⟨w12, e12, g12⟩ := DG.out g11; obtain ⟨x3, rfl, g13⟩ := DI.out g12; obtain ⟨rfl, h'⟩ := DNilD.out g13; exact h'
      · obtain ⟨w1, e1, g1⟩ := DG.out h
        obtain ⟨A3, n3, m3, rfl, g2⟩ := DSl.out g1
        obtain ⟨w2, e2, g3⟩ := DG.out g2
        obtain ⟨A4, n4, m4, rfl, g4⟩ := DSl.out g3
        obtain ⟨w7, e7, g5⟩ := DG.out g4
        obtain ⟨p3, rfl, g6⟩ := DP.out g5
        obtain ⟨w9, e9, g7⟩ := DG.out g6
        obtain ⟨p4, rfl, g8⟩ := DP.out g7
        obtain ⟨w11, e11, g9⟩ := DG.out g8
        obtain ⟨pw11, rfl, g10⟩ := DP.out g9
        obtain ⟨a1, rfl, g11⟩ := NN.out g10
        obtain ⟨w12, e12, g12⟩ := DG.out g11
        obtain ⟨x3, rfl, g13⟩ := DI.out g12
        obtain ⟨rfl, h'⟩ := DNilD.out g13
        exact (hw_safe (Λ := (W_abacistlaw21_RingSafe.Λ14 K (W_abacistlaw21_RingSafe.l14 K k))) mixWabacistlaw21 _ _ [(1, .slice A3 n3 m3), (2, .slice A4 n4 m4), (7, .pointer p3), (9, .pointer p4), (11, .pointer (some a1)), (12, .int .i64 x3)] [] H (Eq.mp (by kernel_rfl) h') (obs_seq (obs_seq obs_region rfl (obs_cond obs_skip obs_exit)) rfl (obs_seq (obs_block (obs_seq obs_region rfl (obs_seq (obs_seq obs_region rfl (obs_cond (obs_seq obs_region rfl obs_exit) obs_skip)) rfl (obs_seq (obs_seq obs_region rfl (obs_cond obs_exit obs_skip)) rfl (obs_seqc (obs_seq obs_region rfl (obs_cond obs_region obs_skip)) rfl (fun E D H h => by
            obtain ⟨w1, e1, g1⟩ := DG.out h
            obtain ⟨A5, n5, m5, rfl, g2⟩ := DSl.out g1
            obtain ⟨w2, e2, g3⟩ := DG.out g2
            obtain ⟨A6, n6, m6, rfl, g4⟩ := DSl.out g3
            obtain ⟨w7, e7, g5⟩ := DG.out g4
            obtain ⟨p5, rfl, g6⟩ := DP.out g5
            obtain ⟨w9, e9, g7⟩ := DG.out g6
            obtain ⟨p6, rfl, g8⟩ := DP.out g7
            obtain ⟨w11, e11, g9⟩ := DG.out g8
            obtain ⟨pw11, rfl, g10⟩ := DP.out g9
            obtain ⟨a4, rfl, g11⟩ := NN.out g10
            obtain ⟨w12, e12, g12⟩ := DG.out g11
            obtain ⟨x10, rfl, g13⟩ := DI.out g12
            obtain ⟨w13, e13, g14⟩ := DG.out g13
            obtain ⟨pw13, rfl, g15⟩ := DP.out g14
            obtain ⟨a5, rfl, g16⟩ := NN.out g15
            obtain ⟨rfl, h'⟩ := DNilD.out g16
            exact (hw_safe (Λ := (W_abacistlaw21_RingSafe.Λ14 K (W_abacistlaw21_RingSafe.l14 K k))) mixWabacistlaw21 _ _ [(1, .slice A5 n5 m5), (2, .slice A6 n6 m6), (7, .pointer p5), (9, .pointer p6), (11, .pointer (some a4)), (12, .int .i64 x10), (13, .pointer (some a5))] [] H (Eq.mp (by kernel_rfl) h') (obs_seq obs_region rfl (obs_seqc (obs_seq obs_region rfl (obs_cond obs_region obs_skip)) rfl (fun E D H h => by
                obtain ⟨w1, e1, g1⟩ := DG.out h
                obtain ⟨A7, n7, m7, rfl, g2⟩ := DSl.out g1
                obtain ⟨w2, e2, g3⟩ := DG.out g2
                obtain ⟨A8, n8, m8, rfl, g4⟩ := DSl.out g3
                obtain ⟨w7, e7, g5⟩ := DG.out g4
                obtain ⟨p7, rfl, g6⟩ := DP.out g5
                obtain ⟨w9, e9, g7⟩ := DG.out g6
                obtain ⟨p8, rfl, g8⟩ := DP.out g7
                obtain ⟨w11, e11, g9⟩ := DG.out g8
                obtain ⟨pw11, rfl, g10⟩ := DP.out g9
                obtain ⟨a6, rfl, g11⟩ := NN.out g10
                obtain ⟨w12, e12, g12⟩ := DG.out g11
                obtain ⟨x13, rfl, g13⟩ := DI.out g12
                obtain ⟨w13, e13, g14⟩ := DG.out g13
                obtain ⟨pw13, rfl, g15⟩ := DP.out g14
                obtain ⟨a7, rfl, g16⟩ := NN.out g15
                obtain ⟨w14, e14, g17⟩ := DG.out g16
                obtain ⟨x14, rfl, g18⟩ := DI.out g17
                obtain ⟨rfl, h'⟩ := DNilD.out g18
                exact (hw_safe (Λ := (W_abacistlaw21_RingSafe.Λ14 K (W_abacistlaw21_RingSafe.l14 K k))) mixWabacistlaw21 _ _ [(1, .slice A7 n7 m7), (2, .slice A8 n8 m8), (7, .pointer p7), (9, .pointer p8), (11, .pointer (some a6)), (12, .int .i64 x13), (13, .pointer (some a7)), (14, .int .i64 x14)] [] H (Eq.mp (by kernel_rfl) h') (obs_seqc (obs_seq obs_region rfl (obs_cond obs_region obs_skip)) rfl (fun E D H h => by
                    obtain ⟨w1, e1, g1⟩ := DG.out h
                    obtain ⟨A9, n9, m9, rfl, g2⟩ := DSl.out g1
                    obtain ⟨w2, e2, g3⟩ := DG.out g2
                    obtain ⟨A10, n10, m10, rfl, g4⟩ := DSl.out g3
                    obtain ⟨w7, e7, g5⟩ := DG.out g4
                    obtain ⟨p9, rfl, g6⟩ := DP.out g5
                    obtain ⟨w9, e9, g7⟩ := DG.out g6
                    obtain ⟨p10, rfl, g8⟩ := DP.out g7
                    obtain ⟨w11, e11, g9⟩ := DG.out g8
                    obtain ⟨pw11, rfl, g10⟩ := DP.out g9
                    obtain ⟨a8, rfl, g11⟩ := NN.out g10
                    obtain ⟨w12, e12, g12⟩ := DG.out g11
                    obtain ⟨x15, rfl, g13⟩ := DI.out g12
                    obtain ⟨w13, e13, g14⟩ := DG.out g13
                    obtain ⟨pw13, rfl, g15⟩ := DP.out g14
                    obtain ⟨a9, rfl, g16⟩ := NN.out g15
                    obtain ⟨w14, e14, g17⟩ := DG.out g16
                    obtain ⟨x16, rfl, g18⟩ := DI.out g17
                    obtain ⟨rfl, h'⟩ := DNilD.out g18
                    exact (hw_safe (Λ := (W_abacistlaw21_RingSafe.Λ14 K (W_abacistlaw21_RingSafe.l14 K k))) mixWabacistlaw21 _ _ [(1, .slice A9 n9 m9), (2, .slice A10 n10 m10), (7, .pointer p9), (9, .pointer p10), (11, .pointer (some a8)), (12, .int .i64 x15), (13, .pointer (some a9)), (14, .int .i64 x16)] [] H (Eq.mp (by kernel_rfl) h') (obs_seqc (obs_seq obs_region rfl (obs_cond obs_exit obs_skip)) rfl (fun E D H h => by
                        obtain ⟨w1, e1, g1⟩ := DG.out h
                        obtain ⟨A11, n11, m11, rfl, g2⟩ := DSl.out g1
                        obtain ⟨w2, e2, g3⟩ := DG.out g2
                        obtain ⟨A12, n12, m12, rfl, g4⟩ := DSl.out g3
                        obtain ⟨w7, e7, g5⟩ := DG.out g4
                        obtain ⟨p11, rfl, g6⟩ := DP.out g5
                        obtain ⟨w9, e9, g7⟩ := DG.out g6
                        obtain ⟨p12, rfl, g8⟩ := DP.out g7
                        obtain ⟨w11, e11, g9⟩ := DG.out g8
                        obtain ⟨pw11, rfl, g10⟩ := DP.out g9
                        obtain ⟨a11, rfl, g11⟩ := NN.out g10
                        obtain ⟨w12, e12, g12⟩ := DG.out g11
                        obtain ⟨x18, rfl, g13⟩ := DI.out g12
                        obtain ⟨w13, e13, g14⟩ := DG.out g13
                        obtain ⟨pw13, rfl, g15⟩ := DP.out g14
                        obtain ⟨a12, rfl, g16⟩ := NN.out g15
                        obtain ⟨w14, e14, g17⟩ := DG.out g16
                        obtain ⟨x19, rfl, g18⟩ := DI.out g17
                        obtain ⟨rfl, h'⟩ := DNilD.out g18
                        exact (hw_safe (Λ := (W_abacistlaw21_RingSafe.Λ14 K (W_abacistlaw21_RingSafe.l14 K k))) mixWabacistlaw21 _ _ [(1, .slice A11 n11 m11), (2, .slice A12 n12 m12), (7, .pointer p11), (9, .pointer p12), (11, .pointer (some a11)), (12, .int .i64 x18), (13, .pointer (some a12)), (14, .int .i64 x19)] [] H (Eq.mp (by kernel_rfl) h') (obs_seq obs_region rfl (obs_seq (obs_seq obs_region rfl (obs_cond (obs_seq obs_region rfl obs_ret) obs_skip)) rfl (obs_seq obs_region rfl (obs_seq (obs_seq obs_region rfl (obs_cond (obs_seq obs_region rfl obs_ret) obs_skip)) rfl obs_region))))).weaken (EnvLe.cons e1 (EnvLe.cons e2 (EnvLe.cons e7 (EnvLe.cons e9 (EnvLe.cons e11 (EnvLe.cons e12 (EnvLe.cons e13 (EnvLe.cons e14 (EnvLe.nil _))))))))) (Hp.le_refl _)))).weaken (EnvLe.cons e1 (EnvLe.cons e2 (EnvLe.cons e7 (EnvLe.cons e9 (EnvLe.cons e11 (EnvLe.cons e12 (EnvLe.cons e13 (EnvLe.cons e14 (EnvLe.nil _))))))))) (Hp.le_refl _)))).weaken (EnvLe.cons e1 (EnvLe.cons e2 (EnvLe.cons e7 (EnvLe.cons e9 (EnvLe.cons e11 (EnvLe.cons e12 (EnvLe.cons e13 (EnvLe.cons e14 (EnvLe.nil _))))))))) (Hp.le_refl _))))).weaken (EnvLe.cons e1 (EnvLe.cons e2 (EnvLe.cons e7 (EnvLe.cons e9 (EnvLe.cons e11 (EnvLe.cons e12 (EnvLe.cons e13 (EnvLe.nil _)))))))) (Hp.le_refl _))))))) rfl obs_region))).weaken (EnvLe.cons e1 (EnvLe.cons e2 (EnvLe.cons e7 (EnvLe.cons e9 (EnvLe.cons e11 (EnvLe.cons e12 (EnvLe.nil _))))))) (Hp.le_refl _))))) rfl (obs_seq obs_region rfl (obs_seq obs_region rfl (obs_seq (obs_seq obs_region rfl (obs_cond (obs_seq obs_region rfl obs_ret) obs_skip)) rfl (obs_seq obs_region rfl (obs_seq obs_region rfl obs_ret))))))))))))))))

-- abacistlaw21.RingPlays
def W_abacistlaw21_RingPlays.l50 (K : Value → Hp → Prop) (R13 : Option Addr → Nat → Nat → Option Addr → Addr → Option Addr → Int → Hp → Prop) : Nat → Option Addr → Nat → Nat → Option Addr → Addr → Option Addr → Int → Option Addr → Nat → Nat → Option Addr → Nat → Nat → Int → Hp → Prop
  | 0, _, _, _, _, _, _, _, _, _, _, _, _, _, _, _ => False
  | k + 1, A55, n63, m55, p15, a22, p16, x84, A56, n64, m56, A57, n65, m57, x85, H =>
    let R50 := W_abacistlaw21_RingPlays.l50 K R13 k
    BIf (decide (x85 < ((n65 : Nat) : Int))) (ixI (IntKind.i64.wrap (x85 - (1 : Int))) n65 (NN A57 fun a23 => LdA H (a23.add ((IntKind.i64.wrap (x85 - (1 : Int))).toNat * 8)) 8 fun l36 => ixI x85 n65 (NN A57 fun a24 => LdA H (a24.add (x85.toNat * 8)) 8 fun l37 => QCall Tryz.prog 33 #[.agg l36.toArray, .agg l37.toArray] H fun v143 => DB v143 fun c16 => BIf (!c16) (K (.bool false) H) (R50 A55 n63 m55 p15 a22 p16 x84 A56 n64 m56 A57 n65 m57 (IntKind.i64.wrap (x85 + (1 : Int))) H)))) (BIf (decide ((IntKind.i64.wrap (((n64 : Nat) : Int) - ((n65 : Nat) : Int))) > (0 : Int))) (ixI (IntKind.i64.wrap ((IntKind.i64.wrap (((n64 : Nat) : Int) - ((n65 : Nat) : Int))) - (1 : Int))) n64 (NN A56 fun a25 => LdA H (a25.add ((IntKind.i64.wrap ((IntKind.i64.wrap (((n64 : Nat) : Int) - ((n65 : Nat) : Int))) - (1 : Int))).toNat * 8)) 8 fun l38 => ixI (IntKind.i64.wrap (((n64 : Nat) : Int) - ((n65 : Nat) : Int))) n64 (NN A56 fun a26 => LdA H (a26.add ((IntKind.i64.wrap (((n64 : Nat) : Int) - ((n65 : Nat) : Int))).toNat * 8)) 8 fun l39 => QCall Tryz.prog 33 #[.agg l38.toArray, .agg l39.toArray] H fun v144 => DB v144 fun c17 => BIf c17 (K (.bool false) H) (R13 A55 n63 m55 p15 a22 p16 (IntKind.i64.wrap (x84 + (1 : Int))) H)))) (R13 A55 n63 m55 p15 a22 p16 (IntKind.i64.wrap (x84 + (1 : Int))) H))
def W_abacistlaw21_RingPlays.j49 (K : Value → Hp → Prop) (R13 : Option Addr → Nat → Nat → Option Addr → Addr → Option Addr → Int → Hp → Prop) (A52 : Option Addr) (n60 : Nat) (m52 : Nat) (p13 : Option Addr) (a21 : Addr) (p14 : Option Addr) (x83 : Int) (A53 : Option Addr) (n61 : Nat) (m53 : Nat) (A54 : Option Addr) (n62 : Nat) (m54 : Nat) (H : Hp) : Prop :=
  (∃ k, W_abacistlaw21_RingPlays.l50 K R13 k A52 n60 m52 p13 a21 p14 x83 A53 n61 m53 A54 n62 m54 (1 : Int) H)
def W_abacistlaw21_RingPlays.j43 (K : Value → Hp → Prop) (R13 : Option Addr → Nat → Nat → Option Addr → Addr → Option Addr → Int → Hp → Prop) (A47 : Option Addr) (n47 : Nat) (m47 : Nat) (p11 : Option Addr) (a19 : Addr) (p12 : Option Addr) (x79 : Int) (H : Hp) : Prop :=
  LdA H a19 3 fun l23 => HCalls Tryz.prog 36 #[.pointer p11, .agg l23.toArray] H fun v126 H82 => DSl v126 fun A48 n48 m48 => HCalls Tryz.prog 35 #[.slice A48 n48 m48] H82 fun v127 H83 => DSl v127 fun A49 n49 m49 => HCalls Tryz.prog 25 #[.pointer p12] H83 fun v128 H84 => DTup v128 fun l24 => DCons l24 fun v129 l25 => DSl v129 fun A50 n50 m50 => DCons l25 fun v130 l26 => DI .i64 v130 fun x80 => DNil l26 (HCalls Tryz.prog 44 #[.pointer p12] H84 fun v131 H85 => DTup v131 fun l27 => DCons l27 fun v132 l28 => DSl v132 fun A51 n51 m51 => DCons l28 fun v133 l29 => DI .i64 v133 fun x81 => DNil l29 (HCalls Tryz.prog 32 #[.pointer p12] H85 fun v134 H86 => DTup v134 fun l30 => DCons l30 fun v135 l31 => DA v135 fun y2 => DCons l31 fun v136 l32 => DB v136 fun c9 => DCons l32 fun v137 l33 => DI .i64 v137 fun x82 => DNil l33 (Nw H86 (.obj (.cells #[.int .u64 (0 : Int), .int .i64 (0 : Int), .int .i64 (0 : Int), .int .i64 (0 : Int), .int .i64 (0 : Int), .int .u32 (0 : Int), .int .u32 (0 : Int), .int .u32 (0 : Int)] 91)) fun b4 H87 => StA H87 (⟨b4, 0, none⟩ : Addr) y2 8 fun H88 => BIf (x80 != (0 : Int)) (K (.bool false) H88) (BIf (x81 != (0 : Int)) (K (.bool false) H88) (BIf (x82 != (0 : Int)) (K (.bool false) H88) (QCall Tryz.prog 39 #[.slice A50 n50 m50, .slice A49 n49 m49] H88 fun v138 => DB v138 fun c10 => BIf (!c10) (K (.bool false) H88) (BIf (!(c9 == (decide (((n49 : Nat) : Int) > (0 : Int))))) (K (.bool false) H88) (BIf c9 (LdA H88 (⟨b4, 0, none⟩ : Addr) 8 fun l34 => ixI (IntKind.i64.wrap (((n49 : Nat) : Int) - (1 : Int))) n49 (NN A49 fun a20 => LdA H88 (a20.add ((IntKind.i64.wrap (((n49 : Nat) : Int) - (1 : Int))).toNat * 8)) 8 fun l35 => EqV Tryz.prog .neq 91 (.agg l34.toArray) (.agg l35.toArray) fun c11 => BIf c11 (K (.bool false) H88) (BIf (decide (((n51 : Nat) : Int) > ((n49 : Nat) : Int))) (K (.bool false) H88) (BIf (decide (((n49 : Nat) : Int) > (0 : Int))) (BIf (((n51 : Nat) : Int) == (0 : Int)) (K (.bool false) H88) (slB n49 m49 (some (IntKind.i64.wrap (((n49 : Nat) : Int) - ((n51 : Nat) : Int)))) none fun n52 n53 => QCall Tryz.prog 39 #[.slice A51 n51 m51, .slice (slA A49 m49 n52 8) (n53 - n52) (m49 - n52)] H88 fun v139 => DB v139 fun c12 => BIf (!c12) (K (.bool false) H88) (W_abacistlaw21_RingPlays.j49 K R13 A47 n47 m47 p11 a19 p12 x79 A49 n49 m49 A51 n51 m51 H88))) (slB n49 m49 (some (IntKind.i64.wrap (((n49 : Nat) : Int) - ((n51 : Nat) : Int)))) none fun n54 n55 => QCall Tryz.prog 39 #[.slice A51 n51 m51, .slice (slA A49 m49 n54 8) (n55 - n54) (m49 - n54)] H88 fun v140 => DB v140 fun c13 => BIf (!c13) (K (.bool false) H88) (W_abacistlaw21_RingPlays.j49 K R13 A47 n47 m47 p11 a19 p12 x79 A49 n49 m49 A51 n51 m51 H88)))))) (BIf (decide (((n51 : Nat) : Int) > ((n49 : Nat) : Int))) (K (.bool false) H88) (BIf (decide (((n49 : Nat) : Int) > (0 : Int))) (BIf (((n51 : Nat) : Int) == (0 : Int)) (K (.bool false) H88) (slB n49 m49 (some (IntKind.i64.wrap (((n49 : Nat) : Int) - ((n51 : Nat) : Int)))) none fun n56 n57 => QCall Tryz.prog 39 #[.slice A51 n51 m51, .slice (slA A49 m49 n56 8) (n57 - n56) (m49 - n56)] H88 fun v141 => DB v141 fun c14 => BIf (!c14) (K (.bool false) H88) (W_abacistlaw21_RingPlays.j49 K R13 A47 n47 m47 p11 a19 p12 x79 A49 n49 m49 A51 n51 m51 H88))) (slB n49 m49 (some (IntKind.i64.wrap (((n49 : Nat) : Int) - ((n51 : Nat) : Int)))) none fun n58 n59 => QCall Tryz.prog 39 #[.slice A51 n51 m51, .slice (slA A49 m49 n58 8) (n59 - n58) (m49 - n58)] H88 fun v142 => DB v142 fun c15 => BIf (!c15) (K (.bool false) H88) (W_abacistlaw21_RingPlays.j49 K R13 A47 n47 m47 p11 a19 p12 x79 A49 n49 m49 A51 n51 m51 H88))))))))))))
def W_abacistlaw21_RingPlays.j35 (K : Value → Hp → Prop) (R13 : Option Addr → Nat → Nat → Option Addr → Addr → Option Addr → Int → Hp → Prop) (A13 : Option Addr) (n13 : Nat) (m13 : Nat) (p9 : Option Addr) (a17 : Addr) (p10 : Option Addr) (x20 : Int) (a18 : Addr) (H : Hp) : Prop :=
  HCalls Tryz.prog 32 #[.pointer p10] H fun v32 H26 => DTup v32 fun l15 => DCons l15 fun v33 l16 => DA v33 fun y1 => DCons l16 fun v34 l17 => DB v34 fun c8 => DCons l17 fun v35 l18 => DI .i64 v35 fun x21 => DNil l18 (Nw H26 (.obj (.cells #[.int .u64 (0 : Int), .int .i64 (0 : Int), .int .i64 (0 : Int), .int .i64 (0 : Int), .int .i64 (0 : Int), .int .u32 (0 : Int), .int .u32 (0 : Int), .int .u32 (0 : Int)] 91)) fun b3 H27 => StA H27 (⟨b3, 0, none⟩ : Addr) y1 8 fun H28 => BIf (x21 != (8 : Int)) (K (.bool false) H28) (Ld H28 (a18.add 10) fun v36 => DSl v36 fun A14 n14 m14 => HCalls Tryz.prog 31 #[.pointer p9, .slice A14 n14 m14] H28 fun v37 H29 => DI .i64 v37 fun x22 => BIf (x22 != (0 : Int)) (K (.bool false) H29) (W_abacistlaw21_RingPlays.j43 K R13 A13 n13 m13 p9 a17 p10 x20 H29)))
def W_abacistlaw21_RingPlays.j30 (K : Value → Hp → Prop) (R13 : Option Addr → Nat → Nat → Option Addr → Addr → Option Addr → Int → Hp → Prop) (A7 : Option Addr) (n7 : Nat) (m7 : Nat) (p7 : Option Addr) (a9 : Addr) (p8 : Option Addr) (x17 : Int) (a10 : Addr) (A8 : Option Addr) (n8 : Nat) (m8 : Nat) (x18 : Int) (x19 : Int) (H : Hp) : Prop :=
  LdA H a9 3 fun l10 => HCalls Tryz.prog 36 #[.pointer p7, .agg l10.toArray] H fun v23 H18 => DSl v23 fun A9 n9 m9 => HCalls Tryz.prog 35 #[.slice A9 n9 m9] H18 fun v24 H19 => DSl v24 fun A10 n10 m10 => BIf (x18 != x19) (K (.bool false) H19) (BIf (x19 != (0 : Int)) (QCall Tryz.prog 39 #[.slice A8 n8 m8, .slice A10 n10 m10] H19 fun v25 => DB v25 fun c5 => BIf (!c5) (K (.bool false) H19) (BIf (x19 == (0 : Int)) (BIf (((n10 : Nat) : Int) == (0 : Int)) (K (.bool false) H19) (ixI (IntKind.i64.wrap (((n10 : Nat) : Int) - (1 : Int))) n10 (NN A10 fun a11 => LdA H19 (a11.add ((IntKind.i64.wrap (((n10 : Nat) : Int) - (1 : Int))).toNat * 8)) 8 fun l11 => LdA H19 (a10.add 2) 8 fun l13 => EqV Tryz.prog .neq 91 (.agg l11.toArray) (.agg l13.toArray) fun c6 => BIf c6 (K (.bool false) H19) (HCalls Tryz.prog 40 #[.pointer p7] H19 fun v26 H20 => DSl v26 fun A11 n11 m11 => BIf (((n11 : Nat) : Int) != (0 : Int)) (K (.bool false) H20) (W_abacistlaw21_RingPlays.j43 K R13 A7 n7 m7 p7 a9 p8 x17 H20))))) (W_abacistlaw21_RingPlays.j43 K R13 A7 n7 m7 p7 a9 p8 x17 H19))) (BIf (x19 == (0 : Int)) (BIf (((n10 : Nat) : Int) == (0 : Int)) (K (.bool false) H19) (ixI (IntKind.i64.wrap (((n10 : Nat) : Int) - (1 : Int))) n10 (NN A10 fun a12 => LdA H19 (a12.add ((IntKind.i64.wrap (((n10 : Nat) : Int) - (1 : Int))).toNat * 8)) 8 fun l12 => LdA H19 (a10.add 2) 8 fun l14 => EqV Tryz.prog .neq 91 (.agg l12.toArray) (.agg l14.toArray) fun c7 => BIf c7 (K (.bool false) H19) (HCalls Tryz.prog 40 #[.pointer p7] H19 fun v27 H21 => DSl v27 fun A12 n12 m12 => BIf (((n12 : Nat) : Int) != (0 : Int)) (K (.bool false) H21) (W_abacistlaw21_RingPlays.j43 K R13 A7 n7 m7 p7 a9 p8 x17 H21))))) (W_abacistlaw21_RingPlays.j43 K R13 A7 n7 m7 p7 a9 p8 x17 H19)))
def W_abacistlaw21_RingPlays.j24 (K : Value → Hp → Prop) (R13 : Option Addr → Nat → Nat → Option Addr → Addr → Option Addr → Int → Hp → Prop) (A5 : Option Addr) (n5 : Nat) (m5 : Nat) (p5 : Option Addr) (a7 : Addr) (p6 : Option Addr) (x15 : Int) (a8 : Addr) (A6 : Option Addr) (n6 : Nat) (m6 : Nat) (H : Hp) : Prop :=
  LdA H (a8.add 2) 8 fun l7 => HCalls Tryz.prog 28 #[.pointer p6, .agg l7.toArray] H fun v20 H15 => DI .i64 v20 fun x16 => LdA H15 (a8.add 2) 8 fun l8 => HCalls Tryz.prog 37 #[.agg l8.toArray] H15 fun v21 H16 => DB v21 fun c3 => BIf (!c3) (W_abacistlaw21_RingPlays.j30 K R13 A5 n5 m5 p5 a7 p6 x15 a8 A6 n6 m6 x16 (10 : Int) H16) (LdA H16 (a8.add 2) 8 fun l9 => HCalls Tryz.prog 38 #[.slice A6 n6 m6, .agg l9.toArray] H16 fun v22 H17 => DB v22 fun c4 => BIf (!c4) (W_abacistlaw21_RingPlays.j30 K R13 A5 n5 m5 p5 a7 p6 x15 a8 A6 n6 m6 x16 (5 : Int) H17) (W_abacistlaw21_RingPlays.j30 K R13 A5 n5 m5 p5 a7 p6 x15 a8 A6 n6 m6 x16 (0 : Int) H17))
def W_abacistlaw21_RingPlays.l13 (K : Value → Hp → Prop) : Nat → Option Addr → Nat → Nat → Option Addr → Addr → Option Addr → Int → Hp → Prop
  | 0, _, _, _, _, _, _, _, _ => False
  | k + 1, A2, n2, m2, p3, a1, p4, x5, H =>
    let R13 := W_abacistlaw21_RingPlays.l13 K k
    BIf (decide (x5 < ((n2 : Nat) : Int))) (ixI x5 n2 (NN A2 fun a2 => LdA H (a2.add (x5.toNat * 12)) 12 fun l5 => Nw H (.obj (.cells #[.int .i64 (0 : Int), .int .i64 (0 : Int), .int .u64 (0 : Int), .int .i64 (0 : Int), .int .i64 (0 : Int), .int .i64 (0 : Int), .int .i64 (0 : Int), .int .u32 (0 : Int), .int .u32 (0 : Int), .int .u32 (0 : Int), .slice none 0 0, .slice none 0 0] 94)) fun b2 H7 => StA H7 (⟨b2, 0, none⟩ : Addr) l5.toArray 12 fun H8 => LdA H8 a1 3 fun l6 => HCalls Tryz.prog 36 #[.pointer p3, .agg l6.toArray] H8 fun v9 H9 => DSl v9 fun A3 n3 m3 => HCalls Tryz.prog 35 #[.slice A3 n3 m3] H9 fun v10 H10 => DSl v10 fun A4 n4 m4 => Ld H10 ((⟨b2, 0, none⟩ : Addr).add 0) fun v11 => DI .i64 v11 fun x6 => BIf (x6 == (0 : Int)) (BIf (x6 == (0 : Int)) (Ld H10 ((⟨b2, 0, none⟩ : Addr).add 0) fun v12 => DI .i64 v12 fun x7 => BIf (x7 == (3 : Int)) (BIf (decide (((n4 : Nat) : Int) > (0 : Int))) (ixI (IntKind.i64.wrap (((n4 : Nat) : Int) - (1 : Int))) n4 (NN A4 fun a3 => Ld H10 ((a3.add ((IntKind.i64.wrap (((n4 : Nat) : Int) - (1 : Int))).toNat * 8)).add 0) fun v16 => DI .u64 v16 fun x11 => St H10 ((((⟨b2, 0, none⟩ : Addr).add 2).add 0).add 0) (.int .u64 (IntKind.u64.wrap (x11 + (1 : Int)))) fun H11 => W_abacistlaw21_RingPlays.j24 K R13 A2 n2 m2 p3 a1 p4 x5 (⟨b2, 0, none⟩ : Addr) A4 n4 m4 H11)) (W_abacistlaw21_RingPlays.j24 K R13 A2 n2 m2 p3 a1 p4 x5 (⟨b2, 0, none⟩ : Addr) A4 n4 m4 H10)) (W_abacistlaw21_RingPlays.j24 K R13 A2 n2 m2 p3 a1 p4 x5 (⟨b2, 0, none⟩ : Addr) A4 n4 m4 H10)) (BIf (x6 == (4 : Int)) (NN p3 fun a13 => HCalls Tryz.prog 30 #[.pointer (some (a13.add 7))] H10 fun v28 H22 => W_abacistlaw21_RingPlays.j35 K R13 A2 n2 m2 p3 a1 p4 x5 (⟨b2, 0, none⟩ : Addr) H22) (BIf (x6 == (6 : Int)) (HCalls Tryz.prog 41 #[.pointer p4] H10 fun v38 H30 => DI .i64 v38 fun x23 => BIf (x23 != (0 : Int)) (K (.bool false) H30) (LdA H30 a1 3 fun l19 => HCalls Tryz.prog 36 #[.pointer p3, .agg l19.toArray] H30 fun v42 H34 => DSl v42 fun A15 n15 m15 => HCalls Tryz.prog 35 #[.slice A15 n15 m15] H34 fun v46 H38 => DSl v46 fun A19 n19 m19 => BIf (((n19 : Nat) : Int) != (0 : Int)) (K (.bool false) H38) (W_abacistlaw21_RingPlays.j43 K R13 A2 n2 m2 p3 a1 p4 x5 H38))) (BIf (x6 == (7 : Int)) (Ld H10 ((⟨b2, 0, none⟩ : Addr).add 11) fun v50 => DSl v50 fun A23 n23 m23 => (Ld H10 ((⟨b2, 0, none⟩ : Addr).add 1) fun v51 => DI .i64 v51 fun x27 => (Ld H10 (a1.add 1) fun v52 => DI .i64 v52 fun x28 => (x28 ≠ 0 ∧ IntKind.i64 = IntKind.i64 ∧ HCalls Tryz.prog 43 #[.slice A23 n23 m23] H10 fun v53 H42 => DSl v53 fun A24 n24 m24 => HCalls Tryz.prog 42 #[.pointer p3, .int .i64 (IntKind.i64.wrap ((1 : Int) + (Int.tmod (bAnd .i64 x27 (7 : Int)) x28))), .slice A24 n24 m24] H42 fun v54 H43 => DI .i64 v54 fun x29 => W_abacistlaw21_RingPlays.j43 K R13 A2 n2 m2 p3 a1 p4 x5 H43)) ∧ (HCalls Tryz.prog 43 #[.slice A23 n23 m23] H10 fun v55 H44 => DSl v55 fun A25 n25 m25 => Ld H44 (a1.add 1) fun v56 => DI .i64 v56 fun x30 => (x30 ≠ 0 ∧ IntKind.i64 = IntKind.i64 ∧ HCalls Tryz.prog 42 #[.pointer p3, .int .i64 (IntKind.i64.wrap ((1 : Int) + (Int.tmod (bAnd .i64 x27 (7 : Int)) x30))), .slice A25 n25 m25] H44 fun v57 H45 => DI .i64 v57 fun x31 => W_abacistlaw21_RingPlays.j43 K R13 A2 n2 m2 p3 a1 p4 x5 H45))) ∧ (Ld H10 (a1.add 1) fun v58 => DI .i64 v58 fun x32 => (Ld H10 ((⟨b2, 0, none⟩ : Addr).add 1) fun v59 => DI .i64 v59 fun x33 => (x32 ≠ 0 ∧ IntKind.i64 = IntKind.i64 ∧ HCalls Tryz.prog 43 #[.slice A23 n23 m23] H10 fun v60 H46 => DSl v60 fun A26 n26 m26 => HCalls Tryz.prog 42 #[.pointer p3, .int .i64 (IntKind.i64.wrap ((1 : Int) + (Int.tmod (bAnd .i64 x33 (7 : Int)) x32))), .slice A26 n26 m26] H46 fun v61 H47 => DI .i64 v61 fun x34 => W_abacistlaw21_RingPlays.j43 K R13 A2 n2 m2 p3 a1 p4 x5 H47)) ∧ (HCalls Tryz.prog 43 #[.slice A23 n23 m23] H10 fun v62 H48 => DSl v62 fun A27 n27 m27 => Ld H48 ((⟨b2, 0, none⟩ : Addr).add 1) fun v63 => DI .i64 v63 fun x35 => (x32 ≠ 0 ∧ IntKind.i64 = IntKind.i64 ∧ HCalls Tryz.prog 42 #[.pointer p3, .int .i64 (IntKind.i64.wrap ((1 : Int) + (Int.tmod (bAnd .i64 x35 (7 : Int)) x32))), .slice A27 n27 m27] H48 fun v64 H49 => DI .i64 v64 fun x36 => W_abacistlaw21_RingPlays.j43 K R13 A2 n2 m2 p3 a1 p4 x5 H49))) ∧ (HCalls Tryz.prog 43 #[.slice A23 n23 m23] H10 fun v65 H50 => DSl v65 fun A28 n28 m28 => Ld H50 ((⟨b2, 0, none⟩ : Addr).add 1) fun v66 => DI .i64 v66 fun x37 => Ld H50 (a1.add 1) fun v67 => DI .i64 v67 fun x38 => (x38 ≠ 0 ∧ IntKind.i64 = IntKind.i64 ∧ HCalls Tryz.prog 42 #[.pointer p3, .int .i64 (IntKind.i64.wrap ((1 : Int) + (Int.tmod (bAnd .i64 x37 (7 : Int)) x38))), .slice A28 n28 m28] H50 fun v68 H51 => DI .i64 v68 fun x39 => W_abacistlaw21_RingPlays.j43 K R13 A2 n2 m2 p3 a1 p4 x5 H51))) (W_abacistlaw21_RingPlays.j43 K R13 A2 n2 m2 p3 a1 p4 x5 H10))))) (BIf (x6 == (1 : Int)) (BIf (x6 == (1 : Int)) (Ld H10 ((⟨b2, 0, none⟩ : Addr).add 0) fun v13 => DI .i64 v13 fun x8 => BIf (x8 == (3 : Int)) (BIf (decide (((n4 : Nat) : Int) > (0 : Int))) (ixI (IntKind.i64.wrap (((n4 : Nat) : Int) - (1 : Int))) n4 (NN A4 fun a4 => Ld H10 ((a4.add ((IntKind.i64.wrap (((n4 : Nat) : Int) - (1 : Int))).toNat * 8)).add 0) fun v17 => DI .u64 v17 fun x12 => St H10 ((((⟨b2, 0, none⟩ : Addr).add 2).add 0).add 0) (.int .u64 (IntKind.u64.wrap (x12 + (1 : Int)))) fun H12 => W_abacistlaw21_RingPlays.j24 K R13 A2 n2 m2 p3 a1 p4 x5 (⟨b2, 0, none⟩ : Addr) A4 n4 m4 H12)) (W_abacistlaw21_RingPlays.j24 K R13 A2 n2 m2 p3 a1 p4 x5 (⟨b2, 0, none⟩ : Addr) A4 n4 m4 H10)) (W_abacistlaw21_RingPlays.j24 K R13 A2 n2 m2 p3 a1 p4 x5 (⟨b2, 0, none⟩ : Addr) A4 n4 m4 H10)) (BIf (x6 == (4 : Int)) (NN p3 fun a14 => HCalls Tryz.prog 30 #[.pointer (some (a14.add 7))] H10 fun v29 H23 => W_abacistlaw21_RingPlays.j35 K R13 A2 n2 m2 p3 a1 p4 x5 (⟨b2, 0, none⟩ : Addr) H23) (BIf (x6 == (6 : Int)) (HCalls Tryz.prog 41 #[.pointer p4] H10 fun v39 H31 => DI .i64 v39 fun x24 => BIf (x24 != (0 : Int)) (K (.bool false) H31) (LdA H31 a1 3 fun l20 => HCalls Tryz.prog 36 #[.pointer p3, .agg l20.toArray] H31 fun v43 H35 => DSl v43 fun A16 n16 m16 => HCalls Tryz.prog 35 #[.slice A16 n16 m16] H35 fun v47 H39 => DSl v47 fun A20 n20 m20 => BIf (((n20 : Nat) : Int) != (0 : Int)) (K (.bool false) H39) (W_abacistlaw21_RingPlays.j43 K R13 A2 n2 m2 p3 a1 p4 x5 H39))) (BIf (x6 == (7 : Int)) (Ld H10 ((⟨b2, 0, none⟩ : Addr).add 11) fun v69 => DSl v69 fun A29 n29 m29 => (Ld H10 ((⟨b2, 0, none⟩ : Addr).add 1) fun v70 => DI .i64 v70 fun x40 => (Ld H10 (a1.add 1) fun v71 => DI .i64 v71 fun x41 => (x41 ≠ 0 ∧ IntKind.i64 = IntKind.i64 ∧ HCalls Tryz.prog 43 #[.slice A29 n29 m29] H10 fun v72 H52 => DSl v72 fun A30 n30 m30 => HCalls Tryz.prog 42 #[.pointer p3, .int .i64 (IntKind.i64.wrap ((1 : Int) + (Int.tmod (bAnd .i64 x40 (7 : Int)) x41))), .slice A30 n30 m30] H52 fun v73 H53 => DI .i64 v73 fun x42 => W_abacistlaw21_RingPlays.j43 K R13 A2 n2 m2 p3 a1 p4 x5 H53)) ∧ (HCalls Tryz.prog 43 #[.slice A29 n29 m29] H10 fun v74 H54 => DSl v74 fun A31 n31 m31 => Ld H54 (a1.add 1) fun v75 => DI .i64 v75 fun x43 => (x43 ≠ 0 ∧ IntKind.i64 = IntKind.i64 ∧ HCalls Tryz.prog 42 #[.pointer p3, .int .i64 (IntKind.i64.wrap ((1 : Int) + (Int.tmod (bAnd .i64 x40 (7 : Int)) x43))), .slice A31 n31 m31] H54 fun v76 H55 => DI .i64 v76 fun x44 => W_abacistlaw21_RingPlays.j43 K R13 A2 n2 m2 p3 a1 p4 x5 H55))) ∧ (Ld H10 (a1.add 1) fun v77 => DI .i64 v77 fun x45 => (Ld H10 ((⟨b2, 0, none⟩ : Addr).add 1) fun v78 => DI .i64 v78 fun x46 => (x45 ≠ 0 ∧ IntKind.i64 = IntKind.i64 ∧ HCalls Tryz.prog 43 #[.slice A29 n29 m29] H10 fun v79 H56 => DSl v79 fun A32 n32 m32 => HCalls Tryz.prog 42 #[.pointer p3, .int .i64 (IntKind.i64.wrap ((1 : Int) + (Int.tmod (bAnd .i64 x46 (7 : Int)) x45))), .slice A32 n32 m32] H56 fun v80 H57 => DI .i64 v80 fun x47 => W_abacistlaw21_RingPlays.j43 K R13 A2 n2 m2 p3 a1 p4 x5 H57)) ∧ (HCalls Tryz.prog 43 #[.slice A29 n29 m29] H10 fun v81 H58 => DSl v81 fun A33 n33 m33 => Ld H58 ((⟨b2, 0, none⟩ : Addr).add 1) fun v82 => DI .i64 v82 fun x48 => (x45 ≠ 0 ∧ IntKind.i64 = IntKind.i64 ∧ HCalls Tryz.prog 42 #[.pointer p3, .int .i64 (IntKind.i64.wrap ((1 : Int) + (Int.tmod (bAnd .i64 x48 (7 : Int)) x45))), .slice A33 n33 m33] H58 fun v83 H59 => DI .i64 v83 fun x49 => W_abacistlaw21_RingPlays.j43 K R13 A2 n2 m2 p3 a1 p4 x5 H59))) ∧ (HCalls Tryz.prog 43 #[.slice A29 n29 m29] H10 fun v84 H60 => DSl v84 fun A34 n34 m34 => Ld H60 ((⟨b2, 0, none⟩ : Addr).add 1) fun v85 => DI .i64 v85 fun x50 => Ld H60 (a1.add 1) fun v86 => DI .i64 v86 fun x51 => (x51 ≠ 0 ∧ IntKind.i64 = IntKind.i64 ∧ HCalls Tryz.prog 42 #[.pointer p3, .int .i64 (IntKind.i64.wrap ((1 : Int) + (Int.tmod (bAnd .i64 x50 (7 : Int)) x51))), .slice A34 n34 m34] H60 fun v87 H61 => DI .i64 v87 fun x52 => W_abacistlaw21_RingPlays.j43 K R13 A2 n2 m2 p3 a1 p4 x5 H61))) (W_abacistlaw21_RingPlays.j43 K R13 A2 n2 m2 p3 a1 p4 x5 H10))))) (BIf (x6 == (2 : Int)) (BIf (x6 == (2 : Int)) (Ld H10 ((⟨b2, 0, none⟩ : Addr).add 0) fun v14 => DI .i64 v14 fun x9 => BIf (x9 == (3 : Int)) (BIf (decide (((n4 : Nat) : Int) > (0 : Int))) (ixI (IntKind.i64.wrap (((n4 : Nat) : Int) - (1 : Int))) n4 (NN A4 fun a5 => Ld H10 ((a5.add ((IntKind.i64.wrap (((n4 : Nat) : Int) - (1 : Int))).toNat * 8)).add 0) fun v18 => DI .u64 v18 fun x13 => St H10 ((((⟨b2, 0, none⟩ : Addr).add 2).add 0).add 0) (.int .u64 (IntKind.u64.wrap (x13 + (1 : Int)))) fun H13 => W_abacistlaw21_RingPlays.j24 K R13 A2 n2 m2 p3 a1 p4 x5 (⟨b2, 0, none⟩ : Addr) A4 n4 m4 H13)) (W_abacistlaw21_RingPlays.j24 K R13 A2 n2 m2 p3 a1 p4 x5 (⟨b2, 0, none⟩ : Addr) A4 n4 m4 H10)) (W_abacistlaw21_RingPlays.j24 K R13 A2 n2 m2 p3 a1 p4 x5 (⟨b2, 0, none⟩ : Addr) A4 n4 m4 H10)) (BIf (x6 == (4 : Int)) (NN p3 fun a15 => HCalls Tryz.prog 30 #[.pointer (some (a15.add 7))] H10 fun v30 H24 => W_abacistlaw21_RingPlays.j35 K R13 A2 n2 m2 p3 a1 p4 x5 (⟨b2, 0, none⟩ : Addr) H24) (BIf (x6 == (6 : Int)) (HCalls Tryz.prog 41 #[.pointer p4] H10 fun v40 H32 => DI .i64 v40 fun x25 => BIf (x25 != (0 : Int)) (K (.bool false) H32) (LdA H32 a1 3 fun l21 => HCalls Tryz.prog 36 #[.pointer p3, .agg l21.toArray] H32 fun v44 H36 => DSl v44 fun A17 n17 m17 => HCalls Tryz.prog 35 #[.slice A17 n17 m17] H36 fun v48 H40 => DSl v48 fun A21 n21 m21 => BIf (((n21 : Nat) : Int) != (0 : Int)) (K (.bool false) H40) (W_abacistlaw21_RingPlays.j43 K R13 A2 n2 m2 p3 a1 p4 x5 H40))) (BIf (x6 == (7 : Int)) (Ld H10 ((⟨b2, 0, none⟩ : Addr).add 11) fun v88 => DSl v88 fun A35 n35 m35 => (Ld H10 ((⟨b2, 0, none⟩ : Addr).add 1) fun v89 => DI .i64 v89 fun x53 => (Ld H10 (a1.add 1) fun v90 => DI .i64 v90 fun x54 => (x54 ≠ 0 ∧ IntKind.i64 = IntKind.i64 ∧ HCalls Tryz.prog 43 #[.slice A35 n35 m35] H10 fun v91 H62 => DSl v91 fun A36 n36 m36 => HCalls Tryz.prog 42 #[.pointer p3, .int .i64 (IntKind.i64.wrap ((1 : Int) + (Int.tmod (bAnd .i64 x53 (7 : Int)) x54))), .slice A36 n36 m36] H62 fun v92 H63 => DI .i64 v92 fun x55 => W_abacistlaw21_RingPlays.j43 K R13 A2 n2 m2 p3 a1 p4 x5 H63)) ∧ (HCalls Tryz.prog 43 #[.slice A35 n35 m35] H10 fun v93 H64 => DSl v93 fun A37 n37 m37 => Ld H64 (a1.add 1) fun v94 => DI .i64 v94 fun x56 => (x56 ≠ 0 ∧ IntKind.i64 = IntKind.i64 ∧ HCalls Tryz.prog 42 #[.pointer p3, .int .i64 (IntKind.i64.wrap ((1 : Int) + (Int.tmod (bAnd .i64 x53 (7 : Int)) x56))), .slice A37 n37 m37] H64 fun v95 H65 => DI .i64 v95 fun x57 => W_abacistlaw21_RingPlays.j43 K R13 A2 n2 m2 p3 a1 p4 x5 H65))) ∧ (Ld H10 (a1.add 1) fun v96 => DI .i64 v96 fun x58 => (Ld H10 ((⟨b2, 0, none⟩ : Addr).add 1) fun v97 => DI .i64 v97 fun x59 => (x58 ≠ 0 ∧ IntKind.i64 = IntKind.i64 ∧ HCalls Tryz.prog 43 #[.slice A35 n35 m35] H10 fun v98 H66 => DSl v98 fun A38 n38 m38 => HCalls Tryz.prog 42 #[.pointer p3, .int .i64 (IntKind.i64.wrap ((1 : Int) + (Int.tmod (bAnd .i64 x59 (7 : Int)) x58))), .slice A38 n38 m38] H66 fun v99 H67 => DI .i64 v99 fun x60 => W_abacistlaw21_RingPlays.j43 K R13 A2 n2 m2 p3 a1 p4 x5 H67)) ∧ (HCalls Tryz.prog 43 #[.slice A35 n35 m35] H10 fun v100 H68 => DSl v100 fun A39 n39 m39 => Ld H68 ((⟨b2, 0, none⟩ : Addr).add 1) fun v101 => DI .i64 v101 fun x61 => (x58 ≠ 0 ∧ IntKind.i64 = IntKind.i64 ∧ HCalls Tryz.prog 42 #[.pointer p3, .int .i64 (IntKind.i64.wrap ((1 : Int) + (Int.tmod (bAnd .i64 x61 (7 : Int)) x58))), .slice A39 n39 m39] H68 fun v102 H69 => DI .i64 v102 fun x62 => W_abacistlaw21_RingPlays.j43 K R13 A2 n2 m2 p3 a1 p4 x5 H69))) ∧ (HCalls Tryz.prog 43 #[.slice A35 n35 m35] H10 fun v103 H70 => DSl v103 fun A40 n40 m40 => Ld H70 ((⟨b2, 0, none⟩ : Addr).add 1) fun v104 => DI .i64 v104 fun x63 => Ld H70 (a1.add 1) fun v105 => DI .i64 v105 fun x64 => (x64 ≠ 0 ∧ IntKind.i64 = IntKind.i64 ∧ HCalls Tryz.prog 42 #[.pointer p3, .int .i64 (IntKind.i64.wrap ((1 : Int) + (Int.tmod (bAnd .i64 x63 (7 : Int)) x64))), .slice A40 n40 m40] H70 fun v106 H71 => DI .i64 v106 fun x65 => W_abacistlaw21_RingPlays.j43 K R13 A2 n2 m2 p3 a1 p4 x5 H71))) (W_abacistlaw21_RingPlays.j43 K R13 A2 n2 m2 p3 a1 p4 x5 H10))))) (BIf (x6 == (3 : Int)) (Ld H10 ((⟨b2, 0, none⟩ : Addr).add 0) fun v15 => DI .i64 v15 fun x10 => BIf (x10 == (3 : Int)) (BIf (decide (((n4 : Nat) : Int) > (0 : Int))) (ixI (IntKind.i64.wrap (((n4 : Nat) : Int) - (1 : Int))) n4 (NN A4 fun a6 => Ld H10 ((a6.add ((IntKind.i64.wrap (((n4 : Nat) : Int) - (1 : Int))).toNat * 8)).add 0) fun v19 => DI .u64 v19 fun x14 => St H10 ((((⟨b2, 0, none⟩ : Addr).add 2).add 0).add 0) (.int .u64 (IntKind.u64.wrap (x14 + (1 : Int)))) fun H14 => W_abacistlaw21_RingPlays.j24 K R13 A2 n2 m2 p3 a1 p4 x5 (⟨b2, 0, none⟩ : Addr) A4 n4 m4 H14)) (W_abacistlaw21_RingPlays.j24 K R13 A2 n2 m2 p3 a1 p4 x5 (⟨b2, 0, none⟩ : Addr) A4 n4 m4 H10)) (W_abacistlaw21_RingPlays.j24 K R13 A2 n2 m2 p3 a1 p4 x5 (⟨b2, 0, none⟩ : Addr) A4 n4 m4 H10)) (BIf (x6 == (4 : Int)) (NN p3 fun a16 => HCalls Tryz.prog 30 #[.pointer (some (a16.add 7))] H10 fun v31 H25 => W_abacistlaw21_RingPlays.j35 K R13 A2 n2 m2 p3 a1 p4 x5 (⟨b2, 0, none⟩ : Addr) H25) (BIf (x6 == (6 : Int)) (HCalls Tryz.prog 41 #[.pointer p4] H10 fun v41 H33 => DI .i64 v41 fun x26 => BIf (x26 != (0 : Int)) (K (.bool false) H33) (LdA H33 a1 3 fun l22 => HCalls Tryz.prog 36 #[.pointer p3, .agg l22.toArray] H33 fun v45 H37 => DSl v45 fun A18 n18 m18 => HCalls Tryz.prog 35 #[.slice A18 n18 m18] H37 fun v49 H41 => DSl v49 fun A22 n22 m22 => BIf (((n22 : Nat) : Int) != (0 : Int)) (K (.bool false) H41) (W_abacistlaw21_RingPlays.j43 K R13 A2 n2 m2 p3 a1 p4 x5 H41))) (BIf (x6 == (7 : Int)) (Ld H10 ((⟨b2, 0, none⟩ : Addr).add 11) fun v107 => DSl v107 fun A41 n41 m41 => (Ld H10 ((⟨b2, 0, none⟩ : Addr).add 1) fun v108 => DI .i64 v108 fun x66 => (Ld H10 (a1.add 1) fun v109 => DI .i64 v109 fun x67 => (x67 ≠ 0 ∧ IntKind.i64 = IntKind.i64 ∧ HCalls Tryz.prog 43 #[.slice A41 n41 m41] H10 fun v110 H72 => DSl v110 fun A42 n42 m42 => HCalls Tryz.prog 42 #[.pointer p3, .int .i64 (IntKind.i64.wrap ((1 : Int) + (Int.tmod (bAnd .i64 x66 (7 : Int)) x67))), .slice A42 n42 m42] H72 fun v111 H73 => DI .i64 v111 fun x68 => W_abacistlaw21_RingPlays.j43 K R13 A2 n2 m2 p3 a1 p4 x5 H73)) ∧ (HCalls Tryz.prog 43 #[.slice A41 n41 m41] H10 fun v112 H74 => DSl v112 fun A43 n43 m43 => Ld H74 (a1.add 1) fun v113 => DI .i64 v113 fun x69 => (x69 ≠ 0 ∧ IntKind.i64 = IntKind.i64 ∧ HCalls Tryz.prog 42 #[.pointer p3, .int .i64 (IntKind.i64.wrap ((1 : Int) + (Int.tmod (bAnd .i64 x66 (7 : Int)) x69))), .slice A43 n43 m43] H74 fun v114 H75 => DI .i64 v114 fun x70 => W_abacistlaw21_RingPlays.j43 K R13 A2 n2 m2 p3 a1 p4 x5 H75))) ∧ (Ld H10 (a1.add 1) fun v115 => DI .i64 v115 fun x71 => (Ld H10 ((⟨b2, 0, none⟩ : Addr).add 1) fun v116 => DI .i64 v116 fun x72 => (x71 ≠ 0 ∧ IntKind.i64 = IntKind.i64 ∧ HCalls Tryz.prog 43 #[.slice A41 n41 m41] H10 fun v117 H76 => DSl v117 fun A44 n44 m44 => HCalls Tryz.prog 42 #[.pointer p3, .int .i64 (IntKind.i64.wrap ((1 : Int) + (Int.tmod (bAnd .i64 x72 (7 : Int)) x71))), .slice A44 n44 m44] H76 fun v118 H77 => DI .i64 v118 fun x73 => W_abacistlaw21_RingPlays.j43 K R13 A2 n2 m2 p3 a1 p4 x5 H77)) ∧ (HCalls Tryz.prog 43 #[.slice A41 n41 m41] H10 fun v119 H78 => DSl v119 fun A45 n45 m45 => Ld H78 ((⟨b2, 0, none⟩ : Addr).add 1) fun v120 => DI .i64 v120 fun x74 => (x71 ≠ 0 ∧ IntKind.i64 = IntKind.i64 ∧ HCalls Tryz.prog 42 #[.pointer p3, .int .i64 (IntKind.i64.wrap ((1 : Int) + (Int.tmod (bAnd .i64 x74 (7 : Int)) x71))), .slice A45 n45 m45] H78 fun v121 H79 => DI .i64 v121 fun x75 => W_abacistlaw21_RingPlays.j43 K R13 A2 n2 m2 p3 a1 p4 x5 H79))) ∧ (HCalls Tryz.prog 43 #[.slice A41 n41 m41] H10 fun v122 H80 => DSl v122 fun A46 n46 m46 => Ld H80 ((⟨b2, 0, none⟩ : Addr).add 1) fun v123 => DI .i64 v123 fun x76 => Ld H80 (a1.add 1) fun v124 => DI .i64 v124 fun x77 => (x77 ≠ 0 ∧ IntKind.i64 = IntKind.i64 ∧ HCalls Tryz.prog 42 #[.pointer p3, .int .i64 (IntKind.i64.wrap ((1 : Int) + (Int.tmod (bAnd .i64 x76 (7 : Int)) x77))), .slice A46 n46 m46] H80 fun v125 H81 => DI .i64 v125 fun x78 => W_abacistlaw21_RingPlays.j43 K R13 A2 n2 m2 p3 a1 p4 x5 H81))) (W_abacistlaw21_RingPlays.j43 K R13 A2 n2 m2 p3 a1 p4 x5 H10))))))))) (K (.bool true) H)
def W_abacistlaw21_RingPlays (x1 : Int) (A1 : Option Addr) (n1 : Nat) (m1 : Nat) (H : Hp) (K : Value → Hp → Prop) : Prop :=
  HCalls Tryz.prog 22 #[] H fun v1 H1 => DB v1 fun c1 => BIf (!c1) (K (.bool false) H1) (HCalls Tryz.prog 26 #[.slice A1 n1 m1] H1 fun v2 H2 => DB v2 fun c2 => BIf (!c2) (K (.bool true) H2) (HCalls Tryz.prog 23 #[.int .i64 (10 : Int), .int .i64 (32 : Int)] H2 fun v3 H3 => DP v3 fun p1 => ((5 : Int) ≠ 0 ∧ IntKind.i64 = IntKind.i64 ∧ Nw H3 (.obj (.cells #[.int .i64 (0 : Int), .int .i64 (0 : Int), .int .i64 (0 : Int)] 30)) fun b1 H4 => StA H4 (⟨b1, 0, none⟩ : Addr) #[.int .i64 (1 : Int), .int .i64 (IntKind.i64.wrap ((2 : Int) + (Int.tmod (IntKind.i64.wrap x1) (5 : Int)))), .int .i64 (0 : Int)] 3 fun H5 => BIf p1.isNone (K (.bool false) H5) (LdA H5 (⟨b1, 0, none⟩ : Addr) 3 fun l1 => HCalls Tryz.prog 24 #[.pointer p1, .agg l1.toArray] H5 fun v4 H6 => DTup v4 fun l2 => DCons l2 fun v5 l3 => DP v5 fun p2 => DCons l3 fun v6 l4 => DI .i64 v6 fun x2 => DNil l4 (BIf p2.isNone (K (.bool false) H6) (BIf (x2 != (0 : Int)) (K (.bool false) H6) (QCall Tryz.prog 34 #[.pointer p2] H6 fun v7 => DI .i64 v7 fun x3 => Ld H6 ((⟨b1, 0, none⟩ : Addr).add 1) fun v8 => DI .i64 v8 fun x4 => BIf (x3 != x4) (K (.bool false) H6) ((∃ k, W_abacistlaw21_RingPlays.l13 K k A1 n1 m1 p1 (⟨b1, 0, none⟩ : Addr) p2 (0 : Int) H6)))))))))
def W_abacistlaw21_RingPlays.l13.L (K : Value → Hp → Prop) (k : Nat) : Mid := fun E D H =>
  DG (E.get? 1) fun w1 => DSl w1 fun A2 n2 m2 => DG (E.get? 5) fun w5 => DP w5 fun p3 => DG (E.get? 6) fun w6 => DP w6 fun pw6 => NN pw6 fun a1 => DG (E.get? 7) fun w7 => DP w7 fun p4 => DG (E.get? 9) fun w9 => DI .i64 w9 fun x5 => DNilD D (W_abacistlaw21_RingPlays.l13 K k A2 n2 m2 p3 a1 p4 x5 H)
def W_abacistlaw21_RingPlays.l50.L (K : Value → Hp → Prop) (R13 : Option Addr → Nat → Nat → Option Addr → Addr → Option Addr → Int → Hp → Prop) (k : Nat) : Mid := fun E D H =>
  DG (E.get? 1) fun w1 => DSl w1 fun A55 n63 m55 => DG (E.get? 5) fun w5 => DP w5 fun p15 => DG (E.get? 6) fun w6 => DP w6 fun pw6 => NN pw6 fun a22 => DG (E.get? 7) fun w7 => DP w7 fun p16 => DG (E.get? 9) fun w9 => DI .i64 w9 fun x84 => DG (E.get? 18) fun w18 => DSl w18 fun A56 n64 m56 => DG (E.get? 21) fun w21 => DSl w21 fun A57 n65 m57 => DG (E.get? 26) fun w26 => DI .i64 w26 fun x85 => DNilD D (W_abacistlaw21_RingPlays.l50 K R13 k A55 n63 m55 p15 a22 p16 x84 A56 n64 m56 A57 n65 m57 x85 H)
def W_abacistlaw21_RingPlays.Λ50 (_ : Value → Hp → Prop) (_R13 : Option Addr → Nat → Nat → Option Addr → Addr → Option Addr → Int → Hp → Prop) (_R50 : Option Addr → Nat → Nat → Option Addr → Addr → Option Addr → Int → Option Addr → Nat → Nat → Option Addr → Nat → Nat → Int → Hp → Prop) : Cuts := Cuts.none (fun i => match Nat.beq i 42 with | true => some ([2, 5, 9], [0, 0, 2, 6, 0, 16, 62, 126, 0, 256, 768, 2047], 0) | false => match Nat.beq i 31 with | true => some ([], [0, 1, 2, 3, 4, 5, 6, 7, 8, 9, 10, 11, 12, 13, 14, 15, 16, 17, 18, 19, 20, 21, 22, 23, 24, 25, 26, 27, 28, 29, 30, 31, 32], 33) | false => none)
def W_abacistlaw21_RingPlays.Λ13 (K : Value → Hp → Prop) (R13 : Option Addr → Nat → Nat → Option Addr → Addr → Option Addr → Int → Hp → Prop) : Cuts := ⟨fun i => match Nat.beq i 49 with | true => some (fun E D H => DG (E.get? 1) fun w1 => DSl w1 fun A52 n60 m52 => DG (E.get? 5) fun w5 => DP w5 fun p13 => DG (E.get? 6) fun w6 => DP w6 fun pw6 => NN pw6 fun a21 => DG (E.get? 7) fun w7 => DP w7 fun p14 => DG (E.get? 9) fun w9 => DI .i64 w9 fun x83 => DG (E.get? 18) fun w18 => DSl w18 fun A53 n61 m53 => DG (E.get? 21) fun w21 => DSl w21 fun A54 n62 m54 => DNilD D (W_abacistlaw21_RingPlays.j49 K R13 A52 n60 m52 p13 a21 p14 x83 A53 n61 m53 A54 n62 m54 H)) | false => match Nat.beq i 43 with | true => some (fun E D H => DG (E.get? 1) fun w1 => DSl w1 fun A47 n47 m47 => DG (E.get? 5) fun w5 => DP w5 fun p11 => DG (E.get? 6) fun w6 => DP w6 fun pw6 => NN pw6 fun a19 => DG (E.get? 7) fun w7 => DP w7 fun p12 => DG (E.get? 9) fun w9 => DI .i64 w9 fun x79 => DNilD D (W_abacistlaw21_RingPlays.j43 K R13 A47 n47 m47 p11 a19 p12 x79 H)) | false => match Nat.beq i 35 with | true => some (fun E D H => DG (E.get? 1) fun w1 => DSl w1 fun A13 n13 m13 => DG (E.get? 5) fun w5 => DP w5 fun p9 => DG (E.get? 6) fun w6 => DP w6 fun pw6 => NN pw6 fun a17 => DG (E.get? 7) fun w7 => DP w7 fun p10 => DG (E.get? 9) fun w9 => DI .i64 w9 fun x20 => DG (E.get? 10) fun w10 => DP w10 fun pw10 => NN pw10 fun a18 => DNilD D (W_abacistlaw21_RingPlays.j35 K R13 A13 n13 m13 p9 a17 p10 x20 a18 H)) | false => match Nat.beq i 30 with | true => some (fun E D H => DG (E.get? 1) fun w1 => DSl w1 fun A7 n7 m7 => DG (E.get? 5) fun w5 => DP w5 fun p7 => DG (E.get? 6) fun w6 => DP w6 fun pw6 => NN pw6 fun a9 => DG (E.get? 7) fun w7 => DP w7 fun p8 => DG (E.get? 9) fun w9 => DI .i64 w9 fun x17 => DG (E.get? 10) fun w10 => DP w10 fun pw10 => NN pw10 fun a10 => DG (E.get? 11) fun w11 => DSl w11 fun A8 n8 m8 => DG (E.get? 12) fun w12 => DI .i64 w12 fun x18 => DG (E.get? 13) fun w13 => DI .i64 w13 fun x19 => DNilD D (W_abacistlaw21_RingPlays.j30 K R13 A7 n7 m7 p7 a9 p8 x17 a10 A8 n8 m8 x18 x19 H)) | false => match Nat.beq i 24 with | true => some (fun E D H => DG (E.get? 1) fun w1 => DSl w1 fun A5 n5 m5 => DG (E.get? 5) fun w5 => DP w5 fun p5 => DG (E.get? 6) fun w6 => DP w6 fun pw6 => NN pw6 fun a7 => DG (E.get? 7) fun w7 => DP w7 fun p6 => DG (E.get? 9) fun w9 => DI .i64 w9 fun x15 => DG (E.get? 10) fun w10 => DP w10 fun pw10 => NN pw10 fun a8 => DG (E.get? 11) fun w11 => DSl w11 fun A6 n6 m6 => DNilD D (W_abacistlaw21_RingPlays.j24 K R13 A5 n5 m5 p5 a7 p6 x15 a8 A6 n6 m6 H)) | false => none, fun i => match Nat.beq i 50 with | true => some (fun E D H => ∃ k, W_abacistlaw21_RingPlays.l50.L K R13 k E D H) | false => none, (fun i => match Nat.beq i 42 with | true => some ([2, 5, 9], [0, 0, 2, 6, 0, 16, 62, 126, 0, 256, 768, 2047], 0) | false => match Nat.beq i 31 with | true => some ([], [0, 1, 2, 3, 4, 5, 6, 7, 8, 9, 10, 11, 12, 13, 14, 15, 16, 17, 18, 19, 20, 21, 22, 23, 24, 25, 26, 27, 28, 29, 30, 31, 32], 33) | false => none)⟩
def W_abacistlaw21_RingPlays.Λ (K : Value → Hp → Prop) : Cuts := ⟨fun i => none, fun i => match Nat.beq i 13 with | true => some (fun E D H => ∃ k, W_abacistlaw21_RingPlays.l13.L K k E D H) | false => none, (fun i => match Nat.beq i 42 with | true => some ([2, 5, 9], [0, 0, 2, 6, 0, 16, 62, 126, 0, 256, 768, 2047], 0) | false => match Nat.beq i 31 with | true => some ([], [0, 1, 2, 3, 4, 5, 6, 7, 8, 9, 10, 11, 12, 13, 14, 15, 16, 17, 18, 19, 20, 21, 22, 23, 24, 25, 26, 27, 28, 29, 30, 31, 32], 33) | false => none)⟩
theorem W_abacistlaw21_RingPlays.ok (x1 : Int) (A1 : Option Addr) (n1 : Nat) (m1 : Nat) (H : Hp) (K : Value → Hp → Prop) (h : W_abacistlaw21_RingPlays x1 A1 n1 m1 H K) : HCalls Tryz.prog 6 #[.int .u8 x1, .slice A1 n1 m1] H K :=
  hcalls Tryz.func6 rfl (Nat.le_of_ble_eq_true rfl) (hw_safe (Λ := (W_abacistlaw21_RingPlays.Λ K)) mixWabacistlaw21 _ _ _ _ _ (Eq.mp (by kernel_rfl) h) (obs_seq obs_region rfl (obs_seq (obs_seq obs_region rfl (obs_cond (obs_seq obs_region rfl obs_ret) obs_skip)) rfl (obs_seq (obs_seq obs_region rfl (obs_cond (obs_seq obs_region rfl obs_ret) obs_skip)) rfl (obs_seq obs_region rfl (obs_seq obs_region rfl (obs_seq (obs_seq obs_region rfl (obs_cond (obs_seq obs_region rfl obs_ret) obs_skip)) rfl (obs_seq obs_region rfl (obs_seq (obs_seq obs_region rfl (obs_cond (obs_seq obs_region rfl obs_ret) obs_skip)) rfl (obs_seq (obs_seq obs_region rfl (obs_block (obs_loop rfl (fun E D H h => by
      refine Safe.loop' (W_abacistlaw21_RingPlays.l13.L K) (fun E D H h => ?_) (fun k E D H h => ?_) E D H h
      · obtain ⟨w1, e1, g1⟩ := DG.out h; obtain ⟨A2, n2, m2, rfl, g2⟩ := DSl.out g1; obtain ⟨w5, e5, g3⟩ := DG.out g2; obtain ⟨p3, rfl, g4⟩ := DP.out g3; obtain ⟨w6, e6, g5⟩ := DG.out g4; obtain ⟨pw6, rfl, g6⟩ := DP.out g5; obtain ⟨a1, rfl, g7⟩ := NN.out g6; obtain ⟨w7, e7, g8⟩ := DG.out g7; obtain ⟨p4, rfl, g9⟩ := DP.out g8; obtain ⟨w9, e9, g10⟩ := DG.out g9; obtain ⟨x5, rfl, g11⟩ := DI.out g10; obtain ⟨rfl, h'⟩ := DNilD.out g11; exact h'
      · obtain ⟨w1, e1, g1⟩ := DG.out h
        obtain ⟨A2, n2, m2, rfl, g2⟩ := DSl.out g1
        obtain ⟨w5, e5, g3⟩ := DG.out g2
        obtain ⟨p3, rfl, g4⟩ := DP.out g3
        obtain ⟨w6, e6, g5⟩ := DG.out g4
        obtain ⟨pw6, rfl, g6⟩ := DP.out g5
        obtain ⟨a1, rfl, g7⟩ := NN.out g6
        obtain ⟨w7, e7, g8⟩ := DG.out g7
        obtain ⟨p4, rfl, g9⟩ := DP.out g8
        obtain ⟨w9, e9, g10⟩ := DG.out g9
        obtain ⟨x5, rfl, g11⟩ := DI.out g10
        obtain ⟨rfl, h'⟩ := DNilD.out g11
        exact (hw_safe (Λ := (W_abacistlaw21_RingPlays.Λ13 K (W_abacistlaw21_RingPlays.l13 K k))) mixWabacistlaw21 _ _ [(1, .slice A2 n2 m2), (5, .pointer p3), (6, .pointer (some a1)), (7, .pointer p4), (9, .int .i64 x5)] [] H (Eq.mp (by kernel_rfl) h') (obs_seq (obs_seq obs_region rfl (obs_cond obs_skip obs_exit)) rfl (obs_seq (obs_block (obs_seq obs_region rfl (obs_seq obs_region rfl (obs_seqc (obs_seq obs_region rfl (obs_block (obs_seq (obs_seq obs_region rfl (obs_cond obs_skip (obs_seq obs_region rfl (obs_cond obs_skip (obs_seq obs_region rfl (obs_cond obs_skip obs_region)))))) rfl (obs_cond (obs_seqc (obs_seq obs_region rfl (obs_cond obs_region obs_skip)) rfl (fun E D H h => by
            obtain ⟨w1, e1, g1⟩ := DG.out h
            obtain ⟨A5, n5, m5, rfl, g2⟩ := DSl.out g1
            obtain ⟨w5, e5, g3⟩ := DG.out g2
            obtain ⟨p5, rfl, g4⟩ := DP.out g3
            obtain ⟨w6, e6, g5⟩ := DG.out g4
            obtain ⟨pw6, rfl, g6⟩ := DP.out g5
            obtain ⟨a7, rfl, g7⟩ := NN.out g6
            obtain ⟨w7, e7, g8⟩ := DG.out g7
            obtain ⟨p6, rfl, g9⟩ := DP.out g8
            obtain ⟨w9, e9, g10⟩ := DG.out g9
            obtain ⟨x15, rfl, g11⟩ := DI.out g10
            obtain ⟨w10, e10, g12⟩ := DG.out g11
            obtain ⟨pw10, rfl, g13⟩ := DP.out g12
            obtain ⟨a8, rfl, g14⟩ := NN.out g13
            obtain ⟨w11, e11, g15⟩ := DG.out g14
            obtain ⟨A6, n6, m6, rfl, g16⟩ := DSl.out g15
            obtain ⟨rfl, h'⟩ := DNilD.out g16
            exact (hw_safe (Λ := (W_abacistlaw21_RingPlays.Λ13 K (W_abacistlaw21_RingPlays.l13 K k))) mixWabacistlaw21 _ _ [(1, .slice A5 n5 m5), (5, .pointer p5), (6, .pointer (some a7)), (7, .pointer p6), (9, .int .i64 x15), (10, .pointer (some a8)), (11, .slice A6 n6 m6)] [] H (Eq.mp (by kernel_rfl) h') (obs_seq obs_region rfl (obs_seq obs_region rfl (obs_seqc (obs_seq obs_region rfl (obs_cond obs_region (obs_seq obs_region rfl (obs_cond obs_region obs_skip)))) rfl (fun E D H h => by
                obtain ⟨w1, e1, g1⟩ := DG.out h
                obtain ⟨A7, n7, m7, rfl, g2⟩ := DSl.out g1
                obtain ⟨w5, e5, g3⟩ := DG.out g2
                obtain ⟨p7, rfl, g4⟩ := DP.out g3
                obtain ⟨w6, e6, g5⟩ := DG.out g4
                obtain ⟨pw6, rfl, g6⟩ := DP.out g5
                obtain ⟨a9, rfl, g7⟩ := NN.out g6
                obtain ⟨w7, e7, g8⟩ := DG.out g7
                obtain ⟨p8, rfl, g9⟩ := DP.out g8
                obtain ⟨w9, e9, g10⟩ := DG.out g9
                obtain ⟨x17, rfl, g11⟩ := DI.out g10
                obtain ⟨w10, e10, g12⟩ := DG.out g11
                obtain ⟨pw10, rfl, g13⟩ := DP.out g12
                obtain ⟨a10, rfl, g14⟩ := NN.out g13
                obtain ⟨w11, e11, g15⟩ := DG.out g14
                obtain ⟨A8, n8, m8, rfl, g16⟩ := DSl.out g15
                obtain ⟨w12, e12, g17⟩ := DG.out g16
                obtain ⟨x18, rfl, g18⟩ := DI.out g17
                obtain ⟨w13, e13, g19⟩ := DG.out g18
                obtain ⟨x19, rfl, g20⟩ := DI.out g19
                obtain ⟨rfl, h'⟩ := DNilD.out g20
                exact (hw_safe (Λ := (W_abacistlaw21_RingPlays.Λ13 K (W_abacistlaw21_RingPlays.l13 K k))) mixWabacistlaw21 _ _ [(1, .slice A7 n7 m7), (5, .pointer p7), (6, .pointer (some a9)), (7, .pointer p8), (9, .int .i64 x17), (10, .pointer (some a10)), (11, .slice A8 n8 m8), (12, .int .i64 x18), (13, .int .i64 x19)] [] H (Eq.mp (by kernel_rfl) h') (obs_seq obs_region rfl (obs_seq obs_region rfl (obs_cond (obs_seq obs_region rfl obs_ret) obs_skip)))).weaken (EnvLe.cons e1 (EnvLe.cons e5 (EnvLe.cons e6 (EnvLe.cons e7 (EnvLe.cons e9 (EnvLe.cons e10 (EnvLe.cons e11 (EnvLe.cons e12 (EnvLe.cons e13 (EnvLe.nil _)))))))))) (Hp.le_refl _)))))).weaken (EnvLe.cons e1 (EnvLe.cons e5 (EnvLe.cons e6 (EnvLe.cons e7 (EnvLe.cons e9 (EnvLe.cons e10 (EnvLe.cons e11 (EnvLe.nil _)))))))) (Hp.le_refl _))) (obs_seq obs_region rfl (obs_cond (obs_seqc obs_region rfl (fun E D H h => by
            obtain ⟨w1, e1, g1⟩ := DG.out h
            obtain ⟨A13, n13, m13, rfl, g2⟩ := DSl.out g1
            obtain ⟨w5, e5, g3⟩ := DG.out g2
            obtain ⟨p9, rfl, g4⟩ := DP.out g3
            obtain ⟨w6, e6, g5⟩ := DG.out g4
            obtain ⟨pw6, rfl, g6⟩ := DP.out g5
            obtain ⟨a17, rfl, g7⟩ := NN.out g6
            obtain ⟨w7, e7, g8⟩ := DG.out g7
            obtain ⟨p10, rfl, g9⟩ := DP.out g8
            obtain ⟨w9, e9, g10⟩ := DG.out g9
            obtain ⟨x20, rfl, g11⟩ := DI.out g10
            obtain ⟨w10, e10, g12⟩ := DG.out g11
            obtain ⟨pw10, rfl, g13⟩ := DP.out g12
            obtain ⟨a18, rfl, g14⟩ := NN.out g13
            obtain ⟨rfl, h'⟩ := DNilD.out g14
            exact (hw_safe (Λ := (W_abacistlaw21_RingPlays.Λ13 K (W_abacistlaw21_RingPlays.l13 K k))) mixWabacistlaw21 _ _ [(1, .slice A13 n13 m13), (5, .pointer p9), (6, .pointer (some a17)), (7, .pointer p10), (9, .int .i64 x20), (10, .pointer (some a18))] [] H (Eq.mp (by kernel_rfl) h') (obs_seq obs_region rfl (obs_seq obs_region rfl (obs_cond (obs_seq obs_region rfl obs_ret) obs_skip)))).weaken (EnvLe.cons e1 (EnvLe.cons e5 (EnvLe.cons e6 (EnvLe.cons e7 (EnvLe.cons e9 (EnvLe.cons e10 (EnvLe.nil _))))))) (Hp.le_refl _))) (obs_seq obs_region rfl (obs_cond (obs_seq obs_region rfl (obs_cond (obs_seq obs_region rfl obs_ret) obs_skip)) (obs_seq obs_region rfl (obs_cond obs_region obs_skip)))))))))) rfl (fun E D H h => by
            obtain ⟨w1, e1, g1⟩ := DG.out h
            obtain ⟨A47, n47, m47, rfl, g2⟩ := DSl.out g1
            obtain ⟨w5, e5, g3⟩ := DG.out g2
            obtain ⟨p11, rfl, g4⟩ := DP.out g3
            obtain ⟨w6, e6, g5⟩ := DG.out g4
            obtain ⟨pw6, rfl, g6⟩ := DP.out g5
            obtain ⟨a19, rfl, g7⟩ := NN.out g6
            obtain ⟨w7, e7, g8⟩ := DG.out g7
            obtain ⟨p12, rfl, g9⟩ := DP.out g8
            obtain ⟨w9, e9, g10⟩ := DG.out g9
            obtain ⟨x79, rfl, g11⟩ := DI.out g10
            obtain ⟨rfl, h'⟩ := DNilD.out g11
            exact (hw_safe (Λ := (W_abacistlaw21_RingPlays.Λ13 K (W_abacistlaw21_RingPlays.l13 K k))) mixWabacistlaw21 _ _ [(1, .slice A47 n47 m47), (5, .pointer p11), (6, .pointer (some a19)), (7, .pointer p12), (9, .int .i64 x79)] [] H (Eq.mp (by kernel_rfl) h') (obs_seq obs_region rfl (obs_seq obs_region rfl (obs_seq obs_region rfl (obs_seq obs_region rfl (obs_seqc (obs_seq obs_region rfl (obs_cond (obs_seq obs_region rfl obs_ret) obs_skip)) rfl (fun E D H h => by
                obtain ⟨w1, e1, g1⟩ := DG.out h
                obtain ⟨A52, n60, m52, rfl, g2⟩ := DSl.out g1
                obtain ⟨w5, e5, g3⟩ := DG.out g2
                obtain ⟨p13, rfl, g4⟩ := DP.out g3
                obtain ⟨w6, e6, g5⟩ := DG.out g4
                obtain ⟨pw6, rfl, g6⟩ := DP.out g5
                obtain ⟨a21, rfl, g7⟩ := NN.out g6
                obtain ⟨w7, e7, g8⟩ := DG.out g7
                obtain ⟨p14, rfl, g9⟩ := DP.out g8
                obtain ⟨w9, e9, g10⟩ := DG.out g9
                obtain ⟨x83, rfl, g11⟩ := DI.out g10
                obtain ⟨w18, e18, g12⟩ := DG.out g11
                obtain ⟨A53, n61, m53, rfl, g13⟩ := DSl.out g12
                obtain ⟨w21, e21, g14⟩ := DG.out g13
                obtain ⟨A54, n62, m54, rfl, g15⟩ := DSl.out g14
                obtain ⟨rfl, h'⟩ := DNilD.out g15
                exact (hw_safe (Λ := (W_abacistlaw21_RingPlays.Λ13 K (W_abacistlaw21_RingPlays.l13 K k))) mixWabacistlaw21 _ _ [(1, .slice A52 n60 m52), (5, .pointer p13), (6, .pointer (some a21)), (7, .pointer p14), (9, .int .i64 x83), (18, .slice A53 n61 m53), (21, .slice A54 n62 m54)] [] H (Eq.mp (by kernel_rfl) h') (obs_seq (obs_seq obs_region rfl (obs_block (obs_loop rfl (fun E D H h => by
                    refine Safe.loop' (W_abacistlaw21_RingPlays.l50.L K (W_abacistlaw21_RingPlays.l13 K k)) (fun E D H h => ?_) (fun k E D H h => ?_) E D H h
                    · obtain ⟨w1, e1, g1⟩ := DG.out h; obtain ⟨A55, n63, m55, rfl, g2⟩ := DSl.out g1; obtain ⟨w5, e5, g3⟩ := DG.out g2; obtain ⟨p15, rfl, g4⟩ := DP.out g3; obtain ⟨w6, e6, g5⟩ := DG.out g4; obtain ⟨pw6, rfl, g6⟩ := DP.out g5; obtain ⟨a22, rfl, g7⟩ := NN.out g6; obtain ⟨w7, e7, g8⟩ := DG.out g7; obtain ⟨p16, rfl, g9⟩ := DP.out g8; obtain ⟨w9, e9, g10⟩ := DG.out g9; obtain ⟨x84, rfl, g11⟩ := DI.out g10; obtain ⟨w18, e18, g12⟩ := DG.out g11; obtain ⟨A56, n64, m56, rfl, g13⟩ := DSl.out g12; obtain ⟨w21, e21, g14⟩ := DG.out g13; obtain ⟨A57, n65, m57, rfl, g15⟩ := DSl.out g14; obtain ⟨w26, e26, g16⟩ := DG.out g15; obtain ⟨x85, rfl, g17⟩ := DI.out g16; obtain ⟨rfl, h'⟩ := DNilD.out g17; exact h'
                    · obtain ⟨w1, e1, g1⟩ := DG.out h
                      obtain ⟨A55, n63, m55, rfl, g2⟩ := DSl.out g1
                      obtain ⟨w5, e5, g3⟩ := DG.out g2
                      obtain ⟨p15, rfl, g4⟩ := DP.out g3
                      obtain ⟨w6, e6, g5⟩ := DG.out g4
                      obtain ⟨pw6, rfl, g6⟩ := DP.out g5
                      obtain ⟨a22, rfl, g7⟩ := NN.out g6
                      obtain ⟨w7, e7, g8⟩ := DG.out g7
                      obtain ⟨p16, rfl, g9⟩ := DP.out g8
                      obtain ⟨w9, e9, g10⟩ := DG.out g9
                      obtain ⟨x84, rfl, g11⟩ := DI.out g10
                      obtain ⟨w18, e18, g12⟩ := DG.out g11
                      obtain ⟨A56, n64, m56, rfl, g13⟩ := DSl.out g12
                      obtain ⟨w21, e21, g14⟩ := DG.out g13
                      obtain ⟨A57, n65, m57, rfl, g15⟩ := DSl.out g14
                      obtain ⟨w26, e26, g16⟩ := DG.out g15
                      obtain ⟨x85, rfl, g17⟩ := DI.out g16
                      obtain ⟨rfl, h'⟩ := DNilD.out g17
                      exact (hw_safe (Λ := (W_abacistlaw21_RingPlays.Λ50 K (W_abacistlaw21_RingPlays.l13 K k) (W_abacistlaw21_RingPlays.l50 K (W_abacistlaw21_RingPlays.l13 K k) k))) mixWabacistlaw21 _ _ [(1, .slice A55 n63 m55), (5, .pointer p15), (6, .pointer (some a22)), (7, .pointer p16), (9, .int .i64 x84), (18, .slice A56 n64 m56), (21, .slice A57 n65 m57), (26, .int .i64 x85)] [] H (Eq.mp (by kernel_rfl) h') (obs_seq (obs_seq obs_region rfl (obs_cond obs_skip obs_exit)) rfl (obs_seq (obs_block (obs_seq obs_region rfl (obs_cond (obs_seq obs_region rfl obs_ret) obs_skip))) rfl obs_region))).weaken (EnvLe.cons e1 (EnvLe.cons e5 (EnvLe.cons e6 (EnvLe.cons e7 (EnvLe.cons e9 (EnvLe.cons e18 (EnvLe.cons e21 (EnvLe.cons e26 (EnvLe.nil _))))))))) (Hp.le_refl _))))) rfl (obs_seq obs_region rfl (obs_seq obs_region rfl (obs_cond (obs_seq obs_region rfl obs_ret) obs_skip))))).weaken (EnvLe.cons e1 (EnvLe.cons e5 (EnvLe.cons e6 (EnvLe.cons e7 (EnvLe.cons e9 (EnvLe.cons e18 (EnvLe.cons e21 (EnvLe.nil _)))))))) (Hp.le_refl _)))))))).weaken (EnvLe.cons e1 (EnvLe.cons e5 (EnvLe.cons e6 (EnvLe.cons e7 (EnvLe.cons e9 (EnvLe.nil _)))))) (Hp.le_refl _)))))) rfl obs_region))).weaken (EnvLe.cons e1 (EnvLe.cons e5 (EnvLe.cons e6 (EnvLe.cons e7 (EnvLe.cons e9 (EnvLe.nil _)))))) (Hp.le_refl _))))) rfl (obs_seq obs_region rfl obs_ret)))))))))))

-- abacistlaw21.awake
def W_abacistlaw21_awake (H : Hp) (K : Value → Hp → Prop) : Prop :=
  HCalls Tryz.prog 23 #[.int .i64 (10 : Int), .int .i64 (32 : Int)] H fun v1 H1 => DP v1 fun p1 => BIf p1.isNone (K (.bool false) H1) (HCalls Tryz.prog 24 #[.pointer p1, .agg #[.int .i64 (1 : Int), .int .i64 (3 : Int), .int .i64 (0 : Int)]] H1 fun v2 H2 => DTup v2 fun l1 => DCons l1 fun v3 l2 => DP v3 fun p2 => DCons l2 fun v4 l3 => DI .i64 v4 fun x1 => DNil l3 (Nw H2 (.obj (.cells #[.int .u64 (0 : Int), .int .i64 (0 : Int), .int .i64 (0 : Int), .int .i64 (0 : Int), .int .i64 (0 : Int), .int .u32 (0 : Int), .int .u32 (0 : Int), .int .u32 (0 : Int)] 91)) fun b1 H3 => StA H3 (⟨b1, 0, none⟩ : Addr) #[.int .u64 (1 : Int), .int .i64 (1 : Int), .int .i64 (2 : Int), .int .i64 (0 : Int), .int .i64 (0 : Int), .int .u32 (1 : Int), .int .u32 (0 : Int), .int .u32 (0 : Int)] 8 fun H4 => BIf p2.isNone (K (.bool false) H4) (BIf (x1 != (0 : Int)) (K (.bool false) H4) (LdA H4 (⟨b1, 0, none⟩ : Addr) 8 fun l4 => HCalls Tryz.prog 28 #[.pointer p2, .agg l4.toArray] H4 fun v5 H5 => DI .i64 v5 fun x2 => BIf (x2 != (0 : Int)) (K (.bool false) H5) (NN p1 fun a1 => HCalls Tryz.prog 30 #[.pointer (some (a1.add 7))] H5 fun v6 H6 => HCalls Tryz.prog 31 #[.pointer p1, .slice none 0 0] H6 fun v7 H7 => DI .i64 v7 fun x3 => HCalls Tryz.prog 32 #[.pointer p2] H7 fun v8 H8 => DTup v8 fun l5 => DCons l5 fun v9 l6 => DA v9 fun y1 => DCons l6 fun v10 l7 => DB v10 fun c1 => DCons l7 fun v11 l8 => DI .i64 v11 fun x4 => DNil l8 (Nw H8 (.obj (.cells #[.int .u64 (0 : Int), .int .i64 (0 : Int), .int .i64 (0 : Int), .int .i64 (0 : Int), .int .i64 (0 : Int), .int .u32 (0 : Int), .int .u32 (0 : Int), .int .u32 (0 : Int)] 91)) fun b2 H9 => StA H9 (⟨b2, 0, none⟩ : Addr) y1 8 fun H10 => BIf c1 (BIf (x4 == (0 : Int)) (LdA H10 (⟨b2, 0, none⟩ : Addr) 8 fun l9 => LdA H10 (⟨b1, 0, none⟩ : Addr) 8 fun l10 => EqV Tryz.prog .eql 91 (.agg l9.toArray) (.agg l10.toArray) fun c2 => K (.bool c2) H10) (K (.bool false) H10)) (K (.bool false) H10)))))))
def W_abacistlaw21_awake.Λ (_ : Value → Hp → Prop) : Cuts := Cuts.none (fun _ => none)
theorem W_abacistlaw21_awake.ok (H : Hp) (K : Value → Hp → Prop) (h : W_abacistlaw21_awake H K) : HCalls Tryz.prog 22 #[] H K :=
  hcalls Tryz.func22 rfl (Nat.le_of_ble_eq_true rfl) (hw_safe (Λ := Cuts.none (fun _ => none)) mixWabacistlaw21 _ _ _ _ _ (Eq.mp (by kernel_rfl) h) (obs_none _ _ _ _ _))

-- abacistlaw21.few
def W_abacistlaw21_few.l4 (K : Value → Hp → Prop) : Nat → Option Addr → Nat → Nat → Int → Hp → Prop
  | 0, _, _, _, _, _ => False
  | k + 1, A2, n2, m2, x1, H =>
    let R4 := W_abacistlaw21_few.l4 K k
    BIf (decide (x1 < ((n2 : Nat) : Int))) (ixI x1 n2 (NN A2 fun a1 => Ld H ((a1.add (x1.toNat * 12)).add 10) fun v1 => DSl v1 fun A3 n3 m3 => BIf (decide (((n3 : Nat) : Int) > (20 : Int))) (K (.bool false) H) (ixI x1 n2 (NN A2 fun a2 => Ld H ((a2.add (x1.toNat * 12)).add 11) fun v2 => DSl v2 fun A4 n4 m4 => BIf (decide (((n4 : Nat) : Int) > (100 : Int))) (K (.bool false) H) (R4 A2 n2 m2 (IntKind.i64.wrap (x1 + (1 : Int))) H))))) (K (.bool true) H)
def W_abacistlaw21_few (A1 : Option Addr) (n1 : Nat) (m1 : Nat) (H : Hp) (K : Value → Hp → Prop) : Prop :=
  BIf (decide (((n1 : Nat) : Int) > (30 : Int))) (K (.bool false) H) ((∃ k, W_abacistlaw21_few.l4 K k A1 n1 m1 (0 : Int) H))
def W_abacistlaw21_few.l4.L (K : Value → Hp → Prop) (k : Nat) : Mid := fun E D H =>
  DG (E.get? 0) fun w0 => DSl w0 fun A2 n2 m2 => DG (E.get? 3) fun w3 => DI .i64 w3 fun x1 => DNilD D (W_abacistlaw21_few.l4 K k A2 n2 m2 x1 H)
def W_abacistlaw21_few.Λ4 (_ : Value → Hp → Prop) (_R4 : Option Addr → Nat → Nat → Int → Hp → Prop) : Cuts := Cuts.none (fun _ => none)
def W_abacistlaw21_few.Λ (K : Value → Hp → Prop) : Cuts := ⟨fun i => none, fun i => match Nat.beq i 4 with | true => some (fun E D H => ∃ k, W_abacistlaw21_few.l4.L K k E D H) | false => none, (fun _ => none)⟩
theorem W_abacistlaw21_few.ok (A1 : Option Addr) (n1 : Nat) (m1 : Nat) (H : Hp) (K : Value → Hp → Prop) (h : W_abacistlaw21_few A1 n1 m1 H K) : HCalls Tryz.prog 26 #[.slice A1 n1 m1] H K :=
  hcalls Tryz.func26 rfl (Nat.le_of_ble_eq_true rfl) (hw_safe (Λ := (W_abacistlaw21_few.Λ K)) mixWabacistlaw21 _ _ _ _ _ (Eq.mp (by kernel_rfl) h) (obs_seq obs_region rfl (obs_seq (obs_seq obs_region rfl (obs_cond (obs_seq obs_region rfl obs_ret) obs_skip)) rfl (obs_seq (obs_seq obs_region rfl (obs_block (obs_loop rfl (fun E D H h => by
      refine Safe.loop' (W_abacistlaw21_few.l4.L K) (fun E D H h => ?_) (fun k E D H h => ?_) E D H h
      · obtain ⟨w0, e0, g1⟩ := DG.out h; obtain ⟨A2, n2, m2, rfl, g2⟩ := DSl.out g1; obtain ⟨w3, e3, g3⟩ := DG.out g2; obtain ⟨x1, rfl, g4⟩ := DI.out g3; obtain ⟨rfl, h'⟩ := DNilD.out g4; exact h'
      · obtain ⟨w0, e0, g1⟩ := DG.out h
        obtain ⟨A2, n2, m2, rfl, g2⟩ := DSl.out g1
        obtain ⟨w3, e3, g3⟩ := DG.out g2
        obtain ⟨x1, rfl, g4⟩ := DI.out g3
        obtain ⟨rfl, h'⟩ := DNilD.out g4
        exact (hw_safe (Λ := (W_abacistlaw21_few.Λ4 K (W_abacistlaw21_few.l4 K k))) mixWabacistlaw21 _ _ [(0, .slice A2 n2 m2), (3, .int .i64 x1)] [] H (Eq.mp (by kernel_rfl) h') (obs_seq (obs_seq obs_region rfl (obs_cond obs_skip obs_exit)) rfl (obs_seq (obs_block (obs_seq obs_region rfl (obs_cond (obs_seq obs_region rfl obs_ret) obs_skip))) rfl obs_region))).weaken (EnvLe.cons e0 (EnvLe.cons e3 (EnvLe.nil _))) (Hp.le_refl _))))) rfl (obs_seq obs_region rfl obs_ret)))))

-- abacistlaw21.stands
def W_abacistlaw21_stands.j10 (K : Value → Hp → Prop) (R3 : Option Addr → Nat → Nat → Option Addr → Nat → Nat → Int → Hp → Prop) (A6 : Option Addr) (n6 : Nat) (m6 : Nat) (A7 : Option Addr) (n7 : Nat) (m7 : Nat) (x8 : Int) (a4 : Addr) (x9 : Int) (H : Hp) : Prop :=
  slB n7 m7 none (some x9) fun n8 n9 => slB n7 m7 (some x9) none fun n10 n11 => (Nw H (.row [] 91 0) fun b2 H4 => (AppK Tryz.prog 91 (.slice (some ⟨b2, 0, none⟩) 0 0) (.slice (slA A7 m7 n8 8) (n9 - n8) (m7 - n8)) H4 fun v8 H5 => DSl v8 fun A8 n12 m8 => LdA H5 a4 8 fun l4 => DCons l4.toArray.toList fun v9 l5 => DI .u64 v9 fun x10 => DCons l5 fun v10 l6 => DI .i64 v10 fun x11 => DCons l6 fun v11 l7 => DI .i64 v11 fun x12 => DCons l7 fun v12 l8 => DI .i64 v12 fun x13 => DCons l8 fun v13 l9 => DI .i64 v13 fun x14 => DCons l9 fun v14 l10 => DI .u32 v14 fun x15 => DCons l10 fun v15 l11 => DI .u32 v15 fun x16 => DCons l11 fun v16 l12 => DI .u32 v16 fun x17 => DNil l12 (Nw H5 (.row [.int .u64 x10, .int .i64 x11, .int .i64 x12, .int .i64 x13, .int .i64 x14, .int .u32 x15, .int .u32 x16, .int .u32 x17] 91 8) fun b3 H6 => AppK Tryz.prog 91 (.slice A8 n12 m8) (.slice (some ⟨b3, 0, none⟩) 1 1) H6 fun v17 H7 => DSl v17 fun A9 n13 m9 => AppK Tryz.prog 91 (.slice A9 n13 m9) (.slice (slA A7 m7 n10 8) (n11 - n10) (m7 - n10)) H7 fun v18 H8 => DSl v18 fun A10 n14 m10 => R3 A6 n6 m6 A10 n14 m10 (IntKind.i64.wrap (x8 + (1 : Int))) H8)) ∧ (LdA H4 a4 8 fun l13 => (AppK Tryz.prog 91 (.slice (some ⟨b2, 0, none⟩) 0 0) (.slice (slA A7 m7 n8 8) (n9 - n8) (m7 - n8)) H4 fun v19 H9 => DSl v19 fun A11 n15 m11 => DCons l13.toArray.toList fun v20 l14 => DI .u64 v20 fun x18 => DCons l14 fun v21 l15 => DI .i64 v21 fun x19 => DCons l15 fun v22 l16 => DI .i64 v22 fun x20 => DCons l16 fun v23 l17 => DI .i64 v23 fun x21 => DCons l17 fun v24 l18 => DI .i64 v24 fun x22 => DCons l18 fun v25 l19 => DI .u32 v25 fun x23 => DCons l19 fun v26 l20 => DI .u32 v26 fun x24 => DCons l20 fun v27 l21 => DI .u32 v27 fun x25 => DNil l21 (Nw H9 (.row [.int .u64 x18, .int .i64 x19, .int .i64 x20, .int .i64 x21, .int .i64 x22, .int .u32 x23, .int .u32 x24, .int .u32 x25] 91 8) fun b4 H10 => AppK Tryz.prog 91 (.slice A11 n15 m11) (.slice (some ⟨b4, 0, none⟩) 1 1) H10 fun v28 H11 => DSl v28 fun A12 n16 m12 => AppK Tryz.prog 91 (.slice A12 n16 m12) (.slice (slA A7 m7 n10 8) (n11 - n10) (m7 - n10)) H11 fun v29 H12 => DSl v29 fun A13 n17 m13 => R3 A6 n6 m6 A13 n17 m13 (IntKind.i64.wrap (x8 + (1 : Int))) H12)) ∧ (DCons l13.toArray.toList fun v30 l22 => DI .u64 v30 fun x26 => DCons l22 fun v31 l23 => DI .i64 v31 fun x27 => DCons l23 fun v32 l24 => DI .i64 v32 fun x28 => DCons l24 fun v33 l25 => DI .i64 v33 fun x29 => DCons l25 fun v34 l26 => DI .i64 v34 fun x30 => DCons l26 fun v35 l27 => DI .u32 v35 fun x31 => DCons l27 fun v36 l28 => DI .u32 v36 fun x32 => DCons l28 fun v37 l29 => DI .u32 v37 fun x33 => DNil l29 (Nw H4 (.row [.int .u64 x26, .int .i64 x27, .int .i64 x28, .int .i64 x29, .int .i64 x30, .int .u32 x31, .int .u32 x32, .int .u32 x33] 91 8) fun b5 H13 => AppK Tryz.prog 91 (.slice (some ⟨b2, 0, none⟩) 0 0) (.slice (slA A7 m7 n8 8) (n9 - n8) (m7 - n8)) H13 fun v38 H14 => DSl v38 fun A14 n18 m14 => AppK Tryz.prog 91 (.slice A14 n18 m14) (.slice (some ⟨b5, 0, none⟩) 1 1) H14 fun v39 H15 => DSl v39 fun A15 n19 m15 => AppK Tryz.prog 91 (.slice A15 n19 m15) (.slice (slA A7 m7 n10 8) (n11 - n10) (m7 - n10)) H15 fun v40 H16 => DSl v40 fun A16 n20 m16 => R3 A6 n6 m6 A16 n20 m16 (IntKind.i64.wrap (x8 + (1 : Int))) H16)))) ∧ (LdA H a4 8 fun l30 => (Nw H (.row [] 91 0) fun b6 H17 => (AppK Tryz.prog 91 (.slice (some ⟨b6, 0, none⟩) 0 0) (.slice (slA A7 m7 n8 8) (n9 - n8) (m7 - n8)) H17 fun v41 H18 => DSl v41 fun A17 n21 m17 => DCons l30.toArray.toList fun v42 l31 => DI .u64 v42 fun x34 => DCons l31 fun v43 l32 => DI .i64 v43 fun x35 => DCons l32 fun v44 l33 => DI .i64 v44 fun x36 => DCons l33 fun v45 l34 => DI .i64 v45 fun x37 => DCons l34 fun v46 l35 => DI .i64 v46 fun x38 => DCons l35 fun v47 l36 => DI .u32 v47 fun x39 => DCons l36 fun v48 l37 => DI .u32 v48 fun x40 => DCons l37 fun v49 l38 => DI .u32 v49 fun x41 => DNil l38 (Nw H18 (.row [.int .u64 x34, .int .i64 x35, .int .i64 x36, .int .i64 x37, .int .i64 x38, .int .u32 x39, .int .u32 x40, .int .u32 x41] 91 8) fun b7 H19 => AppK Tryz.prog 91 (.slice A17 n21 m17) (.slice (some ⟨b7, 0, none⟩) 1 1) H19 fun v50 H20 => DSl v50 fun A18 n22 m18 => AppK Tryz.prog 91 (.slice A18 n22 m18) (.slice (slA A7 m7 n10 8) (n11 - n10) (m7 - n10)) H20 fun v51 H21 => DSl v51 fun A19 n23 m19 => R3 A6 n6 m6 A19 n23 m19 (IntKind.i64.wrap (x8 + (1 : Int))) H21)) ∧ (DCons l30.toArray.toList fun v52 l39 => DI .u64 v52 fun x42 => DCons l39 fun v53 l40 => DI .i64 v53 fun x43 => DCons l40 fun v54 l41 => DI .i64 v54 fun x44 => DCons l41 fun v55 l42 => DI .i64 v55 fun x45 => DCons l42 fun v56 l43 => DI .i64 v56 fun x46 => DCons l43 fun v57 l44 => DI .u32 v57 fun x47 => DCons l44 fun v58 l45 => DI .u32 v58 fun x48 => DCons l45 fun v59 l46 => DI .u32 v59 fun x49 => DNil l46 (Nw H17 (.row [.int .u64 x42, .int .i64 x43, .int .i64 x44, .int .i64 x45, .int .i64 x46, .int .u32 x47, .int .u32 x48, .int .u32 x49] 91 8) fun b8 H22 => AppK Tryz.prog 91 (.slice (some ⟨b6, 0, none⟩) 0 0) (.slice (slA A7 m7 n8 8) (n9 - n8) (m7 - n8)) H22 fun v60 H23 => DSl v60 fun A20 n24 m20 => AppK Tryz.prog 91 (.slice A20 n24 m20) (.slice (some ⟨b8, 0, none⟩) 1 1) H23 fun v61 H24 => DSl v61 fun A21 n25 m21 => AppK Tryz.prog 91 (.slice A21 n25 m21) (.slice (slA A7 m7 n10 8) (n11 - n10) (m7 - n10)) H24 fun v62 H25 => DSl v62 fun A22 n26 m22 => R3 A6 n6 m6 A22 n26 m22 (IntKind.i64.wrap (x8 + (1 : Int))) H25))) ∧ (DCons l30.toArray.toList fun v63 l47 => DI .u64 v63 fun x50 => DCons l47 fun v64 l48 => DI .i64 v64 fun x51 => DCons l48 fun v65 l49 => DI .i64 v65 fun x52 => DCons l49 fun v66 l50 => DI .i64 v66 fun x53 => DCons l50 fun v67 l51 => DI .i64 v67 fun x54 => DCons l51 fun v68 l52 => DI .u32 v68 fun x55 => DCons l52 fun v69 l53 => DI .u32 v69 fun x56 => DCons l53 fun v70 l54 => DI .u32 v70 fun x57 => DNil l54 (Nw H (.row [.int .u64 x50, .int .i64 x51, .int .i64 x52, .int .i64 x53, .int .i64 x54, .int .u32 x55, .int .u32 x56, .int .u32 x57] 91 8) fun b9 H26 => Nw H26 (.row [] 91 0) fun b10 H27 => AppK Tryz.prog 91 (.slice (some ⟨b10, 0, none⟩) 0 0) (.slice (slA A7 m7 n8 8) (n9 - n8) (m7 - n8)) H27 fun v71 H28 => DSl v71 fun A23 n27 m23 => AppK Tryz.prog 91 (.slice A23 n27 m23) (.slice (some ⟨b9, 0, none⟩) 1 1) H28 fun v72 H29 => DSl v72 fun A24 n28 m24 => AppK Tryz.prog 91 (.slice A24 n28 m24) (.slice (slA A7 m7 n10 8) (n11 - n10) (m7 - n10)) H29 fun v73 H30 => DSl v73 fun A25 n29 m25 => R3 A6 n6 m6 A25 n29 m25 (IntKind.i64.wrap (x8 + (1 : Int))) H30)))
def W_abacistlaw21_stands.l8 (K : Value → Hp → Prop) (R3 : Option Addr → Nat → Nat → Option Addr → Nat → Nat → Int → Hp → Prop) : Nat → Option Addr → Nat → Nat → Option Addr → Nat → Nat → Int → Addr → Int → Hp → Prop
  | 0, _, _, _, _, _, _, _, _, _, _ => False
  | k + 1, A4, n4, m4, A5, n5, m5, x4, a2, x5, H =>
    let R8 := W_abacistlaw21_stands.l8 K R3 k
    BIf (decide (x5 < ((n5 : Nat) : Int))) (ixI x5 n5 (NN A5 fun a3 => Ld H ((a3.add (x5.toNat * 8)).add 0) fun v6 => DI .u64 v6 fun x6 => Ld H (a2.add 0) fun v7 => DI .u64 v7 fun x7 => BIf (decide (x6 < x7)) (R8 A4 n4 m4 A5 n5 m5 x4 a2 (IntKind.i64.wrap (x5 + (1 : Int))) H) (W_abacistlaw21_stands.j10 K R3 A4 n4 m4 A5 n5 m5 x4 a2 x5 H))) (W_abacistlaw21_stands.j10 K R3 A4 n4 m4 A5 n5 m5 x4 a2 x5 H)
def W_abacistlaw21_stands.l3 (K : Value → Hp → Prop) : Nat → Option Addr → Nat → Nat → Option Addr → Nat → Nat → Int → Hp → Prop
  | 0, _, _, _, _, _, _, _, _ => False
  | k + 1, A2, n2, m2, A3, n3, m3, x1, H =>
    let R3 := W_abacistlaw21_stands.l3 K k
    BIf (decide (x1 < ((n2 : Nat) : Int))) (ixI x1 n2 (NN A2 fun a1 => Ld H (a1.add (x1.toNat * 1)) fun v1 => DS v1 fun s1 => HCalls Tryz.prog 80 #[.string s1] H fun v2 H1 => DTup v2 fun l1 => DCons l1 fun v3 l2 => DA v3 fun y1 => DCons l2 fun v4 l3 => DI .i64 v4 fun x2 => DNil l3 (Nw H1 (.obj (.cells #[.int .u64 (0 : Int), .int .i64 (0 : Int), .int .i64 (0 : Int), .int .i64 (0 : Int), .int .i64 (0 : Int), .int .u32 (0 : Int), .int .u32 (0 : Int), .int .u32 (0 : Int)] 91)) fun b1 H2 => StA H2 (⟨b1, 0, none⟩ : Addr) y1 8 fun H3 => BIf (x2 != (0 : Int)) (R3 A2 n2 m2 A3 n3 m3 (IntKind.i64.wrap (x1 + (1 : Int))) H3) (Ld H3 ((⟨b1, 0, none⟩ : Addr).add 0) fun v5 => DI .u64 v5 fun x3 => ((IntKind.u64.wrap ((n2 : Nat) : Int)) ≠ 0 ∧ IntKind.u64 = IntKind.u64 ∧ BIf ((IntKind.i64.wrap (Int.tmod (IntKind.u64.wrap (x3 - (1 : Int))) (IntKind.u64.wrap ((n2 : Nat) : Int)))) != x1) (R3 A2 n2 m2 A3 n3 m3 (IntKind.i64.wrap (x1 + (1 : Int))) H3) ((∃ k, W_abacistlaw21_stands.l8 K R3 k A2 n2 m2 A3 n3 m3 x1 (⟨b1, 0, none⟩ : Addr) (0 : Int) H3))))))) (K (.slice A3 n3 m3) H)
def W_abacistlaw21_stands (A1 : Option Addr) (n1 : Nat) (m1 : Nat) (H : Hp) (K : Value → Hp → Prop) : Prop :=
  (∃ k, W_abacistlaw21_stands.l3 K k A1 n1 m1 none 0 0 (0 : Int) H)
def W_abacistlaw21_stands.l3.L (K : Value → Hp → Prop) (k : Nat) : Mid := fun E D H =>
  DG (E.get? 0) fun w0 => DSl w0 fun A2 n2 m2 => DG (E.get? 3) fun w3 => DSl w3 fun A3 n3 m3 => DG (E.get? 4) fun w4 => DI .i64 w4 fun x1 => DNilD D (W_abacistlaw21_stands.l3 K k A2 n2 m2 A3 n3 m3 x1 H)
def W_abacistlaw21_stands.l8.L (K : Value → Hp → Prop) (R3 : Option Addr → Nat → Nat → Option Addr → Nat → Nat → Int → Hp → Prop) (k : Nat) : Mid := fun E D H =>
  DG (E.get? 0) fun w0 => DSl w0 fun A4 n4 m4 => DG (E.get? 3) fun w3 => DSl w3 fun A5 n5 m5 => DG (E.get? 4) fun w4 => DI .i64 w4 fun x4 => DG (E.get? 5) fun w5 => DP w5 fun pw5 => NN pw5 fun a2 => DG (E.get? 7) fun w7 => DI .i64 w7 fun x5 => DNilD D (W_abacistlaw21_stands.l8 K R3 k A4 n4 m4 A5 n5 m5 x4 a2 x5 H)
def W_abacistlaw21_stands.Λ8 (_ : Value → Hp → Prop) (_R3 : Option Addr → Nat → Nat → Option Addr → Nat → Nat → Int → Hp → Prop) (_R8 : Option Addr → Nat → Nat → Option Addr → Nat → Nat → Int → Addr → Int → Hp → Prop) : Cuts := Cuts.none (fun i => match Nat.beq i 10 with | true => some ([], [0, 0, 0, 6, 15, 0, 32, 127, 0, 0, 768, 2047, 4095], 0) | false => none)
def W_abacistlaw21_stands.Λ3 (K : Value → Hp → Prop) (R3 : Option Addr → Nat → Nat → Option Addr → Nat → Nat → Int → Hp → Prop) : Cuts := ⟨fun i => match Nat.beq i 10 with | true => some (fun E D H => DG (E.get? 0) fun w0 => DSl w0 fun A6 n6 m6 => DG (E.get? 3) fun w3 => DSl w3 fun A7 n7 m7 => DG (E.get? 4) fun w4 => DI .i64 w4 fun x8 => DG (E.get? 5) fun w5 => DP w5 fun pw5 => NN pw5 fun a4 => DG (E.get? 7) fun w7 => DI .i64 w7 fun x9 => DNilD D (W_abacistlaw21_stands.j10 K R3 A6 n6 m6 A7 n7 m7 x8 a4 x9 H)) | false => none, fun i => match Nat.beq i 8 with | true => some (fun E D H => ∃ k, W_abacistlaw21_stands.l8.L K R3 k E D H) | false => none, (fun i => match Nat.beq i 10 with | true => some ([], [0, 0, 0, 6, 15, 0, 32, 127, 0, 0, 768, 2047, 4095], 0) | false => none)⟩
def W_abacistlaw21_stands.Λ (K : Value → Hp → Prop) : Cuts := ⟨fun i => none, fun i => match Nat.beq i 3 with | true => some (fun E D H => ∃ k, W_abacistlaw21_stands.l3.L K k E D H) | false => none, (fun i => match Nat.beq i 10 with | true => some ([], [0, 0, 0, 6, 15, 0, 32, 127, 0, 0, 768, 2047, 4095], 0) | false => none)⟩
theorem W_abacistlaw21_stands.ok (A1 : Option Addr) (n1 : Nat) (m1 : Nat) (H : Hp) (K : Value → Hp → Prop) (h : W_abacistlaw21_stands A1 n1 m1 H K) : HCalls Tryz.prog 35 #[.slice A1 n1 m1] H K :=
  hcalls Tryz.func35 rfl (Nat.le_of_ble_eq_true rfl) (hw_safe (Λ := (W_abacistlaw21_stands.Λ K)) mixWabacistlaw21 _ _ _ _ _ (Eq.mp (by kernel_rfl) h) (obs_seq obs_region rfl (obs_seq obs_region rfl (obs_seq (obs_seq obs_region rfl (obs_block (obs_loop rfl (fun E D H h => by
      refine Safe.loop' (W_abacistlaw21_stands.l3.L K) (fun E D H h => ?_) (fun k E D H h => ?_) E D H h
      · obtain ⟨w0, e0, g1⟩ := DG.out h; obtain ⟨A2, n2, m2, rfl, g2⟩ := DSl.out g1; obtain ⟨w3, e3, g3⟩ := DG.out g2; obtain ⟨A3, n3, m3, rfl, g4⟩ := DSl.out g3; obtain ⟨w4, e4, g5⟩ := DG.out g4; obtain ⟨x1, rfl, g6⟩ := DI.out g5; obtain ⟨rfl, h'⟩ := DNilD.out g6; exact h'
      · obtain ⟨w0, e0, g1⟩ := DG.out h
        obtain ⟨A2, n2, m2, rfl, g2⟩ := DSl.out g1
        obtain ⟨w3, e3, g3⟩ := DG.out g2
        obtain ⟨A3, n3, m3, rfl, g4⟩ := DSl.out g3
        obtain ⟨w4, e4, g5⟩ := DG.out g4
        obtain ⟨x1, rfl, g6⟩ := DI.out g5
        obtain ⟨rfl, h'⟩ := DNilD.out g6
        exact (hw_safe (Λ := (W_abacistlaw21_stands.Λ3 K (W_abacistlaw21_stands.l3 K k))) mixWabacistlaw21 _ _ [(0, .slice A2 n2 m2), (3, .slice A3 n3 m3), (4, .int .i64 x1)] [] H (Eq.mp (by kernel_rfl) h') (obs_seq (obs_seq obs_region rfl (obs_cond obs_skip obs_exit)) rfl (obs_seq (obs_block (obs_seq obs_region rfl (obs_seq (obs_seq obs_region rfl (obs_cond obs_exit obs_skip)) rfl (obs_seq obs_region rfl (obs_seqc (obs_block (obs_loop rfl (fun E D H h => by
            refine Safe.loop' (W_abacistlaw21_stands.l8.L K (W_abacistlaw21_stands.l3 K k)) (fun E D H h => ?_) (fun k E D H h => ?_) E D H h
            · obtain ⟨w0, e0, g1⟩ := DG.out h; obtain ⟨A4, n4, m4, rfl, g2⟩ := DSl.out g1; obtain ⟨w3, e3, g3⟩ := DG.out g2; obtain ⟨A5, n5, m5, rfl, g4⟩ := DSl.out g3; obtain ⟨w4, e4, g5⟩ := DG.out g4; obtain ⟨x4, rfl, g6⟩ := DI.out g5; obtain ⟨w5, e5, g7⟩ := DG.out g6; obtain ⟨pw5, rfl, g8⟩ := DP.out g7; obtain ⟨a2, rfl, g9⟩ := NN.out g8; obtain ⟨w7, e7, g10⟩ := DG.out g9; obtain ⟨x5, rfl, g11⟩ := DI.out g10; obtain ⟨rfl, h'⟩ := DNilD.out g11; exact h'
            · obtain ⟨w0, e0, g1⟩ := DG.out h
              obtain ⟨A4, n4, m4, rfl, g2⟩ := DSl.out g1
              obtain ⟨w3, e3, g3⟩ := DG.out g2
              obtain ⟨A5, n5, m5, rfl, g4⟩ := DSl.out g3
              obtain ⟨w4, e4, g5⟩ := DG.out g4
              obtain ⟨x4, rfl, g6⟩ := DI.out g5
              obtain ⟨w5, e5, g7⟩ := DG.out g6
              obtain ⟨pw5, rfl, g8⟩ := DP.out g7
              obtain ⟨a2, rfl, g9⟩ := NN.out g8
              obtain ⟨w7, e7, g10⟩ := DG.out g9
              obtain ⟨x5, rfl, g11⟩ := DI.out g10
              obtain ⟨rfl, h'⟩ := DNilD.out g11
              exact (hw_safe (Λ := (W_abacistlaw21_stands.Λ8 K (W_abacistlaw21_stands.l3 K k) (W_abacistlaw21_stands.l8 K (W_abacistlaw21_stands.l3 K k) k))) mixWabacistlaw21 _ _ [(0, .slice A4 n4 m4), (3, .slice A5 n5 m5), (4, .int .i64 x4), (5, .pointer (some a2)), (7, .int .i64 x5)] [] H (Eq.mp (by kernel_rfl) h') (obs_seq (obs_seq obs_region rfl (obs_cond obs_skip obs_exit)) rfl (obs_block obs_region))).weaken (EnvLe.cons e0 (EnvLe.cons e3 (EnvLe.cons e4 (EnvLe.cons e5 (EnvLe.cons e7 (EnvLe.nil _)))))) (Hp.le_refl _)))) rfl (fun E D H h => by
            obtain ⟨w0, e0, g1⟩ := DG.out h
            obtain ⟨A6, n6, m6, rfl, g2⟩ := DSl.out g1
            obtain ⟨w3, e3, g3⟩ := DG.out g2
            obtain ⟨A7, n7, m7, rfl, g4⟩ := DSl.out g3
            obtain ⟨w4, e4, g5⟩ := DG.out g4
            obtain ⟨x8, rfl, g6⟩ := DI.out g5
            obtain ⟨w5, e5, g7⟩ := DG.out g6
            obtain ⟨pw5, rfl, g8⟩ := DP.out g7
            obtain ⟨a4, rfl, g9⟩ := NN.out g8
            obtain ⟨w7, e7, g10⟩ := DG.out g9
            obtain ⟨x9, rfl, g11⟩ := DI.out g10
            obtain ⟨rfl, h'⟩ := DNilD.out g11
            exact (hw_safe (Λ := (W_abacistlaw21_stands.Λ3 K (W_abacistlaw21_stands.l3 K k))) mixWabacistlaw21 _ _ [(0, .slice A6 n6 m6), (3, .slice A7 n7 m7), (4, .int .i64 x8), (5, .pointer (some a4)), (7, .int .i64 x9)] [] H (Eq.mp (by kernel_rfl) h') obs_region).weaken (EnvLe.cons e0 (EnvLe.cons e3 (EnvLe.cons e4 (EnvLe.cons e5 (EnvLe.cons e7 (EnvLe.nil _)))))) (Hp.le_refl _))))))) rfl obs_region))).weaken (EnvLe.cons e0 (EnvLe.cons e3 (EnvLe.cons e4 (EnvLe.nil _)))) (Hp.le_refl _))))) rfl (obs_seq obs_region rfl obs_ret)))))

-- abacistlaw21.slots
def W_abacistlaw21_slots.l3 (K : Value → Hp → Prop) : Nat → Option Addr → Addr → Option Addr → Nat → Nat → Int → Hp → Prop
  | 0, _, _, _, _, _, _, _ => False
  | k + 1, p2, a1, A1, n1, m1, x4, H =>
    let R3 := W_abacistlaw21_slots.l3 K k
    Ld H (a1.add 1) fun v1 => DI .i64 v1 fun x5 => BIf (decide (x4 < x5)) (Ld H (a1.add 0) fun v2 => DI .i64 v2 fun x6 => HCalls Tryz.prog 71 #[.pointer p2, .int .i64 (IntKind.i64.wrap (x6 + x4))] H fun v3 H2 => DTup v3 fun l1 => DCons l1 fun v4 l2 => DSl v4 fun A2 n2 m2 => DCons l2 fun v5 l3 => DI .i64 v5 fun x7 => DNil l3 (BsK H2 A2 n2 fun s1 => Nw H2 (.row [.string s1] 9 1) fun b2 H3 => AppK Tryz.prog 9 (.slice A1 n1 m1) (.slice (some ⟨b2, 0, none⟩) 1 1) H3 fun v6 H4 => DSl v6 fun A3 n3 m3 => R3 p2 a1 A3 n3 m3 (IntKind.i64.wrap (x4 + (1 : Int))) H4)) (K (.slice A1 n1 m1) H)
def W_abacistlaw21_slots (p1 : Option Addr) (x1 : Int) (x2 : Int) (x3 : Int) (H : Hp) (K : Value → Hp → Prop) : Prop :=
  Nw H (.obj (.cells #[.int .i64 x1, .int .i64 x2, .int .i64 x3] 30)) fun b1 H1 => (∃ k, W_abacistlaw21_slots.l3 K k p1 (⟨b1, 0, none⟩ : Addr) none 0 0 (0 : Int) H1)
def W_abacistlaw21_slots.l3.L (K : Value → Hp → Prop) (k : Nat) : Mid := fun E D H =>
  DG (E.get? 0) fun w0 => DP w0 fun p2 => DG (E.get? 3) fun w3 => DP w3 fun pw3 => NN pw3 fun a1 => DG (E.get? 5) fun w5 => DSl w5 fun A1 n1 m1 => DG (E.get? 6) fun w6 => DI .i64 w6 fun x4 => DNilD D (W_abacistlaw21_slots.l3 K k p2 a1 A1 n1 m1 x4 H)
def W_abacistlaw21_slots.Λ3 (_ : Value → Hp → Prop) (_R3 : Option Addr → Addr → Option Addr → Nat → Nat → Int → Hp → Prop) : Cuts := Cuts.none (fun _ => none)
def W_abacistlaw21_slots.Λ (K : Value → Hp → Prop) : Cuts := ⟨fun i => none, fun i => match Nat.beq i 3 with | true => some (fun E D H => ∃ k, W_abacistlaw21_slots.l3.L K k E D H) | false => none, (fun _ => none)⟩
theorem W_abacistlaw21_slots.ok (p1 : Option Addr) (x1 : Int) (x2 : Int) (x3 : Int) (H : Hp) (K : Value → Hp → Prop) (h : W_abacistlaw21_slots p1 x1 x2 x3 H K) : HCalls Tryz.prog 36 #[.pointer p1, .agg #[.int .i64 x1, .int .i64 x2, .int .i64 x3]] H K :=
  hcalls Tryz.func36 rfl (Nat.le_of_ble_eq_true rfl) (hw_safe (Λ := (W_abacistlaw21_slots.Λ K)) mixWabacistlaw21 _ _ _ _ _ (Eq.mp (by kernel_rfl) h) (obs_seq obs_region rfl (obs_seq obs_region rfl (obs_seq (obs_seq obs_region rfl (obs_block (obs_loop rfl (fun E D H h => by
      refine Safe.loop' (W_abacistlaw21_slots.l3.L K) (fun E D H h => ?_) (fun k E D H h => ?_) E D H h
      · obtain ⟨w0, e0, g1⟩ := DG.out h; obtain ⟨p2, rfl, g2⟩ := DP.out g1; obtain ⟨w3, e3, g3⟩ := DG.out g2; obtain ⟨pw3, rfl, g4⟩ := DP.out g3; obtain ⟨a1, rfl, g5⟩ := NN.out g4; obtain ⟨w5, e5, g6⟩ := DG.out g5; obtain ⟨A1, n1, m1, rfl, g7⟩ := DSl.out g6; obtain ⟨w6, e6, g8⟩ := DG.out g7; obtain ⟨x4, rfl, g9⟩ := DI.out g8; obtain ⟨rfl, h'⟩ := DNilD.out g9; exact h'
      · obtain ⟨w0, e0, g1⟩ := DG.out h
        obtain ⟨p2, rfl, g2⟩ := DP.out g1
        obtain ⟨w3, e3, g3⟩ := DG.out g2
        obtain ⟨pw3, rfl, g4⟩ := DP.out g3
        obtain ⟨a1, rfl, g5⟩ := NN.out g4
        obtain ⟨w5, e5, g6⟩ := DG.out g5
        obtain ⟨A1, n1, m1, rfl, g7⟩ := DSl.out g6
        obtain ⟨w6, e6, g8⟩ := DG.out g7
        obtain ⟨x4, rfl, g9⟩ := DI.out g8
        obtain ⟨rfl, h'⟩ := DNilD.out g9
        exact (hw_safe (Λ := (W_abacistlaw21_slots.Λ3 K (W_abacistlaw21_slots.l3 K k))) mixWabacistlaw21 _ _ [(0, .pointer p2), (3, .pointer (some a1)), (5, .slice A1 n1 m1), (6, .int .i64 x4)] [] H (Eq.mp (by kernel_rfl) h') (obs_seq (obs_seq obs_region rfl (obs_cond obs_skip obs_exit)) rfl (obs_seq (obs_block (obs_seq obs_region rfl obs_region)) rfl obs_region))).weaken (EnvLe.cons e0 (EnvLe.cons e3 (EnvLe.cons e5 (EnvLe.cons e6 (EnvLe.nil _))))) (Hp.le_refl _))))) rfl (obs_seq obs_region rfl obs_ret)))))

-- abacistlaw21.may
def W_abacistlaw21_may (A1 : Option Addr) (n1 : Nat) (m1 : Nat) (y1 : Array Value) (H : Hp) (K : Value → Hp → Prop) : Prop :=
  Nw H (.obj (.cells y1 91)) fun b1 H1 => BIf (((n1 : Nat) : Int) == (0 : Int)) (Ld H1 ((⟨b1, 0, none⟩ : Addr).add 0) fun v1 => DI .u64 v1 fun x1 => BIf (x1 == (1 : Int)) (Ld H1 ((⟨b1, 0, none⟩ : Addr).add 1) fun v2 => DI .i64 v2 fun x2 => K (.bool (x2 == (1 : Int))) H1) (K (.bool false) H1)) (ixI (IntKind.i64.wrap (((n1 : Nat) : Int) - (1 : Int))) n1 (NN A1 fun a1 => LdA H1 (a1.add ((IntKind.i64.wrap (((n1 : Nat) : Int) - (1 : Int))).toNat * 8)) 8 fun l1 => LdA H1 (⟨b1, 0, none⟩ : Addr) 8 fun l2 => QCall Tryz.prog 33 #[.agg l1.toArray, .agg l2.toArray] H1 fun v3 => DB v3 fun c1 => K (.bool c1) H1))
def W_abacistlaw21_may.Λ (_ : Value → Hp → Prop) : Cuts := Cuts.none (fun _ => none)
theorem W_abacistlaw21_may.ok (A1 : Option Addr) (n1 : Nat) (m1 : Nat) (y1 : Array Value) (H : Hp) (K : Value → Hp → Prop) (h : W_abacistlaw21_may A1 n1 m1 y1 H K) : HCalls Tryz.prog 38 #[.slice A1 n1 m1, .agg y1] H K :=
  hcalls Tryz.func38 rfl (Nat.le_of_ble_eq_true rfl) (hw_safe (Λ := Cuts.none (fun _ => none)) mixWabacistlaw21 _ _ _ _ _ (Eq.mp (by kernel_rfl) h) (obs_none _ _ _ _ _))

-- abacistlaw21.same
def W_abacistlaw21_same.l4 (K : Value → Hp → Prop) : Nat → Option Addr → Nat → Nat → Option Addr → Nat → Nat → Int → Hp → Prop
  | 0, _, _, _, _, _, _, _, _ => False
  | k + 1, A3, n3, m3, A4, n4, m4, x1, H =>
    let R4 := W_abacistlaw21_same.l4 K k
    BIf (decide (x1 < ((n3 : Nat) : Int))) (ixI x1 n3 (NN A3 fun a1 => LdA H (a1.add (x1.toNat * 8)) 8 fun l1 => ixI x1 n4 (NN A4 fun a2 => LdA H (a2.add (x1.toNat * 8)) 8 fun l2 => EqV Tryz.prog .neq 91 (.agg l1.toArray) (.agg l2.toArray) fun c1 => BIf c1 (K (.bool false) H) (R4 A3 n3 m3 A4 n4 m4 (IntKind.i64.wrap (x1 + (1 : Int))) H)))) (K (.bool true) H)
def W_abacistlaw21_same (A1 : Option Addr) (n1 : Nat) (m1 : Nat) (A2 : Option Addr) (n2 : Nat) (m2 : Nat) (H : Hp) (K : Value → Hp → Prop) : Prop :=
  BIf (((n1 : Nat) : Int) != ((n2 : Nat) : Int)) (K (.bool false) H) ((∃ k, W_abacistlaw21_same.l4 K k A1 n1 m1 A2 n2 m2 (0 : Int) H))
def W_abacistlaw21_same.l4.L (K : Value → Hp → Prop) (k : Nat) : Mid := fun E D H =>
  DG (E.get? 0) fun w0 => DSl w0 fun A3 n3 m3 => DG (E.get? 1) fun w1 => DSl w1 fun A4 n4 m4 => DG (E.get? 5) fun w5 => DI .i64 w5 fun x1 => DNilD D (W_abacistlaw21_same.l4 K k A3 n3 m3 A4 n4 m4 x1 H)
def W_abacistlaw21_same.Λ4 (_ : Value → Hp → Prop) (_R4 : Option Addr → Nat → Nat → Option Addr → Nat → Nat → Int → Hp → Prop) : Cuts := Cuts.none (fun _ => none)
def W_abacistlaw21_same.Λ (K : Value → Hp → Prop) : Cuts := ⟨fun i => none, fun i => match Nat.beq i 4 with | true => some (fun E D H => ∃ k, W_abacistlaw21_same.l4.L K k E D H) | false => none, (fun _ => none)⟩
theorem W_abacistlaw21_same.ok (A1 : Option Addr) (n1 : Nat) (m1 : Nat) (A2 : Option Addr) (n2 : Nat) (m2 : Nat) (H : Hp) (K : Value → Hp → Prop) (h : W_abacistlaw21_same A1 n1 m1 A2 n2 m2 H K) : HCalls Tryz.prog 39 #[.slice A1 n1 m1, .slice A2 n2 m2] H K :=
  hcalls Tryz.func39 rfl (Nat.le_of_ble_eq_true rfl) (hw_safe (Λ := (W_abacistlaw21_same.Λ K)) mixWabacistlaw21 _ _ _ _ _ (Eq.mp (by kernel_rfl) h) (obs_seq obs_region rfl (obs_seq (obs_seq obs_region rfl (obs_cond (obs_seq obs_region rfl obs_ret) obs_skip)) rfl (obs_seq (obs_seq obs_region rfl (obs_block (obs_loop rfl (fun E D H h => by
      refine Safe.loop' (W_abacistlaw21_same.l4.L K) (fun E D H h => ?_) (fun k E D H h => ?_) E D H h
      · obtain ⟨w0, e0, g1⟩ := DG.out h; obtain ⟨A3, n3, m3, rfl, g2⟩ := DSl.out g1; obtain ⟨w1, e1, g3⟩ := DG.out g2; obtain ⟨A4, n4, m4, rfl, g4⟩ := DSl.out g3; obtain ⟨w5, e5, g5⟩ := DG.out g4; obtain ⟨x1, rfl, g6⟩ := DI.out g5; obtain ⟨rfl, h'⟩ := DNilD.out g6; exact h'
      · obtain ⟨w0, e0, g1⟩ := DG.out h
        obtain ⟨A3, n3, m3, rfl, g2⟩ := DSl.out g1
        obtain ⟨w1, e1, g3⟩ := DG.out g2
        obtain ⟨A4, n4, m4, rfl, g4⟩ := DSl.out g3
        obtain ⟨w5, e5, g5⟩ := DG.out g4
        obtain ⟨x1, rfl, g6⟩ := DI.out g5
        obtain ⟨rfl, h'⟩ := DNilD.out g6
        exact (hw_safe (Λ := (W_abacistlaw21_same.Λ4 K (W_abacistlaw21_same.l4 K k))) mixWabacistlaw21 _ _ [(0, .slice A3 n3 m3), (1, .slice A4 n4 m4), (5, .int .i64 x1)] [] H (Eq.mp (by kernel_rfl) h') (obs_seq (obs_seq obs_region rfl (obs_cond obs_skip obs_exit)) rfl (obs_seq (obs_block (obs_seq obs_region rfl (obs_cond (obs_seq obs_region rfl obs_ret) obs_skip))) rfl obs_region))).weaken (EnvLe.cons e0 (EnvLe.cons e1 (EnvLe.cons e5 (EnvLe.nil _)))) (Hp.le_refl _))))) rfl (obs_seq obs_region rfl obs_ret)))))

-- abacistlaw21.laid
def W_abacistlaw21_laid (A1 : Option Addr) (n1 : Nat) (m1 : Nat) (H : Hp) (K : Value → Hp → Prop) : Prop :=
  MkS Tryz.prog 5 (32 : Int) (32 : Int) H fun v1 H1 => DSl v1 fun A2 n2 m2 => CpK Tryz.prog 5 (.slice A2 n2 m2) (.slice A1 n1 m1) H1 fun v2 H2 => DI .i64 v2 fun x1 => K (.slice A2 n2 m2) H2
def W_abacistlaw21_laid.Λ (_ : Value → Hp → Prop) : Cuts := Cuts.none (fun _ => none)
theorem W_abacistlaw21_laid.ok (A1 : Option Addr) (n1 : Nat) (m1 : Nat) (H : Hp) (K : Value → Hp → Prop) (h : W_abacistlaw21_laid A1 n1 m1 H K) : HCalls Tryz.prog 43 #[.slice A1 n1 m1] H K :=
  hcalls Tryz.func43 rfl (Nat.le_of_ble_eq_true rfl) (hw_safe (Λ := Cuts.none (fun _ => none)) mixWabacistlaw21 _ _ _ _ _ (Eq.mp (by kernel_rfl) h) (obs_none _ _ _ _ _))

end Go.Proofs.YtlgpappgnndgiaaGreatDoor.W

end
section
/-! RngF -/
/- law 21: its first look. -/
set_option maxRecDepth 100000
set_option linter.unusedSimpArgs false
set_option linter.unusedVariables false
set_option linter.unnecessarySimpa false
set_option linter.unusedSectionVars false
namespace Go.Proofs.YtlgpappgnndgiaaGreatDoor.Rng
open Go Go.Hw Go.Proofs.YtlgpappgnndgiaaGreatDoor.W Go.Proofs.YtlgpappgnndgiaaGreatDoor.Rec Go.Proofs.YtlgpappgnndgiaaGreatDoor.Srt Go.Proofs.YtlgpappgnndgiaaGreatDoor.Dsk

def x0 : R := ⟨1, 1, 2, 0, 0, 1, 0, 0⟩
def d0 : D := D.fresh 10 32
theorem d0_ok : Ok d0 := Ok.fresh (by omega) (by decide) (by omega)
theorem x0_good : x0.good := by decide
theorem sec32 : secB (32 : Int) = true := by decide +kernel
theorem scan0 : (scanA 1 3 d0).1 = 0 ∧ (scanA 1 3 d0).2.2.length = 0 := by decide +kernel
theorem app0 : (appV 1 3 d0 x0).1 = 0 := by decide +kernel

theorem Ok.syncD {d : D} (h : Ok d) : Ok d.syncD := by
  unfold D.syncD
  split
  · exact h
  · split
    · exact h.burnt
    · have hb := h.burnt
      refine ⟨hb.sec, hb.size, hb.big, hb.per, fun k b hk => ?_, fun k b hk => (by cases hk), hb.fz⟩
      have hbr := burnt_rd d
      show b.length = d.burnt.size
      rw [hbr.2.2.2.1]
      have hk : mergeB d.safe d.cache k = some b := hk
      unfold mergeB at hk
      cases hc : d.cache k with
      | some c =>
        rw [hc] at hk
        have : c = b := by simpa using hk
        rw [← this]
        exact h.cache k c hc
      | none =>
        rw [hc] at hk
        exact h.safe k b (by simpa using hk)
theorem putS_ok {f n : Nat} {d : D} (h : Ok d) (r : R) : Ok (putS f n d r).2 := by
  unfold putS
  split
  · exact Ok.writeD h _ _
  · exact Ok.syncD (Ok.writeD h _ _)
theorem appV_ok {f n : Nat} {d : D} (h : Ok d) (r : R) : Ok (appV f n d r).2 := by
  have hs := (scanR_ok f n n 0 d [] h).1
  unfold appV
  split
  · exact h
  · split
    · exact hs
    · split
      · exact hs
      · exact putS_ok hs r

/-- The disk behind the first look's append, crash and boot. -/
def d1 : D := (appV 1 3 d0 x0).2
def d3 : D := { d1 with down := false, fuse := 0, cache := fun _ => none }
def recT (r : R) : List Int := [(r.s : Int), r.kd, r.kk, r.dir, r.ps, (r.ld : Int), (r.inp : Int), (r.out : Int)]
def lastT (q : Option R) : List Int := match q with | some r => recT r | none => []
theorem scan3' : (scanA 1 3 d3).1 = 0 ∧ lastT (lastR (scanA 1 3 d3)) = recT x0 := by decide +kernel
theorem t_inj {a b : R} (h : recT a = recT b) : a = b := by
  cases a; cases b
  simp only [recT, List.cons.injEq, and_true] at h
  congr 1 <;> omega
theorem scan3 : (scanA 1 3 d3).1 = 0 ∧ lastR (scanA 1 3 d3) = some x0 := by
  refine ⟨scan3'.1, ?_⟩
  have h := scan3'.2
  cases hl : lastR (scanA 1 3 d3) with
  | none => rw [hl] at h; cases h
  | some q =>
    rw [hl] at h
    rw [t_inj h]

theorem d1_facts : d1.rd = 3 ∧ d1.wr = 1 ∧ d1.sy = 1 ∧ d1.sec = 10 ∧ d1.size = 32 ∧ d1.down = false := by decide +kernel
theorem d1_cache : d1.cache = fun _ => none := by kernel_rfl
theorem d1_ok : Ok d1 := appV_ok d0_ok x0
theorem d3_ok : Ok d3 := ⟨d1_ok.sec, d1_ok.size, d1_ok.big, d1_ok.per, d1_ok.safe, fun k b hk => (by cases hk), Nat.zero_le _⟩
theorem x0_wf : x0.wf := ⟨by decide, by decide, by decide, by decide, by decide, ⟨by decide, by decide, by decide⟩⟩
theorem scan3_len : (scanA 1 3 d3).2.2.length ≤ 12 := by
  have := scanR_len 1 3 3 0 d3 []
  exact Nat.le_trans this (by decide)

theorem awake_ok (H : Hp) : HCalls Tryz.prog 22 #[] H (RetE (.bool true) H) := HCalls.ret (by
  apply W_abacistlaw21_awake.ok
  unfold W_abacistlaw21_awake
  refine (Dsk.New_tr 10 32 (by omega) (by decide) (by omega)).use (Sep.start H) [] rfl rfl ?_
  rintro _ _ H1 ⟨p, rfl, rfl⟩ hs
  simp only [DI_int', DB_bool, DS_string, DP_pointer, DSl_slice, DM_map, DA_agg, DTup_tuple, DCons_cons, DNil_nil, NN_some, BIf_true, BIf_false, BIf_same, List.toList_toArray, Bool.not_true, Bool.not_false]
  have hs : Hw.Sep [Dk p d0, own H] H1 := hs
  refine BIf_neg rfl ?_
  refine (Rng.New_tr d0_ok 1 3 0 (by omega)).use hs [0] rfl rfl ?_
  rintro _ _ H1 (⟨_, b, rfl, rfl⟩ | ⟨h, _⟩) hs
  · simp only [DI_int', DB_bool, DS_string, DP_pointer, DSl_slice, DM_map, DA_agg, DTup_tuple, DCons_cons, DNil_nil, NN_some, BIf_true, BIf_false, BIf_same, List.toList_toArray, Bool.not_true, Bool.not_false]
    have hs : Hw.Sep [Dk p d0, pts b (ringO p (1 : Nat) (3 : Nat) 0), own H] H1 := hs
    refine hs.nw fun b1 H1 hs => ?_
    refine hs.stw 3 (y := x0.c) rfl rfl rfl rfl fun H1 hs => ?_
    refine BIf_neg rfl (BIf_bnen rfl ?_)
    refine hs.ldw 3 rfl rfl ?_
    rw [Array.toArray_toList]
    have hs : Hw.Sep [Dk p d0, pts b (ringO p (1 : Nat) (3 : Nat) 0), own H, pts b1 (recO x0)] H1 := hs
    refine (Append_tr (b := b) (p := p) (f := 1) (n := 3) (w := 0) (by decide) (by decide) d0_ok ⟨by decide, by decide⟩ (by decide) (fun _ => by rw [scan0.2]; decide) sec32 x0 ⟨by decide, by decide, by decide⟩).use hs [0, 1] rfl rfl ?_
    rintro _ _ H1 ⟨rfl, rfl⟩ hs
    rw [app0]
    simp only [DI_int', DB_bool, DS_string, DP_pointer, DSl_slice, DM_map, DA_agg, DTup_tuple, DCons_cons, DNil_nil, NN_some, BIf_true, BIf_false, BIf_same, List.toList_toArray, Bool.not_true, Bool.not_false]
    have hs : Hw.Sep [Dk p d1, pts b (ringO p (1 : Nat) (3 : Nat) 0), own H, pts b1 (recO x0)] H1 := hs
    refine BIf_bnen rfl ?_
    try simp only [NN_some, Addr.add_lit', Addr.add_zero, Nat.zero_add, Nat.add_zero]
    refine Crash_tr.use hs [0] rfl rfl ?_
    rintro _ _ H1 ⟨rfl, rfl⟩ hs
    have hs : Hw.Sep [Dk p { d1 with down := true, fuse := 0 }, pts b (ringO p (1 : Nat) (3 : Nat) 0), own H, pts b1 (recO x0)] H1 := hs
    refine (Boot_tr (Ok.crash d1_ok) (fun k hk => by rw [show ({ d1 with down := true, fuse := 0 } : D).cache = fun _ => none from d1_cache] at hk; cases hk) rfl none 0 0 [] rfl (own H) (fun H h => Cells.nil _ _)).use hs [0, 2] rfl rfl ?_
    rintro _ _ H1 ⟨ks, _, rfl, rfl⟩ hs
    simp only [DI_int', DB_bool, DS_string, DP_pointer, DSl_slice, DM_map, DA_agg, DTup_tuple, DCons_cons, DNil_nil, NN_some, BIf_true, BIf_false, BIf_same, List.toList_toArray, Bool.not_true, Bool.not_false]
    have hb : D.boot { d1 with down := true, fuse := 0 } ks [] = d3 := by
      unfold D.boot
      rw [bootS_nil]
      rfl
    rw [hb] at hs
    have hs : Hw.Sep [Dk p d3, own H, pts b (ringO p (1 : Nat) (3 : Nat) 0), pts b1 (recO x0)] H1 := hs
    refine (Last_tr (b := b) (p := p) (f := 1) (n := 3) (w := 0) (by decide) (by decide) d3_ok (by decide +kernel) (fun _ => scan3_len)).use hs [0, 2] rfl rfl ?_
    rintro _ _ H1 ⟨rfl, rfl⟩ hs
    rw [scan3.1, scan3.2]
    simp only [DI_int', DB_bool, DS_string, DP_pointer, DSl_slice, DM_map, DA_agg, DTup_tuple, DCons_cons, DNil_nil, NN_some, BIf_true, BIf_false, BIf_same, List.toList_toArray, Bool.not_true, Bool.not_false]
    have hs : Hw.Sep [Dk p (scanA 1 3 d3).2.1, pts b (ringO p (1 : Nat) (3 : Nat) 0), own H, pts b1 (recO x0)] H1 := hs
    refine hs.nw fun b2 H1 hs => ?_
    refine hs.stw 4 (y := x0.c) rfl rfl rfl rfl fun H1 hs => ?_
    refine BIf_pos rfl (BIf_beqp rfl ?_)
    refine hs.ldw 4 rfl rfl ?_
    refine hs.ldw 3 rfl rfl ?_
    rw [Array.toArray_toList]
    refine rec_eql x0_wf x0_wf true (by simp) ?_
    exact ⟨rfl, hs.ow 2 rfl⟩
  · exact absurd h (by decide))

end Go.Proofs.YtlgpappgnndgiaaGreatDoor.Rng

end
section
/-! RngG -/
/- law 21: RingMakes. -/
set_option maxRecDepth 100000
set_option linter.unusedSimpArgs false
set_option linter.unusedVariables false
set_option linter.unnecessarySimpa false
set_option linter.unusedSectionVars false
namespace Go.Proofs.YtlgpappgnndgiaaGreatDoor.Rng
open Go Go.Hw Go.Proofs.YtlgpappgnndgiaaGreatDoor.W Go.Proofs.YtlgpappgnndgiaaGreatDoor.Rec Go.Proofs.YtlgpappgnndgiaaGreatDoor.Srt Go.Proofs.YtlgpappgnndgiaaGreatDoor.Dsk

def bl (x : Nat) : D := { D.fresh 40 32 with rd := x }
theorem bl_zero : bl 0 = D.fresh 40 32 := rfl
theorem bl_ok : Ok (bl 0) := Ok.fresh (sec := 40) (size := 32) (by omega) (by decide) (by omega)
theorem zero_bad : (takeV (List.replicate 32 0)).2 ≠ 0 := by decide +kernel
theorem bl_red (x : Nat) : D.red (bl x) = bl (x + 1) := rfl
theorem bl_now (x : Nat) (i : Int) : (bl x).now i = List.replicate 32 0 := rfl
theorem blank_scan (f n : Nat) : ∀ (k i x : Nat), f + i + k ≤ 40 → scanR f n k i (bl x) [] = (0, bl (x + k), [])
  | 0, _, _, _ => rfl
  | k + 1, i, x, h => by
    unfold scanR
    have hc : (bl x).chk ((f + i : Nat) : Int) = 0 := by
      unfold D.chk
      rw [if_neg (show ¬ (bl x).down = true from fun h => Bool.noConfusion h), if_neg]
      show ¬ (((f + i : Nat) : Int) < 0 ∨ ((f + i : Nat) : Int) ≥ ((40 : Nat) : Int))
      omega
    have hst : stand f n ((bl x).now ((f + i : Nat) : Int)) i = [] := by
      rw [bl_now]
      unfold stand
      rw [if_neg (fun h => zero_bad h.1)]
    rw [if_neg (by rw [hc]; simp), if_neg (show ¬ (bl x).burns = true from fun h => absurd h (show ¬ decide ((0 : Nat) = 1) = true by decide)), bl_red, hst, List.append_nil, blank_scan f n k (i + 1) (x + 1) (by omega), show x + 1 + k = x + (k + 1) by omega]

theorem makes_j9 (H0 : Hp) (f n w : Int) (b1 p : Nat) (c2 : Bool) (hc : c2 = extB (bl 0) f n) (pr : Option Addr) (x11 : Int) (M : List As) (v : Value) (hv : v = .tuple #[.pointer pr, .int .i64 x11]) (hq : NewQ p (bl 0) f n w v M) (H : Hp)
    (hs : Hw.Sep (M ++ [pts b1 (.obj (.cells #[.int .i64 f, .int .i64 n, .int .i64 w] 30)), own H0]) H) :
    W_abacistlaw21_RingMakes.j9 (Ret (.bool true) H0) ⟨b1, 0, none⟩ (some ⟨p, 0, none⟩) pr x11 1 c2 H := by
  unfold W_abacistlaw21_RingMakes.j9
  rcases hq with ⟨he, b, rfl, rfl⟩ | ⟨he, rfl, rfl⟩
  · obtain ⟨rfl, rfl⟩ : pr = some ⟨b, 0, none⟩ ∧ x11 = 0 := by
      have := hv
      simp only [Value.tuple.injEq] at this
      have h2 := congrArg Array.toList this
      simp only [List.cons.injEq, Value.pointer.injEq, Value.int.injEq, true_and, and_true] at h2
      exact ⟨h2.1.symm, h2.2.symm⟩
    rw [hc, he]
    have hE : 2 ≤ n ∧ 0 ≤ f ∧ f < ((40 : Nat) : Int) ∧ n ≤ ((40 : Nat) : Int) - f := of_decide_eq_true he
    obtain ⟨fn, rfl⟩ := Int.eq_ofNat_of_zero_le hE.2.1
    obtain ⟨nn, rfl⟩ := Int.eq_ofNat_of_zero_le (show 0 ≤ n by omega)
    refine BIf_neg rfl (BIf_neg rfl (BIf_bnen rfl (BIf_bnen rfl ?_)))
    have hok : Ok (bl 0) := bl_ok
    have hsc : scanA fn nn (bl 0) = (0, bl (0 + nn), []) := blank_scan fn nn nn 0 0 (by omega)
    refine (Scan_tr (b := b) (p := p) (f := fn) (n := nn) (w := w) (by omega) (by omega) hok (by show 0 + nn ≤ 1000000; omega) (fun _ => by rw [hsc]; exact Nat.zero_le _)).use hs [0, 1] rfl rfl ?_
    rintro _ _ H1 ⟨A, m, rfl, rfl⟩ hs
    rw [hsc] at hs ⊢
    simp only [DI_int', DB_bool, DS_string, DP_pointer, DSl_slice, DM_map, DA_agg, DTup_tuple, DCons_cons, DNil_nil, NN_some, BIf_true, BIf_false, BIf_same, List.toList_toArray, Bool.not_true, Bool.not_false]
    have hs : Hw.Sep [Dk p (bl (0 + nn)), pts b (ringO p fn nn w), Own 91 8 A 0 m (recV (isort [] (0 - 1))), pts b1 (.obj (.cells #[.int .i64 (fn : Int), .int .i64 (nn : Int), .int .i64 w] 30)), own H0] H1 := hs
    refine BIf_beqp rfl (BIf_beqp rfl ?_)
    try simp only [NN_some, Addr.add_lit', Addr.add_zero, Nat.zero_add, Nat.add_zero]
    have hcnt := Count_s hs 0 rfl
    have heq : ∀ {K : Bool → Prop}, K true → EqV Tryz.prog .eql 43 (.agg #[.int .i64 ((bl (0 + nn)).rd : Int), .int .i64 ((bl (0 + nn)).wr : Int), .int .i64 ((bl (0 + nn)).sy : Int)]) (.agg #[.int .i64 (nn : Int), .int .i64 0, .int .i64 0]) K := fun {K} k => by
      have e : (bl (0 + nn)).rd = nn := by show 0 + nn = nn; omega
      rw [e]
      refine EqI_eql p_ops (a := [(nn : Int), 0, 0]) (b := [(nn : Int), 0, 0]) rfl rfl (by intro x hx; simp at hx; omega) (by intro x hx; simp at hx; omega) rfl rfl ?_
      rw [decide_eq_true rfl]
      exact k
    have fin : Ret (.bool true) H0 (.bool true) H1 := ⟨rfl, hs.ow 4 rfl⟩
    refine ⟨?_, ?_⟩
    · refine HCalls.use hcnt ?_
      simp only [DI_int', DB_bool, DS_string, DP_pointer, DSl_slice, DM_map, DA_agg, DTup_tuple, DCons_cons, DNil_nil, NN_some, BIf_true, BIf_false, BIf_same, List.toList_toArray, Bool.not_true, Bool.not_false]
      refine hs.ld 3 rfl rfl ?_
      simp only [DI_int', DB_bool, DS_string, DP_pointer, DSl_slice, DM_map, DA_agg, DTup_tuple, DCons_cons, DNil_nil, NN_some, BIf_true, BIf_false, BIf_same, List.toList_toArray, Bool.not_true, Bool.not_false]
      exact heq fin
    · refine hs.ld 3 rfl rfl ?_
      simp only [DI_int', DB_bool, DS_string, DP_pointer, DSl_slice, DM_map, DA_agg, DTup_tuple, DCons_cons, DNil_nil, NN_some, BIf_true, BIf_false, BIf_same, List.toList_toArray, Bool.not_true, Bool.not_false]
      refine HCalls.use hcnt ?_
      simp only [DI_int', DB_bool, DS_string, DP_pointer, DSl_slice, DM_map, DA_agg, DTup_tuple, DCons_cons, DNil_nil, NN_some, BIf_true, BIf_false, BIf_same, List.toList_toArray, Bool.not_true, Bool.not_false]
      exact heq fin
  · obtain ⟨rfl, rfl⟩ : pr = none ∧ x11 = 2 := by
      have := hv
      simp only [Value.tuple.injEq] at this
      have h2 := congrArg Array.toList this
      simp only [List.cons.injEq, Value.pointer.injEq, Value.int.injEq, true_and, and_true] at h2
      exact ⟨h2.1.symm, h2.2.symm⟩
    rw [hc, he]
    refine BIf_pos rfl (BIf_pos rfl (BIf_beqp rfl ?_))
    exact ⟨rfl, hs.ow 2 rfl⟩

theorem RingMakes_ok (f n w : Int) (hf : -9223372036854775808 ≤ f ∧ f ≤ 9223372036854775807) (H : Hp) :
    HCalls Tryz.prog 4 #[.agg #[.int .i64 f, .int .i64 n, .int .i64 w]] H (Ret (.bool true) H) := by
  apply W_abacistlaw21_RingMakes.ok
  unfold W_abacistlaw21_RingMakes
  refine (Sep.start H).nw fun b1 H1 hs => ?_
  refine HCalls.use (awake_ok H1) ?_
  simp only [DI_int', DB_bool, DS_string, DP_pointer, DSl_slice, DM_map, DA_agg, DTup_tuple, DCons_cons, DNil_nil, NN_some, BIf_true, BIf_false, BIf_same, List.toList_toArray, Bool.not_true, Bool.not_false]
  refine (Dsk.New_tr 40 32 (by omega) (by decide) (by omega)).use hs [] rfl rfl ?_
  rintro _ _ H1 ⟨p, rfl, rfl⟩ hs
  simp only [DI_int', DB_bool, DS_string, DP_pointer, DSl_slice, DM_map, DA_agg, DTup_tuple, DCons_cons, DNil_nil, NN_some, BIf_true, BIf_false, BIf_same, List.toList_toArray, Bool.not_true, Bool.not_false]
  have hs : Hw.Sep [Dk p (bl 0), own H, pts b1 (.obj (.cells #[.int .i64 f, .int .i64 n, .int .i64 w] 30))] H1 := hs
  refine BIf_neg rfl ?_
  refine hs.ldw 2 rfl rfl ?_
  have hok : Ok (bl 0) := bl_ok
  refine (Rng.New_tr hok f n w hf).use hs [0] rfl rfl ?_
  intro v M H1 hq hs
  obtain ⟨pr, x11, hv⟩ : ∃ pr x11, v = .tuple #[.pointer pr, .int .i64 x11] := by
    rcases hq with ⟨_, b, rfl, _⟩ | ⟨_, rfl, _⟩
    · exact ⟨_, _, rfl⟩
    · exact ⟨_, _, rfl⟩
  have hs2 : Hw.Sep (M ++ [pts b1 (.obj (.cells #[.int .i64 f, .int .i64 n, .int .i64 w] 30)), own H]) H1 := Hw.Sep.perm (List.Perm.append_left M (List.Perm.swap _ _ [])) hs
  have hj := fun c2 hc => makes_j9 H f n w b1 p c2 hc pr x11 M v hv hq H1 hs2
  subst hv
  simp only [DI_int', DB_bool, DS_string, DP_pointer, DSl_slice, DM_map, DA_agg, DTup_tuple, DCons_cons, DNil_nil, NN_some, BIf_true, BIf_false, BIf_same, List.toList_toArray, Bool.not_true, Bool.not_false]
  have hx := Hw.Sep.drop hs2
  refine hx.ldw 0 rfl rfl ?_
  refine HCalls.use (New_nil f n w H1) ?_
  simp only [DI_int', DB_bool, DS_string, DP_pointer, DSl_slice, DM_map, DA_agg, DTup_tuple, DCons_cons, DNil_nil, NN_some, BIf_true, BIf_false, BIf_same, List.toList_toArray, Bool.not_true, Bool.not_false]
  have ext : extB (bl 0) f n = decide (2 ≤ n ∧ 0 ≤ f ∧ f < ((40 : Nat) : Int) ∧ n ≤ ((40 : Nat) : Int) - f) := rfl
  refine hx.ldf 0 rfl rfl ?_
  simp only [DI_int', DB_bool, DS_string, DP_pointer, DSl_slice, DM_map, DA_agg, DTup_tuple, DCons_cons, DNil_nil, NN_some, BIf_true, BIf_false, BIf_same, List.toList_toArray, Bool.not_true, Bool.not_false]
  by_cases h1 : n ≥ 2
  · refine BIf_dpos h1 ?_
    refine hx.ldf 0 rfl rfl ?_
    simp only [DI_int', DB_bool, DS_string, DP_pointer, DSl_slice, DM_map, DA_agg, DTup_tuple, DCons_cons, DNil_nil, NN_some, BIf_true, BIf_false, BIf_same, List.toList_toArray, Bool.not_true, Bool.not_false]
    by_cases h2 : f ≥ 0
    · refine BIf_dpos h2 ?_
      refine hx.ldf 0 rfl rfl ?_
      simp only [DI_int', DB_bool, DS_string, DP_pointer, DSl_slice, DM_map, DA_agg, DTup_tuple, DCons_cons, DNil_nil, NN_some, BIf_true, BIf_false, BIf_same, List.toList_toArray, Bool.not_true, Bool.not_false]
      by_cases h3 : f < 40
      · refine BIf_dpos h3 ?_
        refine hx.ldf 0 rfl rfl ?_
        simp only [DI_int', DB_bool, DS_string, DP_pointer, DSl_slice, DM_map, DA_agg, DTup_tuple, DCons_cons, DNil_nil, NN_some, BIf_true, BIf_false, BIf_same, List.toList_toArray, Bool.not_true, Bool.not_false]
        refine hx.ldf 0 rfl rfl ?_
        simp only [DI_int', DB_bool, DS_string, DP_pointer, DSl_slice, DM_map, DA_agg, DTup_tuple, DCons_cons, DNil_nil, NN_some, BIf_true, BIf_false, BIf_same, List.toList_toArray, Bool.not_true, Bool.not_false]
        rw [i64w (x := (40 : Int) - f) (by omega) (by omega)]
        refine hj _ ?_
        rw [ext]
        exact decide_eq_decide.2 (by omega)
      · exact BIf_dneg h3 (hj _ (by rw [ext]; exact (decide_eq_false (by omega)).symm))
    · exact BIf_dneg h2 (hj _ (by rw [ext]; exact (decide_eq_false (by omega)).symm))
  · exact BIf_dneg h1 (hj _ (by rw [ext]; exact (decide_eq_false (by omega)).symm))

end Go.Proofs.YtlgpappgnndgiaaGreatDoor.Rng

end
