/- disk: Sync; and what the laws of the layer do with a disk. -/
import Derived.Test.YtbnhfcdagoigkaaDskD
import Derived.Test.YtbnhfcdagoigkaaWlmaps
set_option maxRecDepth 100000
set_option linter.unusedSimpArgs false
set_option linter.unusedVariables false
set_option linter.unnecessarySimpa false
set_option linter.unusedSectionVars false
namespace Go.Proofs.Ytbnhfcdagoigkaa.Dsk
open Go Go.Hw Go.Form Go.Proofs.Ytbnhfcdagoigkaa.W

/-- A map's entries over another one's. -/
def mergeB (s c : Int → Option (List UInt8)) : Int → Option (List UInt8) := fun i => match c i with | some b => some b | none => s i

theorem born_inj {l : List (Int × Value × Nat)} (h : (l.map (·.2.2)).Nodup) {x y : Int × Value × Nat} (hx : x ∈ l) (hy : y ∈ l) (e : x.2.2 = y.2.2) : x = y := by
  induction l with
  | nil => simp at hx
  | cons z l ih =>
    simp only [List.map_cons, List.nodup_cons] at h
    rcases List.mem_cons.1 hx with ex | hx'
    · rcases List.mem_cons.1 hy with ey | hy'
      · rw [ex, ey]
      · exact absurd (by rw [← ex, e]; exact List.mem_map_of_mem hy') h.1
    · rcases List.mem_cons.1 hy with ey | hy'
      · exact absurd (by rw [← ey, ← e]; exact List.mem_map_of_mem hx') h.1
      · exact ih h.2 hx' hy'

theorem mcopy_loop (K : Value → Hp → Prop) {r1 r2 it cl : Nat} {c s : Int → Option (List UInt8)} {l : List (Int × Value × Nat)} (hok : OkK l cl (strM c))
    (hK : ∀ H, Sep [Mp r1 (strM (mergeB s c)), pts r2 (kmap l cl)] H → K (.tuple #[]) H) :
    ∀ (t : Nat) (sj : Int → Option (List UInt8)) (seen : Array Nat) (last : Nat) (H : Hp), (unseenK l seen).length ≤ t → (∀ x ∈ l, x.2.2 < last) → (∀ i, (∀ x ∈ unseenK l seen, x.1 ≠ i) → sj i = mergeB s c i) →
      Sep [Mp r1 (strM sj), pts r2 (kmap l cl), pts it (iterO r2 cl seen last)] H → W_maps_Copy_map_int_string_map_int_string_int_string.l1 K (t + 1) (some r1) (.pointer (some ⟨it, 0, none⟩)) H := fun t => by
  induction t with
  | zero =>
    intro sj seen last H ht hlast hsj hs
    unfold W_maps_Copy_map_int_string_map_int_string_int_string.l1
    have h0 : unseenK l seen = [] := List.length_eq_zero_iff.1 (by omega)
    refine next_K (hs.get 2 rfl) (hs.get 1 rfl) hok.bl hlast (fun x hx => by rw [h0] at hx; simp at hx) (fun _ => ?_)
    simp only [Ex, List.getElem?_toArray, List.getElem?_cons_zero, DB_bool, BIf_false]
    refine hK H ?_
    have : sj = mergeB s c := funext fun i => hsj i (fun x hx => by rw [h0] at hx; simp at hx)
    rw [← this]
    exact hs.re [0, 1] rfl
  | succ t ih =>
    intro sj seen last H ht hlast hsj hs
    unfold W_maps_Copy_map_int_string_map_int_string_int_string.l1
    refine next_K (hs.get 2 rfl) (hs.get 1 rfl) hok.bl hlast (fun x hx => ?_) (fun h0 => ?_)
    · simp only [Ex, List.getElem?_toArray, List.getElem?_cons_zero, DB_bool, BIf_true]
      have hxl : x ∈ l := (List.mem_filter.1 hx).1
      have hs := hs.put 2 (iterO r2 cl (seen.push x.2.2) cl) rfl
      refine entry_K (hs.get 2 rfl) (hs.get 1 rfl) hxl (by simp) hok.bn ?_
      simp only [Ex, List.getElem?_toArray, List.getElem?_cons_zero, List.getElem?_cons_succ]
      have hg : strM c x.1 = some x.2.1 := by rw [← hok.get, getK_mem hok.nd hxl]
      obtain ⟨b, hcb, hxb⟩ : ∃ b, c x.1 = some b ∧ x.2.1 = strV b := by
        unfold strM at hg
        cases hc : c x.1 with
        | none => rw [hc] at hg; cases hg
        | some b => rw [hc] at hg; exact ⟨b, rfl, (Option.some.inj hg).symm⟩
      rw [hxb]
      show DI .i64 (.int .i64 x.1) fun x1 => DS (.string ⟨b.toArray⟩) _
      simp only [DI_int', DB_bool, DS_string, DP_pointer, DSl_slice, DM_map, DA_agg, DTup_tuple, DCons_cons, DNil_nil, NN_some, BIf_true, BIf_false, BIf_same, List.toList_toArray, Bool.not_true, Bool.not_false]
      refine hs.upd u_int u_strm 0 rfl fun H hs => ?_
      rw [show (Value.string ⟨b.toArray⟩) = strV b from rfl, updB_M] at hs
      have hlt := unseenK_lt hx
      refine ih (updB sj x.1 b) (seen.push x.2.2) cl H (by omega) hok.bl (fun i hi => ?_) hs
      by_cases e : i = x.1
      · subst e
        unfold mergeB updB
        rw [hcb]; simp
      · unfold updB
        rw [if_neg e]
        refine hsj i fun y hy ey => ?_
        obtain ⟨hyl, hys⟩ := List.mem_filter.1 hy
        have hne : y.2.2 ≠ x.2.2 := fun e2 => e (by rw [← ey, born_inj hok.bn hyl hxl e2])
        refine hi y (List.mem_filter.2 ⟨hyl, ?_⟩) ey
        rw [Array.contains_push]
        simp only [Bool.not_eq_true', Bool.or_eq_false_iff] at hys ⊢
        exact ⟨hys, by simpa using hne⟩
    · simp only [Ex, List.getElem?_toArray, List.getElem?_cons_zero, DB_bool, BIf_false]
      refine hK H ?_
      have : sj = mergeB s c := funext fun i => hsj i (fun x hx => by rw [h0] at hx; simp at hx)
      rw [← this]
      exact hs.re [0, 1] rfl

theorem mcopy_tr (r1 r2 : Nat) (s c : Int → Option (List UInt8)) : Tr Try.prog 67 #[.map (some r1), .map (some r2)] [Mp r1 (strM s), Mp r2 (strM c)] fun v M =>
    v = .tuple #[] ∧ M = [Mp r1 (strM (mergeB s c)), Mp r2 (strM c)] := fun H hs => by
  have hs0 := hs
  obtain ⟨H1, ⟨l, clock, hr1, hok⟩, hle⟩ := hs.see 1 rfl
  apply W_maps_Copy_map_int_string_map_int_string_int_string.ok
  unfold W_maps_Copy_map_int_string_map_int_string_int_string
  refine range_K u_strm (hle _ _ hr1) fun it hit => ?_
  have hs1 : Sep [Mp r1 (strM s), pts r2 (kmap l clock)] H := hs.turn' 1 rfl fun H2 hle2 hA => by
    obtain ⟨l2, clock2, h2, _⟩ := hA
    have e1 := hle2 _ _ h2
    have e2 := hle _ _ hr1
    rw [e1] at e2
    show H2 r2 = some (kmap l clock)
    rw [h2, e2]
  have hs2 := hs1.new hit (iterO r2 clock #[] clock)
  refine ⟨l.length + 1, ?_⟩
  refine mcopy_loop _ (s := s) hok (fun H hs => ⟨_, ⟨rfl, rfl⟩, hs.turn 1 rfl fun H2 hA => ⟨l, clock, hA, hok⟩⟩) l.length s #[] clock _ ?_ hok.bl (fun i hi => ?_) hs2
  · unfold unseenK; exact List.length_filter_le _ _
  · unfold mergeB
    have hn : c i = none := by
      have : getK l i = none := getK_none.2 fun x hx => hi x (by unfold unseenK; simp [hx])
      rw [hok.get] at this
      unfold strM at this
      cases hc : c i with
      | none => rfl
      | some b => rw [hc] at this; cases this
    rw [hn]

/-- A disk whose sectors are safe. -/
def D.synced (d : D) : D := { d.burnt with sy := d.sy + 1, safe := mergeB d.safe d.cache, cache := fun _ => none }
def D.syncE (d : D) : Int := if d.down then 8 else if d.burns then 8 else 0
def D.syncD (d : D) : D := if d.down then d else if d.burns then d.burnt else d.synced

theorem Sync_tr {p : Nat} {d : D} (hok : Ok d) (ho : d.sy ≤ 4611686018427387904) : Tr Try.prog 33 #[.pointer (some ⟨p, 0, none⟩)] [Dk p d] fun v M => v = .int .i64 d.syncE ∧ M = [Dk p d.syncD] := fun H hs => by
  have hf := hok.fz
  obtain ⟨r1, r2, r3, hp⟩ := Dk.see hs 0 rfl
  apply W_disk_Disk_Sync.ok
  unfold W_disk_Disk_Sync
  simp only [NN_some, Addr.add_lit', Addr.add_zero, Nat.zero_add, Nat.add_zero]
  refine Ld_obj hp (v := .bool d.down) rfl ?_
  simp only [DI_int', DB_bool, DS_string, DP_pointer, DSl_slice, DM_map, DA_agg, DTup_tuple, DCons_cons, DNil_nil, NN_some, BIf_true, BIf_false, BIf_same, List.toList_toArray, Bool.not_true, Bool.not_false]
  cases hdn : d.down with
  | true => exact BIf_pos rfl ⟨_, ⟨by simp [D.syncE, hdn], by simp [D.syncD, hdn]⟩, hs⟩
  | false =>
    refine BIf_neg rfl ?_
    refine (burns_tr hf).use hs [0] rfl rfl ?_
    rintro _ _ H ⟨rfl, rfl⟩ hs
    simp only [DI_int', DB_bool, DS_string, DP_pointer, DSl_slice, DM_map, DA_agg, DTup_tuple, DCons_cons, DNil_nil, NN_some, BIf_true, BIf_false, BIf_same, List.toList_toArray, Bool.not_true, Bool.not_false]
    cases hb : d.burns with
    | true => exact BIf_pos rfl ⟨_, ⟨by simp [D.syncE, hdn, hb], by simp [D.syncD, hdn, hb]; rfl⟩, hs⟩
    | false =>
      refine BIf_neg rfl ?_
      have hbr := burnt_rd d
      obtain ⟨r1, r2, r3, hs⟩ := Dk.open hs
      try simp only [NN_some, Addr.add_lit', Addr.add_zero, Nat.zero_add, Nat.add_zero]
      refine hs.ld 0 rfl rfl ?_
      simp only [DI_int', DB_bool, DS_string, DP_pointer, DSl_slice, DM_map, DA_agg, DTup_tuple, DCons_cons, DNil_nil, NN_some, BIf_true, BIf_false, BIf_same, List.toList_toArray, Bool.not_true, Bool.not_false]
      refine hs.st 0 rfl (by show 5 < 10; omega) rfl fun H hs => ?_
      rw [hbr.2.2.1] at hs
      rw [i64w (x := (d.sy : Int) + 1) (by omega) (by omega)] at hs
      refine hs.ld 0 rfl rfl ?_
      simp only [DI_int', DB_bool, DS_string, DP_pointer, DSl_slice, DM_map, DA_agg, DTup_tuple, DCons_cons, DNil_nil, NN_some, BIf_true, BIf_false, BIf_same, List.toList_toArray, Bool.not_true, Bool.not_false]
      refine hs.ld 0 rfl rfl ?_
      simp only [DI_int', DB_bool, DS_string, DP_pointer, DSl_slice, DM_map, DA_agg, DTup_tuple, DCons_cons, DNil_nil, NN_some, BIf_true, BIf_false, BIf_same, List.toList_toArray, Bool.not_true, Bool.not_false]
      rw [hbr.2.2.2.2.2.1, hbr.2.2.2.2.2.2.1] at hs
      refine (mcopy_tr r1 r3 d.safe d.cache).use hs [1, 3] rfl rfl ?_
      rintro _ _ H ⟨rfl, rfl⟩ hs
      try simp only [DI_int', DB_bool, DS_string, DP_pointer, DSl_slice, DM_map, DA_agg, DTup_tuple, DCons_cons, DNil_nil, NN_some, BIf_true, BIf_false, BIf_same, List.toList_toArray, Bool.not_true, Bool.not_false]
      refine hs.ld 2 rfl rfl ?_
      simp only [DI_int', DB_bool, DS_string, DP_pointer, DSl_slice, DM_map, DA_agg, DTup_tuple, DCons_cons, DNil_nil, NN_some, BIf_true, BIf_false, BIf_same, List.toList_toArray, Bool.not_true, Bool.not_false]
      refine hs.clearK u_int u_strm 1 rfl fun H hs => ?_
      refine ⟨_, ⟨by simp [D.syncE, hdn, hb], by simp [D.syncD, hdn, hb]; rfl⟩, ?_⟩
      exact Dk.shut (d := d.synced) (r1 := r1) (r2 := r2) (r3 := r3) (hs.re [2, 0, 3, 1] rfl)

end Go.Proofs.Ytbnhfcdagoigkaa.Dsk
