/- arena: what its functions answer. -/
import Derived.Test.YtbnhfcdagoigkaaHwM
import Derived.Test.YtbnhfcdagoigkaaWarena
set_option maxRecDepth 100000
set_option linter.unusedSimpArgs false
set_option linter.unusedVariables false
set_option linter.unnecessarySimpa false
set_option linter.unusedSectionVars false
namespace Go.Proofs.Ytbnhfcdagoigkaa.Are
open Go Go.Hw Go.Proofs.Ytbnhfcdagoigkaa.W

def arenaO (cap used peak : Int) (mp : Nat) : AO := .obj (.cells #[.int .i64 cap, .int .i64 used, .int .i64 peak, .map (some mp)] 75)
def bufO (a : Nat) (A : Option Addr) (n m : Nat) : AO := .obj (.cells #[ptrV a, .slice A n m] 141)

theorem used_ok (H : Hp) (a mp : Nat) (cap used peak : Int) (ha : H a = some (arenaO cap used peak mp)) : HCalls Try.prog 26 #[.pointer (some ⟨a, 0, none⟩)] H (RetE (.int .i64 used) H) := by
  apply W_arena_meter_Used.ok
  unfold W_arena_meter_Used
  simp only [NN_some, Addr.add_lit', Nat.zero_add]
  refine Ld_obj ha (v := .int .i64 used) rfl ?_
  simp only [DI_int', DB_bool, DS_string, DP_pointer, DSl_slice, DM_map, DA_agg, DTup_tuple, DCons_cons, DNil_nil, NN_some, BIf_true, BIf_false, BIf_same, List.toList_toArray, Bool.not_true, Bool.not_false]
  exact RetE.mk _ _
theorem peak_ok (H : Hp) (a mp : Nat) (cap used peak : Int) (ha : H a = some (arenaO cap used peak mp)) : HCalls Try.prog 27 #[.pointer (some ⟨a, 0, none⟩)] H (RetE (.int .i64 peak) H) := by
  apply W_arena_meter_Peak.ok
  unfold W_arena_meter_Peak
  simp only [NN_some, Addr.add_lit', Nat.zero_add]
  refine Ld_obj ha (v := .int .i64 peak) rfl ?_
  simp only [DI_int', DB_bool, DS_string, DP_pointer, DSl_slice, DM_map, DA_agg, DTup_tuple, DCons_cons, DNil_nil, NN_some, BIf_true, BIf_false, BIf_same, List.toList_toArray, Bool.not_true, Bool.not_false]
  exact RetE.mk _ _
theorem free_ok (H : Hp) (a mp : Nat) (cap used peak : Int) (h1 : 0 ≤ used ∧ used ≤ cap ∧ cap ≤ 16777216) (ha : H a = some (arenaO cap used peak mp)) : HCalls Try.prog 73 #[.pointer (some ⟨a, 0, none⟩)] H (RetE (.int .i64 (cap - used)) H) := by
  apply W_arena_meter_Free.ok
  unfold W_arena_meter_Free
  simp only [NN_some, Addr.add_lit', Nat.zero_add]
  refine Ld_obj ha (v := .int .i64 cap) rfl ?_
  simp only [DI_int', DB_bool, DS_string, DP_pointer, DSl_slice, DM_map, DA_agg, DTup_tuple, DCons_cons, DNil_nil, NN_some, BIf_true, BIf_false, BIf_same, List.toList_toArray, Bool.not_true, Bool.not_false]
  refine Ld_obj ha (v := .int .i64 used) rfl ?_
  simp only [DI_int', DB_bool, DS_string, DP_pointer, DSl_slice, DM_map, DA_agg, DTup_tuple, DCons_cons, DNil_nil, NN_some, BIf_true, BIf_false, BIf_same, List.toList_toArray, Bool.not_true, Bool.not_false]
  rw [i64w (by omega) (by omega)]
  exact RetE.mk _ _
theorem add_ok (H : Hp) (a mp : Nat) (cap used peak n : Int) (h1 : 0 ≤ used ∧ used ≤ 16777216) (h2 : -16777216 ≤ n ∧ n ≤ 16777216) (ha : H a = some (arenaO cap used peak mp)) :
    HCalls Try.prog 74 #[.pointer (some ⟨a, 0, none⟩), .int .i64 n] H (RetE (.tuple #[]) (H.set a (arenaO cap (used + n) (if used + n > peak then used + n else peak) mp))) := by
  apply W_arena_meter_add.ok
  unfold W_arena_meter_add
  simp only [NN_some, Addr.add_lit', Nat.zero_add, Nat.add_zero]
  refine Ld_obj ha (v := .int .i64 used) rfl ?_
  simp only [DI_int', DB_bool, DS_string, DP_pointer, DSl_slice, DM_map, DA_agg, DTup_tuple, DCons_cons, DNil_nil, NN_some, BIf_true, BIf_false, BIf_same, List.toList_toArray, Bool.not_true, Bool.not_false]
  rw [i64w (by omega) (by omega)]
  refine St_obj ha (by simp) rfl ?_
  refine Ld_obj (Hp.set_same _ _ _) (v := .int .i64 peak) rfl ?_
  simp only [DI_int', DB_bool, DS_string, DP_pointer, DSl_slice, DM_map, DA_agg, DTup_tuple, DCons_cons, DNil_nil, NN_some, BIf_true, BIf_false, BIf_same, List.toList_toArray, Bool.not_true, Bool.not_false]
  refine Ld_obj (Hp.set_same _ _ _) (v := .int .i64 (used + n)) rfl ?_
  simp only [DI_int', DB_bool, DS_string, DP_pointer, DSl_slice, DM_map, DA_agg, DTup_tuple, DCons_cons, DNil_nil, NN_some, BIf_true, BIf_false, BIf_same, List.toList_toArray, Bool.not_true, Bool.not_false]
  refine St_obj (Hp.set_same _ _ _) (by simp) rfl ?_
  rw [Hp.set_set]
  exact RetE.mk _ _

theorem New_no (H : Hp) (x : Int) (h : x < 1 ∨ x > 16777216) : HCalls Try.prog 39 #[.int .i64 x] H (RetE (.pointer none) H) := by
  apply W_arena_New.ok
  unfold W_arena_New
  rw [BIf_decide, BIf_decide]
  split
  · exact RetE.mk _ _
  · rw [if_pos (by omega)]; exact RetE.mk _ _

theorem New_ok (H : Hp) (x : Int) (h : 1 ≤ x ∧ x ≤ 16777216) : HCalls Try.prog 39 #[.int .i64 x] H (fun v H' => ∃ mp a, H mp = none ∧ H a = none ∧ a ≠ mp ∧ v = ptrV a ∧ H' = (H.set mp (mapO [] 0)).set a (arenaO x 0 0 mp)) := by
  apply W_arena_New.ok
  unfold W_arena_New
  refine BIf_dneg (by omega) (BIf_dneg (by omega) ?_)
  intro mp hmp
  intro a ha
  obtain ⟨h1, h2⟩ := Hp.set_none ha
  exact ⟨mp, a, hmp, h2, h1, rfl, rfl⟩

theorem Words_ok (H : Hp) (b a : Nat) (A : Option Addr) (n m : Nat) (hb : H b = some (bufO a A n m)) : HCalls Try.prog 46 #[ptrV b] H (RetE (.slice A n m) H) := by
  apply W_arena_Buffer_Words.ok
  unfold W_arena_Buffer_Words
  simp only [NN_some, Addr.add_lit', Nat.zero_add, Nat.add_zero]
  refine Ld_obj hb (v := .slice A n m) rfl ?_
  simp only [DI_int', DB_bool, DS_string, DP_pointer, DSl_slice, DM_map, DA_agg, DTup_tuple, DCons_cons, DNil_nil, NN_some, BIf_true, BIf_false, BIf_same, List.toList_toArray, Bool.not_true, Bool.not_false]
  exact RetE.mk _ _
theorem t_ptr : Try.prog.underlying 105 = some (.pointer 141) := by kernel_rfl
theorem t_map : Try.prog.underlying 73 = some (.map 105 3) := by kernel_rfl
theorem t_buf : ∃ j, Try.prog.info? 141 = some j ∧ j.size ≠ 0 := by
  have h : (Try.prog.info? 141).map (·.size) = some 2 := by kernel_rfl
  obtain ⟨j, hj, h2⟩ := Option.map_eq_some_iff.1 h
  exact ⟨j, hj, by rw [h2]; omega⟩
theorem t_int : ∃ j, Try.prog.info? 3 = some j ∧ j.zero = some (.int .i64 0) := by
  have h : (Try.prog.info? 3).map (·.zero) = some (some (.int .i64 0)) := by kernel_rfl
  obtain ⟨j, hj, h2⟩ := Option.map_eq_some_iff.1 h
  exact ⟨j, hj, h2⟩
theorem cell_u64 : cellInfo Try.prog 62 = some (1, 8, some #[.int .u64 0]) := by kernel_rfl

theorem findR_none (a : Nat) : ∀ (l : List (Nat × Int × Nat)) (i : Nat), (∀ x ∈ l, x.1 ≠ a) → findR a l i = none
  | [], _, _ => rfl
  | x :: l, i, h => by unfold findR; rw [if_neg (fun e => h x (by simp) e.symm)]; exact findR_none a l (i + 1) (fun y hy => h y (by simp [hy]))

def zerosU64 (n : Nat) : List Value := zeroRow [.int .u64 0] n

/-- Take of what fits: two new blocks, and the arena counts them. -/
theorem Take_ok (H : Hp) (a mp : Nat) (cap used peak n : Int) (l : List (Nat × Int × Nat)) (clock : Nat) (h1 : 0 ≤ used ∧ used ≤ cap ∧ cap ≤ 16777216) (hn : 1 ≤ n ∧ n ≤ cap - used) (hne : a ≠ mp)
    (ha : H a = some (arenaO cap used peak mp)) (hm : H mp = some (mapO l clock)) (hl : ∀ x ∈ l, PlainB H x.1) :
    HCalls Try.prog 42 #[ptrV a, .int .i64 n] H (fun v H' => ∃ rb b, H rb = none ∧ H b = none ∧ b ≠ rb ∧ v = .tuple #[ptrV b, .int .i64 0] ∧
      H' = (((H.set rb (.row (zerosU64 n.toNat) 62 n.toNat)).set b (bufO a (some ⟨rb, 0, none⟩) n.toNat n.toNat)).set mp (mapO (l ++ [(b, n, clock)]) (clock + 1))).set a (arenaO cap (used + n) (if used + n > peak then used + n else peak) mp)) := by
  obtain ⟨jb, hjb, hsb⟩ := t_buf
  apply W_arena_Arena_Take.ok
  unfold W_arena_Arena_Take
  refine BIf_dneg (by omega) ?_
  simp only [NN_some, Addr.add_lit', Nat.zero_add, Nat.add_zero]
  refine HCalls.use (free_ok H a mp cap used peak h1 ha) ?_
  try simp only [DI_int', DB_bool, DS_string, DP_pointer, DSl_slice, DM_map, DA_agg, DTup_tuple, DCons_cons, DNil_nil, NN_some, BIf_true, BIf_false, BIf_same, List.toList_toArray, Bool.not_true, Bool.not_false]
  refine BIf_dneg (by omega) ?_
  refine MkS_of cell_u64 rfl (n := n.toNat) (m := n.toNat) (by omega) (by omega) (Nat.le_refl _) (by omega) (by omega) ?_
  intro rb hrb
  rw [Nat.mul_one]
  simp only [DI_int', DB_bool, DS_string, DP_pointer, DSl_slice, DM_map, DA_agg, DTup_tuple, DCons_cons, DNil_nil, NN_some, BIf_true, BIf_false, BIf_same, List.toList_toArray, Bool.not_true, Bool.not_false]
  intro b hb
  obtain ⟨hbr, hb'⟩ := Hp.set_none hb
  have har : a ≠ rb := fun e => by rw [e, hrb] at ha; cases ha
  have hab : a ≠ b := fun e => by rw [e, hb'] at ha; cases ha
  have hmr : mp ≠ rb := fun e => by rw [e, hrb] at hm; cases hm
  have hmb : mp ≠ b := fun e => by rw [e, hb'] at hm; cases hm
  have hle := Hp.le_trans (Hp.le_set (o := .row (zerosU64 n.toNat) 62 n.toNat) hrb) (Hp.le_set (o := bufO a (some ⟨rb, 0, none⟩) n.toNat n.toNat) hb)
  refine Ld_obj (hle _ _ ha) (v := .map (some mp)) rfl ?_
  simp only [DI_int', DB_bool, DS_string, DP_pointer, DSl_slice, DM_map, DA_agg, DTup_tuple, DCons_cons, DNil_nil, NN_some, BIf_true, BIf_false, BIf_same, List.toList_toArray, Bool.not_true, Bool.not_false]
  refine mapUpdate_new t_ptr hjb hsb t_map (hle _ _ hm) ⟨_, _, Hp.set_same _ _ _⟩ (fun x hx => (hl x hx).le hle) (findR_none b l 0 (fun x hx e => by
    obtain ⟨c, e', hxx⟩ := hl x hx
    rw [e, hb'] at hxx; cases hxx)) ?_
  refine HCalls.use (add_ok _ a mp cap used peak n (by omega) (by omega) (by rw [Hp.set_other _ _ hne]; exact hle _ _ ha)) ?_
  exact ⟨rb, b, hrb, hb', hbr, rfl, rfl⟩

theorem Take_arg (H : Hp) (a : Nat) (n : Int) (hn : n < 1) : HCalls Try.prog 42 #[ptrV a, .int .i64 n] H (RetE (.tuple #[.pointer none, .int .i64 1]) H) := by
  apply W_arena_Arena_Take.ok
  unfold W_arena_Arena_Take
  exact BIf_dpos hn (RetE.mk _ _)

theorem Take_full (H : Hp) (a mp : Nat) (cap used peak n : Int) (h1 : 0 ≤ used ∧ used ≤ cap ∧ cap ≤ 16777216) (hn : 1 ≤ n ∧ cap - used < n) (ha : H a = some (arenaO cap used peak mp)) :
    HCalls Try.prog 42 #[ptrV a, .int .i64 n] H (RetE (.tuple #[.pointer none, .int .i64 6]) H) := by
  apply W_arena_Arena_Take.ok
  unfold W_arena_Arena_Take
  refine BIf_dneg (by omega) ?_
  simp only [NN_some, Addr.add_lit', Nat.zero_add, Nat.add_zero]
  refine HCalls.use (free_ok H a mp cap used peak h1 ha) ?_
  try simp only [DI_int', DB_bool, DS_string, DP_pointer, DSl_slice, DM_map, DA_agg, DTup_tuple, DCons_cons, DNil_nil, NN_some, BIf_true, BIf_false, BIf_same, List.toList_toArray, Bool.not_true, Bool.not_false]
  exact BIf_dpos (by omega) (RetE.mk _ _)

end Go.Proofs.Ytbnhfcdagoigkaa.Are
