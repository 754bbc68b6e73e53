/- layout: places; the law LayoutPlaces. -/
import Derived.Test.YtbnhfcdagoigkaaLayA
import Derived.Test.YtbnhfcdagoigkaaHwN
set_option maxRecDepth 100000
set_option linter.unusedSimpArgs false
set_option linter.unusedVariables false
set_option linter.unnecessarySimpa false
set_option linter.unusedSectionVars false
namespace Go.Proofs.Ytbnhfcdagoigkaa.Lay
open Go Go.Hw Go.Proofs.Ytbnhfcdagoigkaa.W

def extV (f s w : Int) : Array Value := #[.int .i64 f, .int .i64 s, .int .i64 w]
/-- A layout's cells. -/
def layV (k p : Nat) : Array Value :=
  let r : Int := roomN k p
  let w : Int := (2 ^ k : Nat)
  #[.int .i64 k, .int .i64 p, .int .i64 1, .int .i64 8, .int .i64 ((8 * p : Nat) : Int), .int .i64 9, .int .i64 r, .int .i64 w, .int .i64 (9 + r), .int .i64 r, .int .i64 w, .int .i64 (9 + 2 * r), .int .i64 r, .int .i64 w, .int .i64 (9 + 3 * r), .int .i64 r, .int .i64 w]
def layZ : Array Value := #[.int .i64 0, .int .i64 0, .int .i64 0, .int .i64 0, .int .i64 0, .int .i64 0, .int .i64 0, .int .i64 0, .int .i64 0, .int .i64 0, .int .i64 0, .int .i64 0, .int .i64 0, .int .i64 0, .int .i64 0, .int .i64 0, .int .i64 0]

theorem lay_round (K : Value → Hp → Prop) (d b1 b2 : Nat) (e : TypeId) (k : Nat) (hk : k ≤ 32) (H : Hp) (c : Array Value) (hc : c.size = 17) (x r : Int) (hx : 0 ≤ x ∧ x ≤ 100000000000) (hr : 0 ≤ r ∧ r ≤ 100000000000) (i : Nat) (hi : i < 4)
    (h : W_layout_lay.l4 K d (k : Int) ⟨b1, 0, none⟩ ⟨b2, 0, none⟩ (x + r) r ((i + 1 : Nat) : Int) (H.set b2 (.obj (.cells (setAt c.toList (5 + i * 3) (extV x r ((2 ^ k : Nat) : Int)).toList).toArray e)))) :
    W_layout_lay.l4 K (d + 1) (k : Int) ⟨b1, 0, none⟩ ⟨b2, 0, none⟩ x r (i : Int) (H.set b2 (.obj (.cells c e))) := by
  conv => unfold W_layout_lay.l4
  refine BIf_dpos (by omega) ⟨by rw [u64n (by omega)]; omega, by omega, by omega, ?_⟩
  simp only [Addr.add_lit', Int.toNat_natCast, Nat.zero_add]
  rw [u64n (by omega), shl_one (by omega)]
  refine StA_lit (Hp.set_same _ _ _) (by omega) (by rfl) (by rfl) ?_
  rw [Hp.set_set, i64w (x := x + r) (by omega) (by omega), i64w (x := (i : Int) + 1) (by omega) (by omega)]
  exact h

theorem lay_ok {k p : Nat} (hk : k ≤ 32) (hp : 0 < p) (hp2 : p ≤ 512) (H : Hp) : HCalls Try.prog 87 #[.int .i64 k, .int .i64 p] H (RetE (.agg (layV k p)) H) := by
  apply HCalls.ret
  apply W_layout_lay.ok
  unfold W_layout_lay
  intro b1 hb1
  intro b2 hb2'
  obtain ⟨hne, hb2⟩ := Hp.set_none hb2'
  refine StA_all (Hp.set_same _ _ _) (by rfl) (by rfl) (by rfl) ?_
  rw [Hp.set_set]
  refine HCalls.use (room_ok (k := k) (p := p) (by omega) hp (by omega) _) ?_
  try simp only [DI_int', DB_bool, DS_string, DP_pointer, DSl_slice, DM_map, DA_agg, DTup_tuple, DCons_cons, DNil_nil, NN_some, BIf_true, BIf_false, BIf_same, List.toList_toArray, Bool.not_true, Bool.not_false]
  have hr := roomN_le (k := k) (p := p) (by omega)
  have w8 : IntKind.i64.wrap (8 * (p : Int)) = ((8 * p : Nat) : Int) := by rw [i64w (by omega) (by omega)]; omega
  rw [w8]
  refine ⟨5, ?_⟩
  refine lay_round _ 4 b1 b2 _ k hk _ _ (by rfl) 9 _ (by omega) (by omega) 0 (by omega) ?_
  refine lay_round _ 3 b1 b2 _ k hk _ _ (by rfl) _ _ (by omega) (by omega) 1 (by omega) ?_
  refine lay_round _ 2 b1 b2 _ k hk _ _ (by rfl) _ _ (by omega) (by omega) 2 (by omega) ?_
  refine lay_round _ 1 b1 b2 _ k hk _ _ (by rfl) _ _ (by omega) (by omega) 3 (by omega) ?_
  unfold W_layout_lay.l4
  refine BIf_dneg (by decide) ?_
  have hv : (setAt (setAt (setAt (setAt (#[.int .i64 (k : Int), .int .i64 (p : Int), .int .i64 1, .int .i64 8, .int .i64 ((8 * p : Nat) : Int), .int .i64 0, .int .i64 0, .int .i64 0, .int .i64 0, .int .i64 0, .int .i64 0, .int .i64 0, .int .i64 0, .int .i64 0, .int .i64 0, .int .i64 0, .int .i64 0] : Array Value).toList
      (5 + 0 * 3) (extV 9 (roomN k p) ((2 ^ k : Nat) : Int)).toList).toArray.toList (5 + 1 * 3) (extV (9 + roomN k p) (roomN k p) ((2 ^ k : Nat) : Int)).toList).toArray.toList (5 + 2 * 3) (extV (9 + roomN k p + roomN k p) (roomN k p) ((2 ^ k : Nat) : Int)).toList).toArray.toList (5 + 3 * 3) (extV (9 + roomN k p + roomN k p + roomN k p) (roomN k p) ((2 ^ k : Nat) : Int)).toList).toArray = layV k p := by
    have e2 : (9 + (roomN k p : Int) + roomN k p) = 9 + 2 * roomN k p := by omega
    have e3 : (9 + 2 * (roomN k p : Int) + roomN k p) = 9 + 3 * roomN k p := by omega
    rw [e2, e3]
    rfl
  rw [hv]
  refine LdA_obj (Hp.set_same _ _ _) (by rfl) ?_
  refine StA_all (c := layZ) (y := (layV k p)) (by rw [Hp.set_other _ _ (Ne.symm hne)]; exact Hp.set_same _ _ _) (by rfl) (by rfl) (by rfl) ?_
  refine LdA_obj (Hp.set_same _ _ _) (by rfl) ?_
  exact ⟨rfl, fun b q hq => by
    have h1 : b ≠ b1 := fun e => by rw [e, hb1] at hq; cases hq
    have h2 : b ≠ b2 := fun e => by rw [e, hb2] at hq; cases hq
    rw [Hp.set_other _ _ h1, Hp.set_other _ _ h2, Hp.set_other _ _ h1]; exact hq⟩

/-- Of's answer. -/
def OfV (k sec s : Int) : Array Value × Int :=
  if 0 ≤ k ∧ k ≤ 32 ∧ 0 < perN s then (if sec < needN k.toNat (perN s) then (layZ, 7) else (layV k.toNat (perN s), 0)) else (layZ, 1)

theorem Of_ok (k sec s : Int) (H : Hp) : HCalls Try.prog 76 #[.int .i64 k, .int .i64 sec, .int .i64 s] H (RetE (.tuple #[.agg (OfV k sec s).1, .int .i64 (OfV k sec s).2]) H) := by
  apply HCalls.ret
  apply W_layout_Of.ok
  unfold W_layout_Of
  intro b hb
  have hle := fun o => Hp.le_set (o := o) hb
  refine HCalls.use (Need_ok k s _) ?_
  try simp only [DI_int', DB_bool, DS_string, DP_pointer, DSl_slice, DM_map, DA_agg, DTup_tuple, DCons_cons, DNil_nil, NN_some, BIf_true, BIf_false, BIf_same, List.toList_toArray, Bool.not_true, Bool.not_false]
  unfold OfV NeedV
  by_cases h : 0 ≤ k ∧ k ≤ 32 ∧ 0 < perN s
  · rw [if_pos h, if_pos h]
    refine BIf_neg (by rfl) ?_
    by_cases h2 : sec < (needN k.toNat (perN s) : Int)
    · rw [if_pos h2]
      refine BIf_dpos h2 ?_
      refine StA_all (Hp.set_same _ _ _) (by rfl) (by rfl) (by rfl) (LdA_obj (Hp.set_same _ _ _) (by rfl) ?_)
      rw [Hp.set_set]
      exact ⟨rfl, hle _⟩
    · rw [if_neg h2]
      refine BIf_dneg h2 ?_
      refine HCalls.use (per_ok s _) ?_
      try simp only [DI_int', DB_bool, DS_string, DP_pointer, DSl_slice, DM_map, DA_agg, DTup_tuple, DCons_cons, DNil_nil, NN_some, BIf_true, BIf_false, BIf_same, List.toList_toArray, Bool.not_true, Bool.not_false]
      obtain ⟨n, rfl⟩ := Int.eq_ofNat_of_zero_le h.1
      have := perN_le s
      refine HCalls.use (lay_ok (k := n) (p := perN s) (by omega) h.2.2 this _) ?_
      try simp only [DI_int', DB_bool, DS_string, DP_pointer, DSl_slice, DM_map, DA_agg, DTup_tuple, DCons_cons, DNil_nil, NN_some, BIf_true, BIf_false, BIf_same, List.toList_toArray, Bool.not_true, Bool.not_false]
      refine StA_all (Hp.set_same _ _ _) (by rfl) (by rfl) (by rfl) (LdA_obj (Hp.set_same _ _ _) (by rfl) ?_)
      rw [Hp.set_set]
      exact ⟨rfl, hle _⟩
  · rw [if_neg h, if_neg h]
    refine BIf_pos (by rfl) ?_
    refine StA_all (Hp.set_same _ _ _) (by rfl) (by rfl) (by rfl) (LdA_obj (Hp.set_same _ _ _) (by rfl) ?_)
    rw [Hp.set_set]
    exact ⟨rfl, hle _⟩

/-- Sector's answer. -/
def SectorV (f s w p i : Int) : Int × Int × Int := if p < 1 ∨ i < 0 ∨ i ≥ w ∨ Int.tdiv i p ≥ s then (0, 0, 2) else (f + Int.tdiv i p, Int.tmod i p, 0)

theorem Sector_ok (f s w p i : Int) (hf : 0 ≤ f ∧ f ≤ 1000000000000) (hw : w ≤ 1000000000000) (H : Hp) :
    HCalls Try.prog 72 #[.agg (extV f s w), .int .i64 p, .int .i64 i] H (RetE (.tuple #[.int .i64 (SectorV f s w p i).1, .int .i64 (SectorV f s w p i).2.1, .int .i64 (SectorV f s w p i).2.2]) H) := by
  apply HCalls.ret
  apply W_layout_Sector.ok
  unfold W_layout_Sector
  intro b hb
  have hle := Hp.le_set (o := .obj (.cells #[.int .i64 f, .int .i64 s, .int .i64 w] 97)) hb
  simp only [Addr.add_lit', Nat.zero_add]
  have no : (p < 1 ∨ i < 0 ∨ i ≥ w ∨ Int.tdiv i p ≥ s) → Ret (.tuple #[.int .i64 (SectorV f s w p i).1, .int .i64 (SectorV f s w p i).2.1, .int .i64 (SectorV f s w p i).2.2]) H (.tuple #[.int .i64 0, .int .i64 0, .int .i64 2]) (H.set b (.obj (.cells #[.int .i64 f, .int .i64 s, .int .i64 w] 97))) := fun h => by
    unfold SectorV; rw [if_pos h]; exact ⟨rfl, hle⟩
  rw [BIf_decide, BIf_decide]
  split
  · exact no (by omega)
  split
  · exact no (by omega)
  refine Ld_obj (Hp.set_same _ _ _) (v := .int .i64 w) rfl ?_
  simp only [DI_int', DB_bool, DS_string, DP_pointer, DSl_slice, DM_map, DA_agg, DTup_tuple, DCons_cons, DNil_nil, NN_some, BIf_true, BIf_false, BIf_same, List.toList_toArray, Bool.not_true, Bool.not_false]
  rw [BIf_decide]
  split
  · exact no (by omega)
  refine ⟨by omega, by simp, ?_⟩
  refine Ld_obj (Hp.set_same _ _ _) (v := .int .i64 s) rfl ?_
  simp only [DI_int', DB_bool, DS_string, DP_pointer, DSl_slice, DM_map, DA_agg, DTup_tuple, DCons_cons, DNil_nil, NN_some, BIf_true, BIf_false, BIf_same, List.toList_toArray, Bool.not_true, Bool.not_false]
  have h1 : 0 ≤ Int.tdiv i p := Int.tdiv_nonneg (by omega) (by omega)
  have h2 : Int.tdiv i p ≤ i := by
    obtain ⟨a, rfl⟩ := Int.eq_ofNat_of_zero_le (show 0 ≤ i by omega)
    obtain ⟨c, rfl⟩ := Int.eq_ofNat_of_zero_le (show 0 ≤ p by omega)
    exact Int.ofNat_le.2 (Nat.div_le_self a c)
  rw [i64w (x := Int.tdiv i p) (by omega) (by omega), BIf_decide]
  split
  · rename_i h3; exact no (by omega)
  refine Ld_obj (Hp.set_same _ _ _) (v := .int .i64 f) rfl ?_
  simp only [DI_int', DB_bool, DS_string, DP_pointer, DSl_slice, DM_map, DA_agg, DTup_tuple, DCons_cons, DNil_nil, NN_some, BIf_true, BIf_false, BIf_same, List.toList_toArray, Bool.not_true, Bool.not_false]
  refine ⟨by omega, by simp, by omega, by simp, ?_⟩
  rw [i64w (x := f + Int.tdiv i p) (by omega) (by omega)]
  unfold SectorV
  rw [if_neg (by omega)]
  exact ⟨rfl, hle⟩

/-- Part's answer. -/
def PartV (f s w p from' n : Int) : Int × Int × Int :=
  if n < 1 ∨ from' < 0 ∨ from' ≥ w ∨ n > w - from' then (0, 0, 2) else
    if (SectorV f s w p from').2.2 = 0 then
      (if (SectorV f s w p (from' + n - 1)).2.2 = 0 then ((SectorV f s w p from').1, (SectorV f s w p (from' + n - 1)).1, 0) else (0, 0, (SectorV f s w p (from' + n - 1)).2.2))
    else (0, 0, (SectorV f s w p from').2.2)

/-- Whose a sector is. -/
def ownerI (r x : Int) : Int :=
  if x = 0 then -1 else if 1 ≤ x ∧ x < 9 then -2 else if 9 ≤ x ∧ x < 9 + r then 0 else if 9 + r ≤ x ∧ x < 9 + 2 * r then 1 else if 9 + 2 * r ≤ x ∧ x < 9 + 3 * r then 2 else if 9 + 3 * r ≤ x ∧ x < 9 + 4 * r then 3 else -3

def exF (r : Int) (i : Nat) : Int := 9 + i * r

/-! ## The law -/

def plN (x2 : Nat) : Nat := 4 * 2 ^ (x2 % 8)

theorem plN_facts (x2 : Nat) : 4 ≤ plN x2 ∧ plN x2 ≤ 512 ∧ perN ((8 * plN x2 : Nat) : Int) = plN x2 := by
  unfold plN
  rcases (by omega : x2 % 8 = 0 ∨ x2 % 8 = 1 ∨ x2 % 8 = 2 ∨ x2 % 8 = 3 ∨ x2 % 8 = 4 ∨ x2 % 8 = 5 ∨ x2 % 8 = 6 ∨ x2 % 8 = 7) with h | h | h | h | h | h | h | h <;> rw [h] <;> decide

theorem shl_four (x2 : Nat) (h : x2 ≤ 255) : shlI .i64 4 (IntKind.u64.wrap (Int.tmod (x2 : Int) 8)) = (plN x2 : Int) := by
  rw [show Int.tmod (x2 : Int) 8 = ((x2 % 8 : Nat) : Int) from rfl, u64n (by omega)]
  unfold plN
  rcases (by omega : x2 % 8 = 0 ∨ x2 % 8 = 1 ∨ x2 % 8 = 2 ∨ x2 % 8 = 3 ∨ x2 % 8 = 4 ∨ x2 % 8 = 5 ∨ x2 % 8 = 6 ∨ x2 % 8 = 7) with h | h | h | h | h | h | h | h <;> rw [h] <;> decide

theorem lay_ext (k p i : Nat) (hi : i < 4) : ((layV k p).toList.drop (5 + i * 3)).take 3 = (extV (exF (roomN k p) i) (roomN k p) ((2 ^ k : Nat) : Int)).toList := by
  unfold exF
  rcases (by omega : i = 0 ∨ i = 1 ∨ i = 2 ∨ i = 3) with rfl | rfl | rfl | rfl <;> simp [layV, extV]
theorem lay_first (k p i : Nat) (hi : i < 4) : (layV k p)[5 + i * 3]? = some (.int .i64 (exF (roomN k p) i)) := by
  unfold exF
  rcases (by omega : i = 0 ∨ i = 1 ∨ i = 2 ∨ i = 3) with rfl | rfl | rfl | rfl <;> simp [layV]
theorem lay_sectors (k p i : Nat) (hi : i < 4) : (layV k p)[5 + i * 3 + 1]? = some (.int .i64 (roomN k p)) := by
  rcases (by omega : i = 0 ∨ i = 1 ∨ i = 2 ∨ i = 3) with rfl | rfl | rfl | rfl <;> simp [layV]

section
variable (K : Value → Hp → Prop) (k p e : Nat) (hk : k ≤ 10) (b1 b2 : Nat) (H0 H : Hp) (hle : H0.le H) (h1 : H b1 = some (.obj (.cells (layV k p) 149))) (h2 : H b2 = some (.obj (.cells (extV (exF (roomN k p) e) (roomN k p) ((2 ^ k : Nat) : Int)) 97)))
include hk hle h1 h2

theorem sec_in (hp : 4 ≤ p) (i : Int) (hi : 0 ≤ i ∧ i < ((2 ^ k : Nat) : Int)) : SectorV (exF (roomN k p) e) (roomN k p) ((2 ^ k : Nat) : Int) p i = (exF (roomN k p) e + Int.tdiv i p, Int.tmod i p, 0) ∧ 0 ≤ Int.tdiv i p ∧ Int.tdiv i p < roomN k p := by
  obtain ⟨a, rfl⟩ := Int.eq_ofNat_of_zero_le hi.1
  have h3 : a / p ≤ (2 ^ k - 1) / p := Nat.div_le_div_right (by omega)
  have h4 : Int.tdiv (a : Int) (p : Int) = ((a / p : Nat) : Int) := rfl
  have h5 : (a / p : Nat) < roomN k p := by unfold roomN; omega
  have h6 : (0 : Int) ≤ ((a / p : Nat) : Int) := Int.natCast_nonneg _
  have h7 : ((a / p : Nat) : Int) < (roomN k p : Int) := Int.ofNat_lt.2 h5
  rw [← h4] at h6 h7
  refine ⟨?_, h6, h7⟩
  unfold SectorV
  rw [if_neg (by omega)]

end

end Go.Proofs.Ytbnhfcdagoigkaa.Lay
