/- layout: places; the law LayoutPlaces. -/
import Derived.Test.YtdjdielefolfbaaLayA
import Derived.Test.YtdjdielefolfbaaHwN
set_option linter.unusedSimpArgs false
set_option linter.unusedVariables false
set_option linter.unnecessarySimpa false
set_option linter.unusedSectionVars false
namespace Go.Proofs.Ytdjdielefolfbaa.Lay
open Go Go.Hw Go.Proofs.Ytdjdielefolfbaa.W

def extV (f s w : Int) : Array Value := #[.int .i64 f, .int .i64 s, .int .i64 w]
/-- A layout's cells. -/
def layV (k p : Nat) : Array Value :=
  let r : Int := roomN k p
  let w : Int := (2 ^ k : Nat)
  #[.int .i64 k, .int .i64 p, .int .i64 1, .int .i64 8, .int .i64 ((8 * p : Nat) : Int), .int .i64 9, .int .i64 r, .int .i64 w, .int .i64 (9 + r), .int .i64 r, .int .i64 w, .int .i64 (9 + 2 * r), .int .i64 r, .int .i64 w, .int .i64 (9 + 3 * r), .int .i64 r, .int .i64 w]
def layZ : Array Value := #[.int .i64 0, .int .i64 0, .int .i64 0, .int .i64 0, .int .i64 0, .int .i64 0, .int .i64 0, .int .i64 0, .int .i64 0, .int .i64 0, .int .i64 0, .int .i64 0, .int .i64 0, .int .i64 0, .int .i64 0, .int .i64 0, .int .i64 0]

theorem lay_round (K : Value → Hp → Prop) (d b1 b2 : Nat) (e : TypeId) (k : Nat) (hk : k ≤ 32) (H : Hp) (c : Array Value) (hc : c.size = 17) (x r : Int) (hx : 0 ≤ x ∧ x ≤ 100000000000) (hr : 0 ≤ r ∧ r ≤ 100000000000) (i : Nat) (hi : i < 4)
    (h : W_layout_lay.l4 K d (k : Int) ⟨b1, 0, none⟩ ⟨b2, 0, none⟩ (x + r) r ((i + 1 : Nat) : Int) (H.set b2 (.obj (.cells (setAt c.toList (5 + i * 3) (extV x r ((2 ^ k : Nat) : Int)).toList).toArray e)))) :
    W_layout_lay.l4 K (d + 1) (k : Int) ⟨b1, 0, none⟩ ⟨b2, 0, none⟩ x r (i : Int) (H.set b2 (.obj (.cells c e))) := by
  conv => unfold W_layout_lay.l4
  refine BIf_dpos (by omega) ⟨by rw [u64n (by omega)]; omega, by omega, by omega, ?_⟩
  simp only [Addr.add_lit', Int.toNat_natCast, Nat.zero_add]
  rw [u64n (by omega), shl_one (by omega)]
  refine StA_lit (Hp.set_same _ _ _) (by omega) (by rfl) (by rfl) ?_
  rw [Hp.set_set, i64w (x := x + r) (by omega) (by omega), i64w (x := (i : Int) + 1) (by omega) (by omega)]
  exact h

theorem lay_ok {k p : Nat} (hk : k ≤ 32) (hp : 0 < p) (hp2 : p ≤ 512) (H : Hp) : HCalls Try.prog 46 #[.int .i64 k, .int .i64 p] H (RetE (.agg (layV k p)) H) := by
  apply HCalls.ret
  apply W_layout_lay.ok
  unfold W_layout_lay
  intro b1 hb1
  intro b2 hb2'
  obtain ⟨hne, hb2⟩ := Hp.set_none hb2'
  refine StA_all (Hp.set_same _ _ _) (by rfl) (by rfl) (by rfl) ?_
  rw [Hp.set_set]
  refine HCalls.use (room_ok (k := k) (p := p) (by omega) hp (by omega) _) ?_
  try simp only [DI_int', DB_bool, DS_string, DP_pointer, DSl_slice, DM_map, DA_agg, DTup_tuple, DCons_cons, DNil_nil, NN_some, BIf_true, BIf_false, BIf_same, List.toList_toArray, Bool.not_true, Bool.not_false]
  have hr := roomN_le (k := k) (p := p) (by omega)
  have w8 : IntKind.i64.wrap (8 * (p : Int)) = ((8 * p : Nat) : Int) := by rw [i64w (by omega) (by omega)]; omega
  rw [w8]
  refine ⟨5, ?_⟩
  refine lay_round _ 4 b1 b2 _ k hk _ _ (by rfl) 9 _ (by omega) (by omega) 0 (by omega) ?_
  refine lay_round _ 3 b1 b2 _ k hk _ _ (by rfl) _ _ (by omega) (by omega) 1 (by omega) ?_
  refine lay_round _ 2 b1 b2 _ k hk _ _ (by rfl) _ _ (by omega) (by omega) 2 (by omega) ?_
  refine lay_round _ 1 b1 b2 _ k hk _ _ (by rfl) _ _ (by omega) (by omega) 3 (by omega) ?_
  unfold W_layout_lay.l4
  refine BIf_dneg (by decide) ?_
  have hv : (setAt (setAt (setAt (setAt (#[.int .i64 (k : Int), .int .i64 (p : Int), .int .i64 1, .int .i64 8, .int .i64 ((8 * p : Nat) : Int), .int .i64 0, .int .i64 0, .int .i64 0, .int .i64 0, .int .i64 0, .int .i64 0, .int .i64 0, .int .i64 0, .int .i64 0, .int .i64 0, .int .i64 0, .int .i64 0] : Array Value).toList
      (5 + 0 * 3) (extV 9 (roomN k p) ((2 ^ k : Nat) : Int)).toList).toArray.toList (5 + 1 * 3) (extV (9 + roomN k p) (roomN k p) ((2 ^ k : Nat) : Int)).toList).toArray.toList (5 + 2 * 3) (extV (9 + roomN k p + roomN k p) (roomN k p) ((2 ^ k : Nat) : Int)).toList).toArray.toList (5 + 3 * 3) (extV (9 + roomN k p + roomN k p + roomN k p) (roomN k p) ((2 ^ k : Nat) : Int)).toList).toArray = layV k p := by
    have e2 : (9 + (roomN k p : Int) + roomN k p) = 9 + 2 * roomN k p := by omega
    have e3 : (9 + 2 * (roomN k p : Int) + roomN k p) = 9 + 3 * roomN k p := by omega
    rw [e2, e3]
    rfl
  rw [hv]
  refine LdA_obj (Hp.set_same _ _ _) (by rfl) ?_
  refine StA_all (c := layZ) (y := (layV k p)) (by rw [Hp.set_other _ _ (Ne.symm hne)]; exact Hp.set_same _ _ _) (by rfl) (by rfl) (by rfl) ?_
  refine LdA_obj (Hp.set_same _ _ _) (by rfl) ?_
  exact ⟨rfl, fun b q hq => by
    have h1 : b ≠ b1 := fun e => by rw [e, hb1] at hq; cases hq
    have h2 : b ≠ b2 := fun e => by rw [e, hb2] at hq; cases hq
    rw [Hp.set_other _ _ h1, Hp.set_other _ _ h2, Hp.set_other _ _ h1]; exact hq⟩

/-- Of's answer. -/
def OfV (k sec s : Int) : Array Value × Int :=
  if 0 ≤ k ∧ k ≤ 32 ∧ 0 < perN s then (if sec < needN k.toNat (perN s) then (layZ, 7) else (layV k.toNat (perN s), 0)) else (layZ, 1)

theorem Of_ok (k sec s : Int) (H : Hp) : HCalls Try.prog 36 #[.int .i64 k, .int .i64 sec, .int .i64 s] H (RetE (.tuple #[.agg (OfV k sec s).1, .int .i64 (OfV k sec s).2]) H) := by
  apply HCalls.ret
  apply W_layout_Of.ok
  unfold W_layout_Of
  intro b hb
  have hle := fun o => Hp.le_set (o := o) hb
  refine HCalls.use (Need_ok k s _) ?_
  try simp only [DI_int', DB_bool, DS_string, DP_pointer, DSl_slice, DM_map, DA_agg, DTup_tuple, DCons_cons, DNil_nil, NN_some, BIf_true, BIf_false, BIf_same, List.toList_toArray, Bool.not_true, Bool.not_false]
  unfold OfV NeedV
  by_cases h : 0 ≤ k ∧ k ≤ 32 ∧ 0 < perN s
  · rw [if_pos h, if_pos h]
    refine BIf_neg (by rfl) ?_
    by_cases h2 : sec < (needN k.toNat (perN s) : Int)
    · rw [if_pos h2]
      refine BIf_dpos h2 ?_
      refine StA_all (Hp.set_same _ _ _) (by rfl) (by rfl) (by rfl) (LdA_obj (Hp.set_same _ _ _) (by rfl) ?_)
      rw [Hp.set_set]
      exact ⟨rfl, hle _⟩
    · rw [if_neg h2]
      refine BIf_dneg h2 ?_
      refine HCalls.use (per_ok s _) ?_
      try simp only [DI_int', DB_bool, DS_string, DP_pointer, DSl_slice, DM_map, DA_agg, DTup_tuple, DCons_cons, DNil_nil, NN_some, BIf_true, BIf_false, BIf_same, List.toList_toArray, Bool.not_true, Bool.not_false]
      obtain ⟨n, rfl⟩ := Int.eq_ofNat_of_zero_le h.1
      have := perN_le s
      refine HCalls.use (lay_ok (k := n) (p := perN s) (by omega) h.2.2 this _) ?_
      try simp only [DI_int', DB_bool, DS_string, DP_pointer, DSl_slice, DM_map, DA_agg, DTup_tuple, DCons_cons, DNil_nil, NN_some, BIf_true, BIf_false, BIf_same, List.toList_toArray, Bool.not_true, Bool.not_false]
      refine StA_all (Hp.set_same _ _ _) (by rfl) (by rfl) (by rfl) (LdA_obj (Hp.set_same _ _ _) (by rfl) ?_)
      rw [Hp.set_set]
      exact ⟨rfl, hle _⟩
  · rw [if_neg h, if_neg h]
    refine BIf_pos (by rfl) ?_
    refine StA_all (Hp.set_same _ _ _) (by rfl) (by rfl) (by rfl) (LdA_obj (Hp.set_same _ _ _) (by rfl) ?_)
    rw [Hp.set_set]
    exact ⟨rfl, hle _⟩

theorem inside_ok (f s w x : Int) (hf : 0 ≤ f) (hx : x ≤ 9223372036854775807) (H : Hp) : HCalls Try.prog 48 #[.agg (extV f s w), .int .i64 x] H (RetE (.bool (decide (f ≤ x ∧ x - f < s))) H) := by
  apply HCalls.ret
  apply W_layout_inside.ok
  unfold W_layout_inside
  intro b hb
  have hle := Hp.le_set (o := .obj (.cells #[.int .i64 f, .int .i64 s, .int .i64 w] 72)) hb
  simp only [Addr.add_lit', Nat.zero_add]
  refine Ld_obj (Hp.set_same _ _ _) (v := .int .i64 f) rfl ?_
  simp only [DI_int', DB_bool, DS_string, DP_pointer, DSl_slice, DM_map, DA_agg, DTup_tuple, DCons_cons, DNil_nil, NN_some, BIf_true, BIf_false, BIf_same, List.toList_toArray, Bool.not_true, Bool.not_false]
  rw [BIf_decide]
  split
  · rename_i h
    refine Ld_obj (Hp.set_same _ _ _) (v := .int .i64 f) rfl ?_
    simp only [DI_int', DB_bool, DS_string, DP_pointer, DSl_slice, DM_map, DA_agg, DTup_tuple, DCons_cons, DNil_nil, NN_some, BIf_true, BIf_false, BIf_same, List.toList_toArray, Bool.not_true, Bool.not_false]
    refine Ld_obj (Hp.set_same _ _ _) (v := .int .i64 s) rfl ?_
    simp only [DI_int', DB_bool, DS_string, DP_pointer, DSl_slice, DM_map, DA_agg, DTup_tuple, DCons_cons, DNil_nil, NN_some, BIf_true, BIf_false, BIf_same, List.toList_toArray, Bool.not_true, Bool.not_false]
    rw [i64w (x := x - f) (by omega) (by omega)]
    refine ⟨?_, hle⟩
    congr 1; simp only [decide_eq_decide]; omega
  · refine ⟨?_, hle⟩
    congr 1
    exact (decide_eq_false (by omega)).symm

/-- Sector's answer. -/
def SectorV (f s w p i : Int) : Int × Int × Int := if p < 1 ∨ i < 0 ∨ i ≥ w ∨ Int.tdiv i p ≥ s then (0, 0, 2) else (f + Int.tdiv i p, Int.tmod i p, 0)

theorem Sector_ok (f s w p i : Int) (hf : 0 ≤ f ∧ f ≤ 1000000000000) (hw : w ≤ 1000000000000) (H : Hp) :
    HCalls Try.prog 37 #[.agg (extV f s w), .int .i64 p, .int .i64 i] H (RetE (.tuple #[.int .i64 (SectorV f s w p i).1, .int .i64 (SectorV f s w p i).2.1, .int .i64 (SectorV f s w p i).2.2]) H) := by
  apply HCalls.ret
  apply W_layout_Sector.ok
  unfold W_layout_Sector
  intro b hb
  have hle := Hp.le_set (o := .obj (.cells #[.int .i64 f, .int .i64 s, .int .i64 w] 72)) hb
  simp only [Addr.add_lit', Nat.zero_add]
  have no : (p < 1 ∨ i < 0 ∨ i ≥ w ∨ Int.tdiv i p ≥ s) → Ret (.tuple #[.int .i64 (SectorV f s w p i).1, .int .i64 (SectorV f s w p i).2.1, .int .i64 (SectorV f s w p i).2.2]) H (.tuple #[.int .i64 0, .int .i64 0, .int .i64 2]) (H.set b (.obj (.cells #[.int .i64 f, .int .i64 s, .int .i64 w] 72))) := fun h => by
    unfold SectorV; rw [if_pos h]; exact ⟨rfl, hle⟩
  rw [BIf_decide, BIf_decide]
  split
  · exact no (by omega)
  split
  · exact no (by omega)
  refine Ld_obj (Hp.set_same _ _ _) (v := .int .i64 w) rfl ?_
  simp only [DI_int', DB_bool, DS_string, DP_pointer, DSl_slice, DM_map, DA_agg, DTup_tuple, DCons_cons, DNil_nil, NN_some, BIf_true, BIf_false, BIf_same, List.toList_toArray, Bool.not_true, Bool.not_false]
  rw [BIf_decide]
  split
  · exact no (by omega)
  refine ⟨by omega, by simp, ?_⟩
  refine Ld_obj (Hp.set_same _ _ _) (v := .int .i64 s) rfl ?_
  simp only [DI_int', DB_bool, DS_string, DP_pointer, DSl_slice, DM_map, DA_agg, DTup_tuple, DCons_cons, DNil_nil, NN_some, BIf_true, BIf_false, BIf_same, List.toList_toArray, Bool.not_true, Bool.not_false]
  have h1 : 0 ≤ Int.tdiv i p := Int.tdiv_nonneg (by omega) (by omega)
  have h2 : Int.tdiv i p ≤ i := by
    obtain ⟨a, rfl⟩ := Int.eq_ofNat_of_zero_le (show 0 ≤ i by omega)
    obtain ⟨c, rfl⟩ := Int.eq_ofNat_of_zero_le (show 0 ≤ p by omega)
    exact Int.ofNat_le.2 (Nat.div_le_self a c)
  rw [i64w (x := Int.tdiv i p) (by omega) (by omega), BIf_decide]
  split
  · rename_i h3; exact no (by omega)
  refine Ld_obj (Hp.set_same _ _ _) (v := .int .i64 f) rfl ?_
  simp only [DI_int', DB_bool, DS_string, DP_pointer, DSl_slice, DM_map, DA_agg, DTup_tuple, DCons_cons, DNil_nil, NN_some, BIf_true, BIf_false, BIf_same, List.toList_toArray, Bool.not_true, Bool.not_false]
  refine ⟨by omega, by simp, by omega, by simp, ?_⟩
  rw [i64w (x := f + Int.tdiv i p) (by omega) (by omega)]
  unfold SectorV
  rw [if_neg (by omega)]
  exact ⟨rfl, hle⟩

/-- Part's answer. -/
def PartV (f s w p from' n : Int) : Int × Int × Int :=
  if n < 1 ∨ from' < 0 ∨ from' ≥ w ∨ n > w - from' then (0, 0, 2) else
    if (SectorV f s w p from').2.2 = 0 then
      (if (SectorV f s w p (from' + n - 1)).2.2 = 0 then ((SectorV f s w p from').1, (SectorV f s w p (from' + n - 1)).1, 0) else (0, 0, (SectorV f s w p (from' + n - 1)).2.2))
    else (0, 0, (SectorV f s w p from').2.2)

theorem Part_ok (f s w p i n : Int) (hf : 0 ≤ f ∧ f ≤ 1000000000000) (hw : 0 ≤ w ∧ w ≤ 1000000000000) (hn : n ≤ 9223372036854775807) (H : Hp) :
    HCalls Try.prog 39 #[.agg (extV f s w), .int .i64 p, .int .i64 i, .int .i64 n] H (RetE (.tuple #[.int .i64 (PartV f s w p i n).1, .int .i64 (PartV f s w p i n).2.1, .int .i64 (PartV f s w p i n).2.2]) H) := by
  apply HCalls.ret
  apply W_layout_Part.ok
  unfold W_layout_Part
  intro b hb
  have hle := Hp.le_set (o := .obj (.cells #[.int .i64 f, .int .i64 s, .int .i64 w] 72)) hb
  simp only [Addr.add_lit', Nat.zero_add]
  have no : (n < 1 ∨ i < 0 ∨ i ≥ w ∨ n > w - i) → Ret (.tuple #[.int .i64 (PartV f s w p i n).1, .int .i64 (PartV f s w p i n).2.1, .int .i64 (PartV f s w p i n).2.2]) H (.tuple #[.int .i64 0, .int .i64 0, .int .i64 2]) (H.set b (.obj (.cells #[.int .i64 f, .int .i64 s, .int .i64 w] 72))) := fun h => by
    unfold PartV; rw [if_pos h]; exact ⟨rfl, hle⟩
  rw [BIf_decide, BIf_decide]
  split
  · exact no (by omega)
  split
  · exact no (by omega)
  refine Ld_obj (Hp.set_same _ _ _) (v := .int .i64 w) rfl ?_
  simp only [DI_int', DB_bool, DS_string, DP_pointer, DSl_slice, DM_map, DA_agg, DTup_tuple, DCons_cons, DNil_nil, NN_some, BIf_true, BIf_false, BIf_same, List.toList_toArray, Bool.not_true, Bool.not_false]
  rw [BIf_decide]
  split
  · exact no (by omega)
  refine Ld_obj (Hp.set_same _ _ _) (v := .int .i64 w) rfl ?_
  simp only [DI_int', DB_bool, DS_string, DP_pointer, DSl_slice, DM_map, DA_agg, DTup_tuple, DCons_cons, DNil_nil, NN_some, BIf_true, BIf_false, BIf_same, List.toList_toArray, Bool.not_true, Bool.not_false]
  rw [i64w (x := w - i) (by omega) (by omega), BIf_decide]
  split
  · exact no (by omega)
  refine LdA_obj (Hp.set_same _ _ _) (by rfl) ?_
  rw [show ([.int .i64 f, .int .i64 s, .int .i64 w] : List Value).toArray = extV f s w from rfl]
  have nn : ¬ (n < 1 ∨ i < 0 ∨ i ≥ w ∨ n > w - i) := by omega
  refine HCalls.use (Sector_ok f s w p i hf hw.2 _) ?_
  try simp only [DI_int', DB_bool, DS_string, DP_pointer, DSl_slice, DM_map, DA_agg, DTup_tuple, DCons_cons, DNil_nil, NN_some, BIf_true, BIf_false, BIf_same, List.toList_toArray, Bool.not_true, Bool.not_false]
  unfold PartV
  rw [if_neg nn]
  by_cases h0 : (SectorV f s w p i).2.2 = 0
  · rw [if_pos h0]
    refine BIf_pos (by rw [h0]; rfl) ?_
    refine LdA_obj (Hp.set_same _ _ _) (by rfl) ?_
    rw [Array.toArray_toList]
    rw [i64w (x := i + n) (by omega) (by omega), i64w (x := i + n - 1) (by omega) (by omega)]
    refine HCalls.use (Sector_ok f s w p (i + n - 1) hf hw.2 _) ?_
    try simp only [DI_int', DB_bool, DS_string, DP_pointer, DSl_slice, DM_map, DA_agg, DTup_tuple, DCons_cons, DNil_nil, NN_some, BIf_true, BIf_false, BIf_same, List.toList_toArray, Bool.not_true, Bool.not_false]
    unfold W_layout_Part.j6
    by_cases h1 : (SectorV f s w p (i + n - 1)).2.2 = 0
    · rw [if_pos h1]
      refine BIf_neg (by rw [h1]; rfl) ⟨rfl, hle⟩
    · rw [if_neg h1]
      refine BIf_pos (by simpa using h1) ⟨rfl, hle⟩
  · rw [if_neg h0]
    refine BIf_neg (by simpa using h0) ?_
    unfold W_layout_Part.j6
    refine BIf_pos (by simpa using h0) ⟨rfl, hle⟩

/-- Whose a sector is. -/
def ownerI (r x : Int) : Int :=
  if x = 0 then -1 else if 1 ≤ x ∧ x < 9 then -2 else if 9 ≤ x ∧ x < 9 + r then 0 else if 9 + r ≤ x ∧ x < 9 + 2 * r then 1 else if 9 + 2 * r ≤ x ∧ x < 9 + 3 * r then 2 else if 9 + 3 * r ≤ x ∧ x < 9 + 4 * r then 3 else -3

def exF (r : Int) (i : Nat) : Int := 9 + i * r

theorem owner_round (K : Value → Hp → Prop) (d k p : Nat) (hk : k ≤ 32) (x : Int) (hx : x ≤ 9223372036854775807) (H0 H : Hp) (hle : H0.le H) (l : List Value) (hl : l = (layV k p).toList.drop 5) (i : Nat) (hi : i < 4)
    (h1 : ∀ H', H0.le H' → (exF (roomN k p) i ≤ x ∧ x < exF (roomN k p) i + roomN k p) → K (.int .i64 (i : Int)) H') (h2 : ∀ H', H0.le H' → ¬ (exF (roomN k p) i ≤ x ∧ x < exF (roomN k p) i + roomN k p) → W_layout_Owner.l6 K d x l.toArray ((i + 1 : Nat) : Int) H') :
    W_layout_Owner.l6 K (d + 1) x l.toArray (i : Int) H := by
  conv => unfold W_layout_Owner.l6
  refine BIf_dpos (by omega) ⟨by omega, by omega, ?_⟩
  intro b hb
  have he : l.toArray.extract (i * 3) (i * 3 + 3) = extV (exF (roomN k p) i) (roomN k p) ((2 ^ k : Nat) : Int) := by
    subst hl
    unfold exF
    rcases (by omega : i = 0 ∨ i = 1 ∨ i = 2 ∨ i = 3) with rfl | rfl | rfl | rfl
    · simp [layV, extV]
    · simp [layV, extV]
    · simp [layV, extV]
    · simp [layV, extV]
  rw [Int.toNat_natCast, he]
  refine StA_all (Hp.set_same _ _ _) (by rfl) (by rfl) (by rfl) (LdA_obj (Hp.set_same _ _ _) (by rfl) ?_)
  rw [Hp.set_set, Array.toArray_toList]
  have hle' := Hp.le_trans hle (Hp.le_set (o := .obj (.cells (extV (exF (roomN k p) i) (roomN k p) ((2 ^ k : Nat) : Int)) 72)) hb)
  have hr := roomN_le (k := k) (p := p) (by omega)
  have hpos : 0 ≤ exF (roomN k p) i := by unfold exF; rcases (by omega : i = 0 ∨ i = 1 ∨ i = 2 ∨ i = 3) with rfl | rfl | rfl | rfl <;> omega
  refine HCalls.use (inside_ok (exF (roomN k p) i) (roomN k p) ((2 ^ k : Nat) : Int) x hpos hx _) ?_
  try simp only [DI_int', DB_bool, DS_string, DP_pointer, DSl_slice, DM_map, DA_agg, DTup_tuple, DCons_cons, DNil_nil, NN_some, BIf_true, BIf_false, BIf_same, List.toList_toArray, Bool.not_true, Bool.not_false]
  rw [BIf_decide, i64w (x := (i : Int) + 1) (by omega) (by omega)]
  split
  · exact h1 _ hle' (by omega)
  · exact h2 _ hle' (by omega)

theorem Owner_ok {k p : Nat} (hk : k ≤ 32) (x : Int) (hx : x ≤ 9223372036854775807) (H : Hp) : HCalls Try.prog 38 #[.agg (layV k p), .int .i64 x] H (RetE (.int .i64 (ownerI (roomN k p) x)) H) := by
  apply HCalls.ret
  apply W_layout_Owner.ok
  unfold W_layout_Owner
  intro b hb
  have hle := Hp.le_set (o := .obj (.cells (layV k p) 75)) hb
  have hr := roomN_le (k := k) (p := p) (by omega)
  have hr1 : 1 ≤ roomN k p := Nat.le_add_left 1 _
  have fin : ∀ (v : Int) (H' : Hp), H.le H' → ownerI (roomN k p) x = v → Ret (.int .i64 (ownerI (roomN k p) x)) H (.int .i64 v) H' := fun v H' h e => ⟨by rw [e], h⟩
  refine BIf_intro (fun h => ?_) (fun h => ?_)
  · have h' : x = 0 := by simpa using h
    exact fin _ _ hle (by unfold ownerI; rw [if_pos h'])
  have h0 : x ≠ 0 := by simpa using h
  simp only [Addr.add_lit']
  refine LdA_at (Hp.set_same _ _ _) (by show 0 + 2 + 3 ≤ 17; omega) ?_
  rw [show (List.take 3 (List.drop (0 + 2) (layV k p).toList)).toArray = extV 1 8 ((8 * p : Nat) : Int) from rfl]
  refine HCalls.use (inside_ok 1 8 ((8 * p : Nat) : Int) x (by omega) hx _) ?_
  try simp only [DI_int', DB_bool, DS_string, DP_pointer, DSl_slice, DM_map, DA_agg, DTup_tuple, DCons_cons, DNil_nil, NN_some, BIf_true, BIf_false, BIf_same, List.toList_toArray, Bool.not_true, Bool.not_false]
  rw [BIf_decide]
  split
  · rename_i h1
    exact fin _ _ hle (by unfold ownerI; rw [if_neg h0, if_pos (by omega)])
  rename_i h1
  refine LdA_at (Hp.set_same _ _ _) (by show 0 + 5 + 12 ≤ 17; omega) ?_
  rw [show List.take 12 (List.drop (0 + 5) (layV k p).toList) = (layV k p).toList.drop 5 from rfl]
  refine ⟨5, ?_⟩
  refine owner_round _ 4 k p hk x hx H _ hle _ rfl 0 (by omega) (fun H' hl h2 => fin _ _ hl ?_) (fun H2 hl2 h2 => ?_)
  · unfold exF at h2; unfold ownerI; rw [if_neg h0, if_neg (by omega), if_pos (by omega)]; rfl
  refine owner_round _ 3 k p hk x hx H _ hl2 _ rfl 1 (by omega) (fun H' hl h3 => fin _ _ hl ?_) (fun H3 hl3 h3 => ?_)
  · unfold exF at h2 h3; unfold ownerI; rw [if_neg h0, if_neg (by omega), if_neg (by omega), if_pos (by omega)]; rfl
  refine owner_round _ 2 k p hk x hx H _ hl3 _ rfl 2 (by omega) (fun H' hl h4 => fin _ _ hl ?_) (fun H4 hl4 h4 => ?_)
  · unfold exF at h2 h3 h4; unfold ownerI; rw [if_neg h0, if_neg (by omega), if_neg (by omega), if_neg (by omega), if_pos (by omega)]; rfl
  refine owner_round _ 1 k p hk x hx H _ hl4 _ rfl 3 (by omega) (fun H' hl h5 => fin _ _ hl ?_) (fun H5 hl5 h5 => ?_)
  · unfold exF at h2 h3 h4 h5; unfold ownerI; rw [if_neg h0, if_neg (by omega), if_neg (by omega), if_neg (by omega), if_neg (by omega), if_pos (by omega)]; rfl
  unfold W_layout_Owner.l6
  refine BIf_dneg (by decide) (fin _ _ hl5 ?_)
  unfold exF at h2 h3 h4 h5
  unfold ownerI
  rw [if_neg h0, if_neg (by omega), if_neg (by omega), if_neg (by omega), if_neg (by omega), if_neg (by omega)]

/-! ## The law -/

def plN (x2 : Nat) : Nat := 4 * 2 ^ (x2 % 8)

theorem plN_facts (x2 : Nat) : 4 ≤ plN x2 ∧ plN x2 ≤ 512 ∧ perN ((8 * plN x2 : Nat) : Int) = plN x2 := by
  unfold plN
  rcases (by omega : x2 % 8 = 0 ∨ x2 % 8 = 1 ∨ x2 % 8 = 2 ∨ x2 % 8 = 3 ∨ x2 % 8 = 4 ∨ x2 % 8 = 5 ∨ x2 % 8 = 6 ∨ x2 % 8 = 7) with h | h | h | h | h | h | h | h <;> rw [h] <;> decide

theorem shl_four (x2 : Nat) (h : x2 ≤ 255) : shlI .i64 4 (IntKind.u64.wrap (Int.tmod (x2 : Int) 8)) = (plN x2 : Int) := by
  rw [show Int.tmod (x2 : Int) 8 = ((x2 % 8 : Nat) : Int) from rfl, u64n (by omega)]
  unfold plN
  rcases (by omega : x2 % 8 = 0 ∨ x2 % 8 = 1 ∨ x2 % 8 = 2 ∨ x2 % 8 = 3 ∨ x2 % 8 = 4 ∨ x2 % 8 = 5 ∨ x2 % 8 = 6 ∨ x2 % 8 = 7) with h | h | h | h | h | h | h | h <;> rw [h] <;> decide

theorem lay_ext (k p i : Nat) (hi : i < 4) : ((layV k p).toList.drop (5 + i * 3)).take 3 = (extV (exF (roomN k p) i) (roomN k p) ((2 ^ k : Nat) : Int)).toList := by
  unfold exF
  rcases (by omega : i = 0 ∨ i = 1 ∨ i = 2 ∨ i = 3) with rfl | rfl | rfl | rfl <;> simp [layV, extV]
theorem lay_first (k p i : Nat) (hi : i < 4) : (layV k p)[5 + i * 3]? = some (.int .i64 (exF (roomN k p) i)) := by
  unfold exF
  rcases (by omega : i = 0 ∨ i = 1 ∨ i = 2 ∨ i = 3) with rfl | rfl | rfl | rfl <;> simp [layV]
theorem lay_sectors (k p i : Nat) (hi : i < 4) : (layV k p)[5 + i * 3 + 1]? = some (.int .i64 (roomN k p)) := by
  rcases (by omega : i = 0 ∨ i = 1 ∨ i = 2 ∨ i = 3) with rfl | rfl | rfl | rfl <;> simp [layV]

section
variable (K : Value → Hp → Prop) (k p e : Nat) (hk : k ≤ 10) (b1 b2 : Nat) (H0 H : Hp) (hle : H0.le H) (h1 : H b1 = some (.obj (.cells (layV k p) 75))) (h2 : H b2 = some (.obj (.cells (extV (exF (roomN k p) e) (roomN k p) ((2 ^ k : Nat) : Int)) 72)))
include hk hle h1 h2

theorem pl_no (d : Nat) (x own : Int) (i : Nat) (hi : i < 4) (hno : ¬ (exF (roomN k p) i ≤ x ∧ x < exF (roomN k p) i + roomN k p)) (h : W_abacistlaw17_LayoutPlaces.l26 K d x ⟨b1, 0, none⟩ ⟨b2, 0, none⟩ own ((i + 1 : Nat) : Int) H) :
    W_abacistlaw17_LayoutPlaces.l26 K (d + 1) x ⟨b1, 0, none⟩ ⟨b2, 0, none⟩ own (i : Int) H := by
  have hr := roomN_le (k := k) (p := p) (by omega)
  have hf : 9 ≤ exF (roomN k p) i ∧ exF (roomN k p) i ≤ 100000000000 := by unfold exF; rcases (by omega : i = 0 ∨ i = 1 ∨ i = 2 ∨ i = 3) with rfl | rfl | rfl | rfl <;> omega
  conv => unfold W_abacistlaw17_LayoutPlaces.l26
  refine BIf_dpos (by omega) ⟨by omega, by omega, ?_⟩
  simp only [Addr.add_lit', Int.toNat_natCast, Nat.zero_add, Nat.add_zero]
  refine Ld_obj h1 (lay_first k p i hi) ?_
  simp only [DI_int', DB_bool, DS_string, DP_pointer, DSl_slice, DM_map, DA_agg, DTup_tuple, DCons_cons, DNil_nil, NN_some, BIf_true, BIf_false, BIf_same, List.toList_toArray, Bool.not_true, Bool.not_false]
  rw [i64w (x := (i : Int) + 1) (by omega) (by omega), BIf_decide]
  split
  · refine ⟨by omega, by omega, Ld_obj h1 (lay_first k p i hi) ?_⟩
    simp only [DI_int', DB_bool, DS_string, DP_pointer, DSl_slice, DM_map, DA_agg, DTup_tuple, DCons_cons, DNil_nil, NN_some, BIf_true, BIf_false, BIf_same, List.toList_toArray, Bool.not_true, Bool.not_false]
    refine ⟨by omega, by omega, Ld_obj h1 (lay_sectors k p i hi) ?_⟩
    simp only [DI_int', DB_bool, DS_string, DP_pointer, DSl_slice, DM_map, DA_agg, DTup_tuple, DCons_cons, DNil_nil, NN_some, BIf_true, BIf_false, BIf_same, List.toList_toArray, Bool.not_true, Bool.not_false]
    rw [i64w (x := exF (roomN k p) i + (roomN k p : Int)) (by omega) (by omega)]
    exact BIf_dneg (by omega) h
  · exact h

theorem pl_yes (d : Nat) (x : Int) (i : Nat) (hi : i < 4) (hyes : exF (roomN k p) i ≤ x ∧ x < exF (roomN k p) i + roomN k p) (h : W_abacistlaw17_LayoutPlaces.l26 K d x ⟨b1, 0, none⟩ ⟨b2, 0, none⟩ (i : Int) ((i + 1 : Nat) : Int) H) :
    W_abacistlaw17_LayoutPlaces.l26 K (d + 1) x ⟨b1, 0, none⟩ ⟨b2, 0, none⟩ (-3) (i : Int) H := by
  have hr := roomN_le (k := k) (p := p) (by omega)
  have hf : 9 ≤ exF (roomN k p) i ∧ exF (roomN k p) i ≤ 100000000000 := by unfold exF; rcases (by omega : i = 0 ∨ i = 1 ∨ i = 2 ∨ i = 3) with rfl | rfl | rfl | rfl <;> omega
  conv => unfold W_abacistlaw17_LayoutPlaces.l26
  refine BIf_dpos (by omega) ⟨by omega, by omega, ?_⟩
  simp only [Addr.add_lit', Int.toNat_natCast, Nat.zero_add, Nat.add_zero]
  refine Ld_obj h1 (lay_first k p i hi) ?_
  simp only [DI_int', DB_bool, DS_string, DP_pointer, DSl_slice, DM_map, DA_agg, DTup_tuple, DCons_cons, DNil_nil, NN_some, BIf_true, BIf_false, BIf_same, List.toList_toArray, Bool.not_true, Bool.not_false]
  refine BIf_dpos (by omega) ⟨by omega, by omega, Ld_obj h1 (lay_first k p i hi) ?_⟩
  simp only [DI_int', DB_bool, DS_string, DP_pointer, DSl_slice, DM_map, DA_agg, DTup_tuple, DCons_cons, DNil_nil, NN_some, BIf_true, BIf_false, BIf_same, List.toList_toArray, Bool.not_true, Bool.not_false]
  refine ⟨by omega, by omega, Ld_obj h1 (lay_sectors k p i hi) ?_⟩
  simp only [DI_int', DB_bool, DS_string, DP_pointer, DSl_slice, DM_map, DA_agg, DTup_tuple, DCons_cons, DNil_nil, NN_some, BIf_true, BIf_false, BIf_same, List.toList_toArray, Bool.not_true, Bool.not_false]
  rw [i64w (x := exF (roomN k p) i + (roomN k p : Int)) (by omega) (by omega), i64w (x := (i : Int) + 1) (by omega) (by omega)]
  exact BIf_dpos (by omega) (BIf_neg (by rfl) h)

theorem pl_fin (hK : ∀ H', H0.le H' → K (.bool true) H') (x : Int) (hx : x ≤ 9223372036854775807) (own : Int) (ho : ownerI (roomN k p) x = own) (he : e < 4) : W_abacistlaw17_LayoutPlaces.l26 K 1 x ⟨b1, 0, none⟩ ⟨b2, 0, none⟩ own 4 H := by
  have hr := roomN_le (k := k) (p := p) (by omega)
  have hf : 9 ≤ exF (roomN k p) e ∧ exF (roomN k p) e ≤ 100000000000 := by unfold exF; rcases (by omega : e = 0 ∨ e = 1 ∨ e = 2 ∨ e = 3) with rfl | rfl | rfl | rfl <;> omega
  have hw : (2 ^ k : Nat) ≤ 2 ^ 10 := Nat.pow_le_pow_right (by omega) hk
  have hw0 : (0 : Int) ≤ ((2 ^ k : Nat) : Int) := Int.natCast_nonneg _
  unfold W_abacistlaw17_LayoutPlaces.l26
  refine BIf_dneg (by decide) ?_
  refine LdA_obj h2 (by rfl) ?_
  rw [Array.toArray_toList]
  refine HCalls.use (Sector_ok _ _ _ 0 0 (by omega) (by omega) H) ?_
  try simp only [DI_int', DB_bool, DS_string, DP_pointer, DSl_slice, DM_map, DA_agg, DTup_tuple, DCons_cons, DNil_nil, NN_some, BIf_true, BIf_false, BIf_same, List.toList_toArray, Bool.not_true, Bool.not_false]
  refine LdA_obj h1 (by rfl) ?_
  rw [Array.toArray_toList]
  refine HCalls.use (Owner_ok (k := k) (p := p) (by omega) x hx H) ?_
  try simp only [DI_int', DB_bool, DS_string, DP_pointer, DSl_slice, DM_map, DA_agg, DTup_tuple, DCons_cons, DNil_nil, NN_some, BIf_true, BIf_false, BIf_same, List.toList_toArray, Bool.not_true, Bool.not_false]
  rw [ho]
  refine BIf_pos (by simp) ?_
  have : SectorV (exF (roomN k p) e) (roomN k p) ((2 ^ k : Nat) : Int) 0 0 = (0, 0, 2) := by unfold SectorV; rw [if_pos (by omega)]
  rw [this]
  exact hK H hle

theorem pl25 (hK : ∀ H', H0.le H' → K (.bool true) H') (x : Int) (hx : x ≤ 9223372036854775807) (own : Int) (ho : own = if x = 0 then -1 else if 1 ≤ x ∧ x < 9 then -2 else -3) (he : e < 4) : W_abacistlaw17_LayoutPlaces.j25 K x ⟨b1, 0, none⟩ ⟨b2, 0, none⟩ own H := by
  refine ⟨5, ?_⟩
  have hr1 : 1 ≤ roomN k p := Nat.le_add_left 1 _
  have fin := fun own ho => pl_fin K k p e hk b1 b2 H0 H hle h1 h2 hK x hx own ho he
  have no := fun d own i hi hno h => pl_no K k p e hk b1 b2 H0 H hle h1 h2 d x own i hi hno h
  have yes := fun d i hi hy h => pl_yes K k p e hk b1 b2 H0 H hle h1 h2 d x i hi hy h
  by_cases hx1 : x < 9
  · refine no 4 own 0 (by omega) (by unfold exF; omega) (no 3 own 1 (by omega) (by unfold exF; omega) (no 2 own 2 (by omega) (by unfold exF; omega) (no 1 own 3 (by omega) (by unfold exF; omega) (fin own ?_))))
    unfold ownerI; rw [ho]
    by_cases h0 : x = 0
    · rw [if_pos h0, if_pos h0]
    · rw [if_neg h0, if_neg h0]
      by_cases h3 : 1 ≤ x ∧ x < 9
      · rw [if_pos h3, if_pos h3]
      · rw [if_neg h3, if_neg h3, if_neg (by omega), if_neg (by omega), if_neg (by omega), if_neg (by omega)]
  have ho' : own = -3 := by rw [ho, if_neg (by omega), if_neg (by omega)]
  subst ho'
  clear ho
  by_cases c0 : x < 9 + roomN k p
  · refine yes 4 0 (by omega) (by unfold exF; omega) (no 3 _ 1 (by omega) (by unfold exF; omega) (no 2 _ 2 (by omega) (by unfold exF; omega) (no 1 _ 3 (by omega) (by unfold exF; omega) (fin _ ?_))))
    unfold ownerI; rw [if_neg (by omega), if_neg (by omega), if_pos (by omega)]; rfl
  by_cases c1 : x < 9 + 2 * roomN k p
  · refine no 4 _ 0 (by omega) (by unfold exF; omega) (yes 3 1 (by omega) (by unfold exF; omega) (no 2 _ 2 (by omega) (by unfold exF; omega) (no 1 _ 3 (by omega) (by unfold exF; omega) (fin _ ?_))))
    unfold ownerI; rw [if_neg (by omega), if_neg (by omega), if_neg (by omega), if_pos (by omega)]; rfl
  by_cases c2 : x < 9 + 3 * roomN k p
  · refine no 4 _ 0 (by omega) (by unfold exF; omega) (no 3 _ 1 (by omega) (by unfold exF; omega) (yes 2 2 (by omega) (by unfold exF; omega) (no 1 _ 3 (by omega) (by unfold exF; omega) (fin _ ?_))))
    unfold ownerI; rw [if_neg (by omega), if_neg (by omega), if_neg (by omega), if_neg (by omega), if_pos (by omega)]; rfl
  by_cases c3 : x < 9 + 4 * roomN k p
  · refine no 4 _ 0 (by omega) (by unfold exF; omega) (no 3 _ 1 (by omega) (by unfold exF; omega) (no 2 _ 2 (by omega) (by unfold exF; omega) (yes 1 3 (by omega) (by unfold exF; omega) (fin _ ?_))))
    unfold ownerI; rw [if_neg (by omega), if_neg (by omega), if_neg (by omega), if_neg (by omega), if_neg (by omega), if_pos (by omega)]; rfl
  · refine no 4 _ 0 (by omega) (by unfold exF; omega) (no 3 _ 1 (by omega) (by unfold exF; omega) (no 2 _ 2 (by omega) (by unfold exF; omega) (no 1 _ 3 (by omega) (by unfold exF; omega) (fin _ ?_))))
    unfold ownerI; rw [if_neg (by omega), if_neg (by omega), if_neg (by omega), if_neg (by omega), if_neg (by omega), if_neg (by omega)]

theorem pl20 (hK : ∀ H', H0.le H' → K (.bool true) H') (x : Int) (hx : x ≤ 9223372036854775807) (he : e < 4) : W_abacistlaw17_LayoutPlaces.j20 K x ⟨b1, 0, none⟩ ⟨b2, 0, none⟩ H := by
  have q := fun own ho => pl25 K k p e hk b1 b2 H0 H hle h1 h2 hK x hx own ho he
  have w23 : ∀ own : Int, own = (if x = 0 then -1 else -3) → W_abacistlaw17_LayoutPlaces.j23 K x ⟨b1, 0, none⟩ ⟨b2, 0, none⟩ own H := fun own ho => by
    unfold W_abacistlaw17_LayoutPlaces.j23
    rw [BIf_decide, BIf_decide]
    split
    · split
      · exact q _ (by rw [if_neg (by omega), if_pos (by omega)])
      · refine q _ ?_
        rw [ho]; by_cases h0 : x = 0
        · rw [if_pos h0, if_pos h0]
        · rw [if_neg h0, if_neg h0, if_neg (by omega)]
    · refine q _ ?_
      rw [ho]; by_cases h0 : x = 0
      · rw [if_pos h0, if_pos h0]
      · rw [if_neg h0, if_neg h0, if_neg (by omega)]
  unfold W_abacistlaw17_LayoutPlaces.j20
  refine BIf_intro (fun h => ?_) (fun h => ?_)
  · have h' : x = 0 := by simpa using h
    exact w23 _ (by rw [if_pos h'])
  · have h' : x ≠ 0 := by simpa using h
    exact w23 _ (by rw [if_neg h'])

theorem sec_in (hp : 4 ≤ p) (i : Int) (hi : 0 ≤ i ∧ i < ((2 ^ k : Nat) : Int)) : SectorV (exF (roomN k p) e) (roomN k p) ((2 ^ k : Nat) : Int) p i = (exF (roomN k p) e + Int.tdiv i p, Int.tmod i p, 0) ∧ 0 ≤ Int.tdiv i p ∧ Int.tdiv i p < roomN k p := by
  obtain ⟨a, rfl⟩ := Int.eq_ofNat_of_zero_le hi.1
  have h3 : a / p ≤ (2 ^ k - 1) / p := Nat.div_le_div_right (by omega)
  have h4 : Int.tdiv (a : Int) (p : Int) = ((a / p : Nat) : Int) := rfl
  have h5 : (a / p : Nat) < roomN k p := by unfold roomN; omega
  have h6 : (0 : Int) ≤ ((a / p : Nat) : Int) := Int.natCast_nonneg _
  have h7 : ((a / p : Nat) : Int) < (roomN k p : Int) := Int.ofNat_lt.2 h5
  rw [← h4] at h6 h7
  refine ⟨?_, h6, h7⟩
  unfold SectorV
  rw [if_neg (by omega)]

theorem pl14 (hK : ∀ H', H0.le H' → K (.bool true) H') (hp : 4 ≤ p) (x from' n : Int) (hx : x ≤ 9223372036854775807) (hn : n ≤ 9223372036854775807) (he : e < 4) : W_abacistlaw17_LayoutPlaces.j14 K from' n x (p : Int) ⟨b1, 0, none⟩ ⟨b2, 0, none⟩ H := by
  have hr := roomN_le (k := k) (p := p) (by omega)
  have hf : 9 ≤ exF (roomN k p) e ∧ exF (roomN k p) e ≤ 100000000000 := by unfold exF; rcases (by omega : e = 0 ∨ e = 1 ∨ e = 2 ∨ e = 3) with rfl | rfl | rfl | rfl <;> omega
  have hw : (2 ^ k : Nat) ≤ 2 ^ 10 := Nat.pow_le_pow_right (by omega) hk
  have hw0 : (0 : Int) ≤ ((2 ^ k : Nat) : Int) := Int.natCast_nonneg _
  have q := pl20 K k p e hk b1 b2 H0 H hle h1 h2 hK x hx he
  unfold W_abacistlaw17_LayoutPlaces.j14
  refine LdA_obj h2 (by rfl) ?_
  rw [Array.toArray_toList]
  refine HCalls.use (Part_ok _ _ _ (p : Int) from' n (by omega) (by omega) hn H) ?_
  try simp only [DI_int', DB_bool, DS_string, DP_pointer, DSl_slice, DM_map, DA_agg, DTup_tuple, DCons_cons, DNil_nil, NN_some, BIf_true, BIf_false, BIf_same, List.toList_toArray, Bool.not_true, Bool.not_false]
  simp only [Addr.add_lit', Nat.zero_add]
  have no : (n < 1 ∨ from' < 0 ∨ from' ≥ ((2 ^ k : Nat) : Int) ∨ n > ((2 ^ k : Nat) : Int) - from') → PartV (exF (roomN k p) e) (roomN k p) ((2 ^ k : Nat) : Int) p from' n = (0, 0, 2) := fun h => by unfold PartV; rw [if_pos h]
  rw [BIf_decide, BIf_decide]
  split
  · rw [no (by omega)]; exact BIf_neg rfl (BIf_neg rfl (BIf_neg rfl q))
  split
  · rw [no (by omega)]; exact BIf_neg rfl (BIf_neg rfl (BIf_neg rfl q))
  refine Ld_obj h2 (v := .int .i64 ((2 ^ k : Nat) : Int)) rfl ?_
  simp only [DI_int', DB_bool, DS_string, DP_pointer, DSl_slice, DM_map, DA_agg, DTup_tuple, DCons_cons, DNil_nil, NN_some, BIf_true, BIf_false, BIf_same, List.toList_toArray, Bool.not_true, Bool.not_false]
  rw [BIf_decide]
  split
  · rw [no (by omega)]; exact BIf_neg rfl (BIf_neg rfl (BIf_neg rfl q))
  refine Ld_obj h2 (v := .int .i64 ((2 ^ k : Nat) : Int)) rfl ?_
  simp only [DI_int', DB_bool, DS_string, DP_pointer, DSl_slice, DM_map, DA_agg, DTup_tuple, DCons_cons, DNil_nil, NN_some, BIf_true, BIf_false, BIf_same, List.toList_toArray, Bool.not_true, Bool.not_false]
  rw [i64w (x := ((2 ^ k : Nat) : Int) - from') (by omega) (by omega), BIf_decide]
  split
  · rw [no (by omega)]; exact BIf_neg rfl (BIf_neg rfl (BIf_neg rfl q))
  obtain ⟨s1, s2, s3⟩ := sec_in k p e hk b1 b2 H0 H hle h1 h2 hp from' (by omega)
  obtain ⟨t1, t2, t3⟩ := sec_in k p e hk b1 b2 H0 H hle h1 h2 hp (from' + n - 1) (by omega)
  have hP : PartV (exF (roomN k p) e) (roomN k p) ((2 ^ k : Nat) : Int) p from' n = (exF (roomN k p) e + Int.tdiv from' p, exF (roomN k p) e + Int.tdiv (from' + n - 1) p, 0) := by
    unfold PartV; rw [if_neg (by omega), s1, t1]; rfl
  rw [hP]
  refine BIf_neg rfl (Ld_obj h2 (v := .int .i64 (exF (roomN k p) e)) rfl ?_)
  simp only [DI_int', DB_bool, DS_string, DP_pointer, DSl_slice, DM_map, DA_agg, DTup_tuple, DCons_cons, DNil_nil, NN_some, BIf_true, BIf_false, BIf_same, List.toList_toArray, Bool.not_true, Bool.not_false]
  refine ⟨by omega, by simp, ?_⟩
  rw [i64w (x := Int.tdiv from' p) (by omega) (by omega), i64w (x := exF (roomN k p) e + Int.tdiv from' p) (by omega) (by omega)]
  refine BIf_neg (by simp) (Ld_obj h2 (v := .int .i64 (exF (roomN k p) e)) rfl ?_)
  simp only [DI_int', DB_bool, DS_string, DP_pointer, DSl_slice, DM_map, DA_agg, DTup_tuple, DCons_cons, DNil_nil, NN_some, BIf_true, BIf_false, BIf_same, List.toList_toArray, Bool.not_true, Bool.not_false]
  refine ⟨by omega, by simp, ?_⟩
  rw [i64w (x := from' + n) (by omega) (by omega), i64w (x := from' + n - 1) (by omega) (by omega), i64w (x := Int.tdiv (from' + n - 1) p) (by omega) (by omega), i64w (x := exF (roomN k p) e + Int.tdiv (from' + n - 1) p) (by omega) (by omega)]
  exact BIf_neg (by simp) q
end

theorem LayoutPlaces_ok (x1 x2 x3 x4 x5 x6 x7 : Int) (h1 : 0 ≤ x1 ∧ x1 ≤ 255) (h2 : 0 ≤ x2 ∧ x2 ≤ 255) (h3 : 0 ≤ x3 ∧ x3 ≤ 255) (h4 : x4 ≤ 9223372036854775807) (h6 : x6 ≤ 9223372036854775807) (h7 : x7 ≤ 9223372036854775807) (H : Hp) :
    HCalls Try.prog 9 #[.int .u8 x1, .int .u8 x2, .int .u8 x3, .int .i64 x4, .int .i64 x5, .int .i64 x6, .int .i64 x7] H (RetE (.bool true) H) := by
  apply HCalls.ret
  apply W_abacistlaw17_LayoutPlaces.ok
  unfold W_abacistlaw17_LayoutPlaces
  refine HCalls.use (awake_ok H) ?_
  try simp only [DI_int', DB_bool, DS_string, DP_pointer, DSl_slice, DM_map, DA_agg, DTup_tuple, DCons_cons, DNil_nil, NN_some, BIf_true, BIf_false, BIf_same, List.toList_toArray, Bool.not_true, Bool.not_false]
  obtain ⟨a, rfl⟩ := Int.eq_ofNat_of_zero_le h1.1
  obtain ⟨s, rfl⟩ := Int.eq_ofNat_of_zero_le h2.1
  obtain ⟨c, rfl⟩ := Int.eq_ofNat_of_zero_le h3.1
  rw [shl_four s (by omega)]
  obtain ⟨hp1, hp2, hper⟩ := plN_facts s
  generalize hpp : plN s = p at hp1 hp2 hper ⊢
  have hk : a % 11 ≤ 10 := by omega
  generalize hkk : a % 11 = k at hk
  have he : c % 4 < 4 := by omega
  rw [show Int.tmod (a : Int) 11 = ((a % 11 : Nat) : Int) from rfl, hkk, show Int.tmod (c : Int) 4 = ((c % 4 : Nat) : Int) from rfl, i64n (n := k) (by omega)]
  generalize hee : c % 4 = e at he ⊢
  rw [show (8 * (p : Int)) = ((8 * p : Nat) : Int) by omega, i64n (n := 8 * p) (by omega)]
  refine ⟨by omega, by simp, by rw [show Int.tmod (s : Int) 8 = ((s % 8 : Nat) : Int) from rfl, u64n (by omega)]; omega, by omega, by simp, ?_⟩
  have hw : (2 ^ k : Nat) ≤ 2 ^ 10 := Nat.pow_le_pow_right (by omega) hk
  have hw0 : (0 : Int) ≤ ((2 ^ k : Nat) : Int) := Int.natCast_nonneg _
  have hrm : roomN k p ≤ 256 := by
    unfold roomN
    have : (2 ^ k - 1) / p ≤ 1023 / 4 := Nat.le_trans (Nat.div_le_div_right (by omega)) (Nat.div_le_div_left hp1 (by omega))
    omega
  have hO : OfV (k : Int) 5000 ((8 * p : Nat) : Int) = (layV k p, 0) := by
    unfold OfV
    rw [hper, if_pos (by omega), if_neg (by unfold needN; simp only [Int.toNat_natCast]; omega)]
    simp
  refine HCalls.use (Of_ok (k : Int) 5000 ((8 * p : Nat) : Int) H) ?_
  try simp only [DI_int', DB_bool, DS_string, DP_pointer, DSl_slice, DM_map, DA_agg, DTup_tuple, DCons_cons, DNil_nil, NN_some, BIf_true, BIf_false, BIf_same, List.toList_toArray, Bool.not_true, Bool.not_false]
  rw [hO]
  intro b1 hb1
  refine StA_all (Hp.set_same _ _ _) (by rfl) (by rfl) (by rfl) ?_
  rw [Hp.set_set]
  refine BIf_neg rfl ⟨by omega, by simp, by omega, by omega, ?_⟩
  simp only [Addr.add_lit', Int.toNat_natCast, Nat.zero_add]
  refine LdA_at (Hp.set_same _ _ _) (by show 5 + e * 3 + 3 ≤ 17; omega) ?_
  rw [lay_ext k p e he, Array.toArray_toList]
  intro b2 hb2
  refine StA_all (Hp.set_same _ _ _) (by rfl) (by rfl) (by rfl) ?_
  rw [Hp.set_set]
  refine LdA_obj (Hp.set_same _ _ _) (by rfl) ?_
  rw [Array.toArray_toList]
  obtain ⟨hne, hb2'⟩ := Hp.set_none hb2
  have hle1 := Hp.le_set (o := .obj (.cells (layV k p) 75)) hb1
  have hle := Hp.le_trans hle1 (Hp.le_set (o := .obj (.cells (extV (exF (roomN k p) e) (roomN k p) ((2 ^ k : Nat) : Int)) 72)) hb2)
  have g1 : ((H.set b1 (.obj (.cells (layV k p) 75))).set b2 (.obj (.cells (extV (exF (roomN k p) e) (roomN k p) ((2 ^ k : Nat) : Int)) 72))) b1 = some (.obj (.cells (layV k p) 75)) := by
    rw [Hp.set_other _ _ (Ne.symm hne)]; exact Hp.set_same _ _ _
  have g2 := Hp.set_same (H.set b1 (.obj (.cells (layV k p) 75))) b2 (.obj (.cells (extV (exF (roomN k p) e) (roomN k p) ((2 ^ k : Nat) : Int)) 72))
  generalize hHH : ((H.set b1 (.obj (.cells (layV k p) 75))).set b2 (.obj (.cells (extV (exF (roomN k p) e) (roomN k p) ((2 ^ k : Nat) : Int)) 72))) = HH at hle g1 g2 ⊢
  have q := pl14 (Ret (.bool true) H) k p e hk b1 b2 H HH hle g1 g2 (fun H' hl => ⟨rfl, hl⟩) hp1 x7 x5 x6 h7 h6 he
  have hf : 9 ≤ exF (roomN k p) e ∧ exF (roomN k p) e ≤ 100000000000 := by unfold exF; rcases (by omega : e = 0 ∨ e = 1 ∨ e = 2 ∨ e = 3) with rfl | rfl | rfl | rfl <;> omega
  have hS := Sector_ok (exF (roomN k p) e) (roomN k p) ((2 ^ k : Nat) : Int) (p : Int) x4 (by omega) (by omega) HH
  generalize hSV : SectorV (exF (roomN k p) e) (roomN k p) ((2 ^ k : Nat) : Int) (p : Int) x4 = SV at hS
  have no : (x4 < 0 ∨ x4 ≥ ((2 ^ k : Nat) : Int)) → SV = (0, 0, 2) := fun h => by rw [← hSV]; unfold SectorV; rw [if_pos (by omega)]
  refine HCalls.use (hS) ?_
  try simp only [DI_int', DB_bool, DS_string, DP_pointer, DSl_slice, DM_map, DA_agg, DTup_tuple, DCons_cons, DNil_nil, NN_some, BIf_true, BIf_false, BIf_same, List.toList_toArray, Bool.not_true, Bool.not_false]
  rw [BIf_decide]
  split
  · rw [no (by omega)]; exact BIf_neg rfl (BIf_neg rfl (BIf_neg rfl q))
  refine Ld_obj g2 (v := .int .i64 ((2 ^ k : Nat) : Int)) rfl ?_
  simp only [DI_int', DB_bool, DS_string, DP_pointer, DSl_slice, DM_map, DA_agg, DTup_tuple, DCons_cons, DNil_nil, NN_some, BIf_true, BIf_false, BIf_same, List.toList_toArray, Bool.not_true, Bool.not_false]
  rw [BIf_decide]
  split
  · rw [no (by omega)]; exact BIf_neg rfl (BIf_neg rfl (BIf_neg rfl q))
  obtain ⟨s1, s2, s3⟩ := sec_in k p e hk b1 b2 H HH hle g1 g2 hp1 x4 (by omega)
  rw [hSV] at s1
  rw [s1]
  refine BIf_neg rfl (Ld_obj g2 (v := .int .i64 (exF (roomN k p) e)) rfl ?_)
  simp only [DI_int', DB_bool, DS_string, DP_pointer, DSl_slice, DM_map, DA_agg, DTup_tuple, DCons_cons, DNil_nil, NN_some, BIf_true, BIf_false, BIf_same, List.toList_toArray, Bool.not_true, Bool.not_false]
  refine ⟨by omega, by simp, ?_⟩
  rw [i64w (x := Int.tdiv x4 p) (by omega) (by omega), i64w (x := exF (roomN k p) e + Int.tdiv x4 p) (by omega) (by omega)]
  refine BIf_neg (by simp) ⟨by omega, by simp, BIf_neg (by simp) (LdA_obj g1 (by rfl) ?_)⟩
  rw [Array.toArray_toList]
  refine QCall.use (Owner_ok (k := k) (p := p) (by omega) (exF (roomN k p) e + Int.tdiv x4 p) (by omega) HH) ?_
  simp only [DI_int', DB_bool, DS_string, DP_pointer, DSl_slice, DM_map, DA_agg, DTup_tuple, DCons_cons, DNil_nil, NN_some, BIf_true, BIf_false, BIf_same, List.toList_toArray, Bool.not_true, Bool.not_false]
  refine ⟨by omega, by simp, ?_⟩
  rw [i64n (n := e) (by omega)]
  refine BIf_neg ?_ q
  have : ownerI (roomN k p) (exF (roomN k p) e + Int.tdiv x4 p) = e := by
    unfold exF at hf ⊢
    unfold ownerI
    generalize Int.tdiv x4 p = t at s2 s3 hf ⊢
    rcases (by omega : e = 0 ∨ e = 1 ∨ e = 2 ∨ e = 3) with rfl | rfl | rfl | rfl
    · rw [if_neg (by omega), if_neg (by omega), if_pos (by omega)]; rfl
    · rw [if_neg (by omega), if_neg (by omega), if_neg (by omega), if_pos (by omega)]; rfl
    · rw [if_neg (by omega), if_neg (by omega), if_neg (by omega), if_neg (by omega), if_pos (by omega)]; rfl
    · rw [if_neg (by omega), if_neg (by omega), if_neg (by omega), if_neg (by omega), if_neg (by omega), if_pos (by omega)]; rfl
  rw [this]
  simp

end Go.Proofs.Ytdjdielefolfbaa.Lay
