import Derived.DeepKeys
import Derived.Test.YtlgpappgnndgiaaGreatDoorProg
import Derived.LaidEql
import Derived.MapKept
import Derived.Shelf.SlIterI.Nil
import Derived.Shelf.SortM.Plain
import Derived.Shelf.SortM.SortNone
import Derived.Ground.GgzProg
import Derived.Ground.SlgmProg
import Derived.Test.YtlgpappgnndgiaaGreatDoorPkRingMakes3
section
/-! RecF -/
/- record: Take. -/
set_option maxRecDepth 100000
set_option linter.unusedSimpArgs false
set_option linter.unusedVariables false
set_option linter.unnecessarySimpa false
set_option linter.unusedSectionVars false
namespace Go.Proofs.YtlgpappgnndgiaaGreatDoor.Rec
open Go Go.Hw Go.Form Go.Crc Go.Proofs.YtlgpappgnndgiaaGreatDoor.W

def secB (n : Int) : Bool := decide ((Lay.NeedV 0 n).2 = 0)
theorem sector_ok (x : Int) (H : Hp) : HCalls Tryz.prog 120 #[.int .i64 x] H (RetE (.bool (secB x)) H) := by
  apply W_record_sector.ok
  unfold W_record_sector
  refine HCalls.use (Lay.Need_ok 0 x H) ?_
  simp only [DI_int', DB_bool, DS_string, DP_pointer, DSl_slice, DM_map, DA_agg, DTup_tuple, DCons_cons, DNil_nil, NN_some, BIf_true, BIf_false, BIf_same, List.toList_toArray, Bool.not_true, Bool.not_false]
  refine ⟨?_, rfl⟩
  unfold secB
  by_cases h : (Lay.NeedV 0 x).2 = 0
  · rw [decide_eq_true h, h]; rfl
  · rw [decide_eq_false h, beq_eq_false_iff_ne.2 h]

def zeroR : R := ⟨0, 0, 0, 0, 0, 0, 0, 0⟩
def w3U (bs : List UInt8) : List UInt64 := [UInt64.ofNat (wordN bs 0), UInt64.ofNat (wordN bs 8), UInt64.ofNat (wordN bs 16)]
/-- The record of a form, or what is wrong. -/
def takeV (bs : List UInt8) : R × Int :=
  if secB (bs.length : Int) = true then
    if wordN bs 0 / 281474976710656 = 21061 ∧ nought bs = true then
      if wordN bs 24 = joinN 0 (sealP (w3U bs)) then
        if (recOf (wordN bs 0) (wordN bs 8) (wordN bs 16)).good then (recOf (wordN bs 0) (wordN bs 8) (wordN bs 16), 0) else (zeroR, 1)
      else (zeroR, 9)
    else (zeroR, 10)
  else (zeroR, 15)

theorem wordN_lt (bs : List UInt8) (o : Nat) : wordN bs o < 2 ^ 64 := leN_lt8 (by simp; omega)

set_option maxHeartbeats 1000000 in
theorem Take_ok (A : Option Addr) (n m : Nat) (bs : List UInt8) (hn : n = bs.length) (hnm : n ≤ m) (hbig : n ≤ 1000000) (h32 : secB (n : Int) = true → 32 ≤ n) (H : Hp) (hc : Cells H A (byteVals bs)) :
    HCalls Tryz.prog 72 #[.slice A n m] H (RetE (.tuple #[.agg (takeV bs).1.c, .int .i64 (takeV bs).2]) H) := HCalls.ret (by
  apply W_record_Take.ok
  unfold W_record_Take takeV
  rw [← hn]
  refine (Sep.start H).nw fun b1 H1 hs => ?_
  have hs : Sep [own H, pts b1 (recO zeroR)] H1 := hs
  refine HCalls.use (sector_ok n H1) ?_
  simp only [DI_int', DB_bool, DS_string, DP_pointer, DSl_slice, DM_map, DA_agg, DTup_tuple, DCons_cons, DNil_nil, NN_some, BIf_true, BIf_false, BIf_same, List.toList_toArray, Bool.not_true, Bool.not_false]
  by_cases hsec : secB (n : Int) = true
  case neg =>
    rw [if_neg hsec, show secB (n : Int) = false by simpa using hsec]
    refine BIf_pos rfl ?_
    refine hs.stw 1 rfl rfl rfl rfl fun H1 hs => ?_
    refine hs.ldw 1 rfl rfl ?_
    exact hs.fin 0 rfl _
  rw [if_pos hsec, hsec]
  refine BIf_neg rfl ?_
  refine (all_tr (R := own H) (fun H' h => hc.le h) hn hnm (h32 hsec) hbig).use hs [0] rfl rfl ?_
  rintro _ _ H1 ⟨A', m', hm', rfl, rfl⟩ hs
  simp only [DI_int', DB_bool, DS_string, DP_pointer, DSl_slice, DM_map, DA_agg, DTup_tuple, DCons_cons, DNil_nil, NN_some, BIf_true, BIf_false, BIf_same, List.toList_toArray, Bool.not_true, Bool.not_false]
  have hA : Cells H1 A' (Gen.natV (wds bs 4)) := by
    obtain ⟨hl, h⟩ := hs.own 1 rfl
    rcases h with ⟨_, h0, _⟩ | ⟨b, mm, rfl, hb, _⟩
    · omega
    · have := Cells.row hb 0 4
      exact this
  have hw : wds bs 4 = [wordN bs 0, wordN bs 8, wordN bs 16, wordN bs 24] := rfl
  rw [hw] at hA hs
  refine HCalls.use (of_ok A' 4 m' (wordN bs 0) (wordN bs 8) (wordN bs 16) [wordN bs 24] rfl (wordN_lt _ _) (wordN_lt _ _) (wordN_lt _ _) H1 hA) ?_
  simp only [DI_int', DB_bool, DS_string, DP_pointer, DSl_slice, DM_map, DA_agg, DTup_tuple, DCons_cons, DNil_nil, NN_some, BIf_true, BIf_false, BIf_same, List.toList_toArray, Bool.not_true, Bool.not_false]
  refine hs.nw fun b2 H1 hs => ?_
  refine hs.stw 3 rfl rfl rfl rfl fun H1 hs => ?_
  have hs : Sep [own H, Own 60 1 A' 4 m' (Gen.natV [wordN bs 0, wordN bs 8, wordN bs 16, wordN bs 24]), pts b1 (recO zeroR), pts b2 (recO (recOf (wordN bs 0) (wordN bs 8) (wordN bs 16)))] H1 := hs
  have hA : Cells H1 A' (Gen.natV [wordN bs 0, wordN bs 8, wordN bs 16, wordN bs 24]) := by
    obtain ⟨hl, h⟩ := hs.own 1 rfl
    rcases h with ⟨_, h0, _⟩ | ⟨b, mm, rfl, hb, _⟩
    · omega
    · have := Cells.row hb 0 4
      exact this
  refine hA.read (i := 0) rfl rfl (by rw [Gen.natV_length]; exact Nat.le_refl _) ?_
  simp only [DI_int', DB_bool, DS_string, DP_pointer, DSl_slice, DM_map, DA_agg, DTup_tuple, DCons_cons, DNil_nil, NN_some, BIf_true, BIf_false, BIf_same, List.toList_toArray, Bool.not_true, Bool.not_false]
  refine ⟨by decide, ?_⟩
  have s48 : shrI .u64 ((wordN bs 0 : Nat) : Int) 48 = ((wordN bs 0 / 281474976710656 : Nat) : Int) := shrN (k := .u64) (a := wordN bs 0) (i := 48) (n := 48) rfl (by decide)
  rw [s48]
  by_cases hmg : wordN bs 0 / 281474976710656 = 21061
  case neg =>
    rw [if_neg (fun h => hmg h.1)]
    refine BIf_bnep (by omega) ?_
    refine hs.stw 2 rfl rfl rfl rfl fun H1 hs => ?_
    refine hs.ldw 2 rfl rfl ?_
    exact hs.fin 0 rfl _
  refine BIf_bnen (by omega) ?_
  by_cases hno : nought bs = true
  case neg =>
    rw [if_neg (fun h => hno h.2), show nought bs = false by simpa using hno]
    refine BIf_pos rfl ?_
    refine hs.stw 2 rfl rfl rfl rfl fun H1 hs => ?_
    refine hs.ldw 2 rfl rfl ?_
    exact hs.fin 0 rfl _
  rw [if_pos ⟨hmg, hno⟩, hno]
  refine BIf_neg rfl ?_
  refine hA.read (i := 3) rfl rfl (by rw [Gen.natV_length]; exact Nat.le_refl _) ?_
  simp only [DI_int', DB_bool, DS_string, DP_pointer, DSl_slice, DM_map, DA_agg, DTup_tuple, DCons_cons, DNil_nil, NN_some, BIf_true, BIf_false, BIf_same, List.toList_toArray, Bool.not_true, Bool.not_false]
  refine slB_to (r := 3) rfl (by omega) ?_
  have hU : Cells H1 (slA A' m' 0 1) (wordVals (w3U bs)) := by
    have := (hA.shift (m := m') (l := 0) (by rw [Gen.natV_length]; exact hm')).take 3
    have e : wordVals (w3U bs) = ((Gen.natV [wordN bs 0, wordN bs 8, wordN bs 16, wordN bs 24]).drop 0).take 3 := by
      show [Value.int .u64 ((UInt64.ofNat (wordN bs 0)).toNat : Int), Value.int .u64 ((UInt64.ofNat (wordN bs 8)).toNat : Int), Value.int .u64 ((UInt64.ofNat (wordN bs 16)).toNat : Int)] = _
      rw [UInt64.toNat_ofNat_of_lt' (wordN_lt bs 0), UInt64.toNat_ofNat_of_lt' (wordN_lt bs 8), UInt64.toNat_ofNat_of_lt' (wordN_lt bs 16)]
      rfl
    rw [e]; exact this
  refine QCall.use (seal_ok (slA A' m' 0 1) 3 (m' - 0) (w3U bs) rfl (by omega) H1 hU) ?_
  simp only [DI_int', DB_bool, DS_string, DP_pointer, DSl_slice, DM_map, DA_agg, DTup_tuple, DCons_cons, DNil_nil, NN_some, BIf_true, BIf_false, BIf_same, List.toList_toArray, Bool.not_true, Bool.not_false]
  by_cases hsl : wordN bs 24 = joinN 0 (sealP (w3U bs))
  case neg =>
    rw [if_neg hsl]
    refine BIf_bnep (by omega) ?_
    refine hs.stw 2 rfl rfl rfl rfl fun H1 hs => ?_
    refine hs.ldw 2 rfl rfl ?_
    exact hs.fin 0 rfl _
  rw [if_pos hsl]
  refine BIf_bnen (by omega) ?_
  refine hs.ldw 3 rfl rfl ?_
  refine HCalls.use (Good_ok (recOf (wordN bs 0) (wordN bs 8) (wordN bs 16)) H1) ?_
  simp only [DI_int', DB_bool, DS_string, DP_pointer, DSl_slice, DM_map, DA_agg, DTup_tuple, DCons_cons, DNil_nil, NN_some, BIf_true, BIf_false, BIf_same, List.toList_toArray, Bool.not_true, Bool.not_false]
  by_cases hg : (recOf (wordN bs 0) (wordN bs 8) (wordN bs 16)).good
  · rw [if_pos hg, decide_eq_true hg]
    refine BIf_neg rfl ?_
    refine hs.ldw 3 rfl rfl ?_
    refine hs.stw 2 rfl rfl rfl rfl fun H1 hs => ?_
    refine hs.ldw 2 rfl rfl ?_
    exact hs.fin 0 rfl _
  · rw [if_neg hg, decide_eq_false hg]
    refine BIf_pos rfl ?_
    refine hs.stw 2 rfl rfl rfl rfl fun H1 hs => ?_
    refine hs.ldw 2 rfl rfl ?_
    exact hs.fin 0 rfl _)

end Go.Proofs.YtlgpappgnndgiaaGreatDoor.Rec

end
section
/-! LayB -/
/- layout: places; the law LayoutPlaces. -/
set_option maxRecDepth 100000
set_option linter.unusedSimpArgs false
set_option linter.unusedVariables false
set_option linter.unnecessarySimpa false
set_option linter.unusedSectionVars false
namespace Go.Proofs.YtlgpappgnndgiaaGreatDoor.Lay
open Go Go.Hw Go.Proofs.YtlgpappgnndgiaaGreatDoor.W

def extV (f s w : Int) : Array Value := #[.int .i64 f, .int .i64 s, .int .i64 w]
/-- A layout's cells. -/
def layV (k p : Nat) : Array Value :=
  let r : Int := roomN k p
  let w : Int := (2 ^ k : Nat)
  #[.int .i64 k, .int .i64 p, .int .i64 1, .int .i64 8, .int .i64 ((8 * p : Nat) : Int), .int .i64 9, .int .i64 r, .int .i64 w, .int .i64 (9 + r), .int .i64 r, .int .i64 w, .int .i64 (9 + 2 * r), .int .i64 r, .int .i64 w, .int .i64 (9 + 3 * r), .int .i64 r, .int .i64 w]
def layZ : Array Value := #[.int .i64 0, .int .i64 0, .int .i64 0, .int .i64 0, .int .i64 0, .int .i64 0, .int .i64 0, .int .i64 0, .int .i64 0, .int .i64 0, .int .i64 0, .int .i64 0, .int .i64 0, .int .i64 0, .int .i64 0, .int .i64 0, .int .i64 0]

theorem lay_round (K : Value → Hp → Prop) (d b1 b2 : Nat) (e : TypeId) (k : Nat) (hk : k ≤ 32) (H : Hp) (c : Array Value) (hc : c.size = 17) (x r : Int) (hx : 0 ≤ x ∧ x ≤ 100000000000) (hr : 0 ≤ r ∧ r ≤ 100000000000) (i : Nat) (hi : i < 4)
    (h : W_layout_lay.l4 K d (k : Int) ⟨b1, 0, none⟩ ⟨b2, 0, none⟩ (x + r) r ((i + 1 : Nat) : Int) (H.set b2 (.obj (.cells (setAt c.toList (5 + i * 3) (extV x r ((2 ^ k : Nat) : Int)).toList).toArray e)))) :
    W_layout_lay.l4 K (d + 1) (k : Int) ⟨b1, 0, none⟩ ⟨b2, 0, none⟩ x r (i : Int) (H.set b2 (.obj (.cells c e))) := by
  conv => unfold W_layout_lay.l4
  refine BIf_dpos (by omega) ⟨by rw [u64n (by omega)]; omega, by omega, by omega, ?_⟩
  simp only [Addr.add_lit', Int.toNat_natCast, Nat.zero_add]
  rw [u64n (by omega), shl_one (by omega)]
  refine StA_lit (Hp.set_same _ _ _) (by omega) (by rfl) (by rfl) ?_
  rw [Hp.set_set, i64w (x := x + r) (by omega) (by omega), i64w (x := (i : Int) + 1) (by omega) (by omega)]
  exact h

theorem lay_ok {k p : Nat} (hk : k ≤ 32) (hp : 0 < p) (hp2 : p ≤ 512) (H : Hp) : HCalls Tryz.prog 90 #[.int .i64 k, .int .i64 p] H (RetE (.agg (layV k p)) H) := by
  apply HCalls.ret
  apply W_layout_lay.ok
  unfold W_layout_lay
  intro b1 hb1
  intro b2 hb2'
  obtain ⟨hne, hb2⟩ := Hp.set_none hb2'
  refine StA_all (Hp.set_same _ _ _) (by rfl) (by rfl) (by rfl) ?_
  rw [Hp.set_set]
  refine HCalls.use (room_ok (k := k) (p := p) (by omega) hp (by omega) _) ?_
  try simp only [DI_int', DB_bool, DS_string, DP_pointer, DSl_slice, DM_map, DA_agg, DTup_tuple, DCons_cons, DNil_nil, NN_some, BIf_true, BIf_false, BIf_same, List.toList_toArray, Bool.not_true, Bool.not_false]
  have hr := roomN_le (k := k) (p := p) (by omega)
  have w8 : IntKind.i64.wrap (8 * (p : Int)) = ((8 * p : Nat) : Int) := by rw [i64w (by omega) (by omega)]; omega
  rw [w8]
  refine ⟨5, ?_⟩
  refine lay_round _ 4 b1 b2 _ k hk _ _ (by rfl) 9 _ (by omega) (by omega) 0 (by omega) ?_
  refine lay_round _ 3 b1 b2 _ k hk _ _ (by rfl) _ _ (by omega) (by omega) 1 (by omega) ?_
  refine lay_round _ 2 b1 b2 _ k hk _ _ (by rfl) _ _ (by omega) (by omega) 2 (by omega) ?_
  refine lay_round _ 1 b1 b2 _ k hk _ _ (by rfl) _ _ (by omega) (by omega) 3 (by omega) ?_
  unfold W_layout_lay.l4
  refine BIf_dneg (by decide) ?_
  have hv : (setAt (setAt (setAt (setAt (#[.int .i64 (k : Int), .int .i64 (p : Int), .int .i64 1, .int .i64 8, .int .i64 ((8 * p : Nat) : Int), .int .i64 0, .int .i64 0, .int .i64 0, .int .i64 0, .int .i64 0, .int .i64 0, .int .i64 0, .int .i64 0, .int .i64 0, .int .i64 0, .int .i64 0, .int .i64 0] : Array Value).toList
      (5 + 0 * 3) (extV 9 (roomN k p) ((2 ^ k : Nat) : Int)).toList).toArray.toList (5 + 1 * 3) (extV (9 + roomN k p) (roomN k p) ((2 ^ k : Nat) : Int)).toList).toArray.toList (5 + 2 * 3) (extV (9 + roomN k p + roomN k p) (roomN k p) ((2 ^ k : Nat) : Int)).toList).toArray.toList (5 + 3 * 3) (extV (9 + roomN k p + roomN k p + roomN k p) (roomN k p) ((2 ^ k : Nat) : Int)).toList).toArray = layV k p := by
    have e2 : (9 + (roomN k p : Int) + roomN k p) = 9 + 2 * roomN k p := by omega
    have e3 : (9 + 2 * (roomN k p : Int) + roomN k p) = 9 + 3 * roomN k p := by omega
    rw [e2, e3]
    rfl
  rw [hv]
  refine LdA_obj (Hp.set_same _ _ _) (by rfl) ?_
  refine StA_all (c := layZ) (y := (layV k p)) (by rw [Hp.set_other _ _ (Ne.symm hne)]; exact Hp.set_same _ _ _) (by rfl) (by rfl) (by rfl) ?_
  refine LdA_obj (Hp.set_same _ _ _) (by rfl) ?_
  exact ⟨rfl, fun b q hq => by
    have h1 : b ≠ b1 := fun e => by rw [e, hb1] at hq; cases hq
    have h2 : b ≠ b2 := fun e => by rw [e, hb2] at hq; cases hq
    rw [Hp.set_other _ _ h1, Hp.set_other _ _ h2, Hp.set_other _ _ h1]; exact hq⟩

/-- Of's answer. -/
def OfV (k sec s : Int) : Array Value × Int :=
  if 0 ≤ k ∧ k ≤ 32 ∧ 0 < perN s then (if sec < needN k.toNat (perN s) then (layZ, 7) else (layV k.toNat (perN s), 0)) else (layZ, 1)

theorem Of_ok (k sec s : Int) (H : Hp) : HCalls Tryz.prog 52 #[.int .i64 k, .int .i64 sec, .int .i64 s] H (RetE (.tuple #[.agg (OfV k sec s).1, .int .i64 (OfV k sec s).2]) H) := by
  apply HCalls.ret
  apply W_layout_Of.ok
  unfold W_layout_Of
  intro b hb
  have hle := fun o => Hp.le_set (o := o) hb
  refine HCalls.use (Need_ok k s _) ?_
  try simp only [DI_int', DB_bool, DS_string, DP_pointer, DSl_slice, DM_map, DA_agg, DTup_tuple, DCons_cons, DNil_nil, NN_some, BIf_true, BIf_false, BIf_same, List.toList_toArray, Bool.not_true, Bool.not_false]
  unfold OfV NeedV
  by_cases h : 0 ≤ k ∧ k ≤ 32 ∧ 0 < perN s
  · rw [if_pos h, if_pos h]
    refine BIf_neg (by rfl) ?_
    by_cases h2 : sec < (needN k.toNat (perN s) : Int)
    · rw [if_pos h2]
      refine BIf_dpos h2 ?_
      refine StA_all (Hp.set_same _ _ _) (by rfl) (by rfl) (by rfl) (LdA_obj (Hp.set_same _ _ _) (by rfl) ?_)
      rw [Hp.set_set]
      exact ⟨rfl, hle _⟩
    · rw [if_neg h2]
      refine BIf_dneg h2 ?_
      refine HCalls.use (per_ok s _) ?_
      try simp only [DI_int', DB_bool, DS_string, DP_pointer, DSl_slice, DM_map, DA_agg, DTup_tuple, DCons_cons, DNil_nil, NN_some, BIf_true, BIf_false, BIf_same, List.toList_toArray, Bool.not_true, Bool.not_false]
      obtain ⟨n, rfl⟩ := Int.eq_ofNat_of_zero_le h.1
      have := perN_le s
      refine HCalls.use (lay_ok (k := n) (p := perN s) (by omega) h.2.2 this _) ?_
      try simp only [DI_int', DB_bool, DS_string, DP_pointer, DSl_slice, DM_map, DA_agg, DTup_tuple, DCons_cons, DNil_nil, NN_some, BIf_true, BIf_false, BIf_same, List.toList_toArray, Bool.not_true, Bool.not_false]
      refine StA_all (Hp.set_same _ _ _) (by rfl) (by rfl) (by rfl) (LdA_obj (Hp.set_same _ _ _) (by rfl) ?_)
      rw [Hp.set_set]
      exact ⟨rfl, hle _⟩
  · rw [if_neg h, if_neg h]
    refine BIf_pos (by rfl) ?_
    refine StA_all (Hp.set_same _ _ _) (by rfl) (by rfl) (by rfl) (LdA_obj (Hp.set_same _ _ _) (by rfl) ?_)
    rw [Hp.set_set]
    exact ⟨rfl, hle _⟩

/-- Sector's answer. -/
def SectorV (f s w p i : Int) : Int × Int × Int := if p < 1 ∨ i < 0 ∨ i ≥ w ∨ Int.tdiv i p ≥ s then (0, 0, 2) else (f + Int.tdiv i p, Int.tmod i p, 0)

theorem Sector_ok (f s w p i : Int) (hf : 0 ≤ f ∧ f ≤ 1000000000000) (hw : w ≤ 1000000000000) (H : Hp) :
    HCalls Tryz.prog 141 #[.agg (extV f s w), .int .i64 p, .int .i64 i] H (RetE (.tuple #[.int .i64 (SectorV f s w p i).1, .int .i64 (SectorV f s w p i).2.1, .int .i64 (SectorV f s w p i).2.2]) H) := by
  apply HCalls.ret
  apply W_layout_Sector.ok
  unfold W_layout_Sector
  intro b hb
  have hle := Hp.le_set (o := .obj (.cells #[.int .i64 f, .int .i64 s, .int .i64 w] 30)) hb
  simp only [Addr.add_lit', Nat.zero_add]
  have no : (p < 1 ∨ i < 0 ∨ i ≥ w ∨ Int.tdiv i p ≥ s) → Ret (.tuple #[.int .i64 (SectorV f s w p i).1, .int .i64 (SectorV f s w p i).2.1, .int .i64 (SectorV f s w p i).2.2]) H (.tuple #[.int .i64 0, .int .i64 0, .int .i64 2]) (H.set b (.obj (.cells #[.int .i64 f, .int .i64 s, .int .i64 w] 30))) := fun h => by
    unfold SectorV; rw [if_pos h]; exact ⟨rfl, hle⟩
  rw [BIf_decide, BIf_decide]
  split
  · exact no (by omega)
  split
  · exact no (by omega)
  refine Ld_obj (Hp.set_same _ _ _) (v := .int .i64 w) rfl ?_
  simp only [DI_int', DB_bool, DS_string, DP_pointer, DSl_slice, DM_map, DA_agg, DTup_tuple, DCons_cons, DNil_nil, NN_some, BIf_true, BIf_false, BIf_same, List.toList_toArray, Bool.not_true, Bool.not_false]
  rw [BIf_decide]
  split
  · exact no (by omega)
  refine ⟨by omega, by simp, ?_⟩
  refine Ld_obj (Hp.set_same _ _ _) (v := .int .i64 s) rfl ?_
  simp only [DI_int', DB_bool, DS_string, DP_pointer, DSl_slice, DM_map, DA_agg, DTup_tuple, DCons_cons, DNil_nil, NN_some, BIf_true, BIf_false, BIf_same, List.toList_toArray, Bool.not_true, Bool.not_false]
  have h1 : 0 ≤ Int.tdiv i p := Int.tdiv_nonneg (by omega) (by omega)
  have h2 : Int.tdiv i p ≤ i := by
    obtain ⟨a, rfl⟩ := Int.eq_ofNat_of_zero_le (show 0 ≤ i by omega)
    obtain ⟨c, rfl⟩ := Int.eq_ofNat_of_zero_le (show 0 ≤ p by omega)
    exact Int.ofNat_le.2 (Nat.div_le_self a c)
  rw [i64w (x := Int.tdiv i p) (by omega) (by omega), BIf_decide]
  split
  · rename_i h3; exact no (by omega)
  refine Ld_obj (Hp.set_same _ _ _) (v := .int .i64 f) rfl ?_
  simp only [DI_int', DB_bool, DS_string, DP_pointer, DSl_slice, DM_map, DA_agg, DTup_tuple, DCons_cons, DNil_nil, NN_some, BIf_true, BIf_false, BIf_same, List.toList_toArray, Bool.not_true, Bool.not_false]
  refine ⟨by omega, by simp, by omega, by simp, ?_⟩
  rw [i64w (x := f + Int.tdiv i p) (by omega) (by omega)]
  unfold SectorV
  rw [if_neg (by omega)]
  exact ⟨rfl, hle⟩

/-- Part's answer. -/
def PartV (f s w p from' n : Int) : Int × Int × Int :=
  if n < 1 ∨ from' < 0 ∨ from' ≥ w ∨ n > w - from' then (0, 0, 2) else
    if (SectorV f s w p from').2.2 = 0 then
      (if (SectorV f s w p (from' + n - 1)).2.2 = 0 then ((SectorV f s w p from').1, (SectorV f s w p (from' + n - 1)).1, 0) else (0, 0, (SectorV f s w p (from' + n - 1)).2.2))
    else (0, 0, (SectorV f s w p from').2.2)

/-- Whose a sector is. -/
def ownerI (r x : Int) : Int :=
  if x = 0 then -1 else if 1 ≤ x ∧ x < 9 then -2 else if 9 ≤ x ∧ x < 9 + r then 0 else if 9 + r ≤ x ∧ x < 9 + 2 * r then 1 else if 9 + 2 * r ≤ x ∧ x < 9 + 3 * r then 2 else if 9 + 3 * r ≤ x ∧ x < 9 + 4 * r then 3 else -3

def exF (r : Int) (i : Nat) : Int := 9 + i * r

/-! ## The law -/

def plN (x2 : Nat) : Nat := 4 * 2 ^ (x2 % 8)

theorem plN_facts (x2 : Nat) : 4 ≤ plN x2 ∧ plN x2 ≤ 512 ∧ perN ((8 * plN x2 : Nat) : Int) = plN x2 := by
  unfold plN
  rcases (by omega : x2 % 8 = 0 ∨ x2 % 8 = 1 ∨ x2 % 8 = 2 ∨ x2 % 8 = 3 ∨ x2 % 8 = 4 ∨ x2 % 8 = 5 ∨ x2 % 8 = 6 ∨ x2 % 8 = 7) with h | h | h | h | h | h | h | h <;> rw [h] <;> decide

theorem shl_four (x2 : Nat) (h : x2 ≤ 255) : shlI .i64 4 (IntKind.u64.wrap (Int.tmod (x2 : Int) 8)) = (plN x2 : Int) := by
  rw [show Int.tmod (x2 : Int) 8 = ((x2 % 8 : Nat) : Int) from rfl, u64n (by omega)]
  unfold plN
  rcases (by omega : x2 % 8 = 0 ∨ x2 % 8 = 1 ∨ x2 % 8 = 2 ∨ x2 % 8 = 3 ∨ x2 % 8 = 4 ∨ x2 % 8 = 5 ∨ x2 % 8 = 6 ∨ x2 % 8 = 7) with h | h | h | h | h | h | h | h <;> rw [h] <;> decide

theorem lay_ext (k p i : Nat) (hi : i < 4) : ((layV k p).toList.drop (5 + i * 3)).take 3 = (extV (exF (roomN k p) i) (roomN k p) ((2 ^ k : Nat) : Int)).toList := by
  unfold exF
  rcases (by omega : i = 0 ∨ i = 1 ∨ i = 2 ∨ i = 3) with rfl | rfl | rfl | rfl <;> simp [layV, extV]
theorem lay_first (k p i : Nat) (hi : i < 4) : (layV k p)[5 + i * 3]? = some (.int .i64 (exF (roomN k p) i)) := by
  unfold exF
  rcases (by omega : i = 0 ∨ i = 1 ∨ i = 2 ∨ i = 3) with rfl | rfl | rfl | rfl <;> simp [layV]
theorem lay_sectors (k p i : Nat) (hi : i < 4) : (layV k p)[5 + i * 3 + 1]? = some (.int .i64 (roomN k p)) := by
  rcases (by omega : i = 0 ∨ i = 1 ∨ i = 2 ∨ i = 3) with rfl | rfl | rfl | rfl <;> simp [layV]

section
variable (K : Value → Hp → Prop) (k p e : Nat) (hk : k ≤ 10) (b1 b2 : Nat) (H0 H : Hp) (hle : H0.le H) (h1 : H b1 = some (.obj (.cells (layV k p) 33))) (h2 : H b2 = some (.obj (.cells (extV (exF (roomN k p) e) (roomN k p) ((2 ^ k : Nat) : Int)) 30)))
include hk hle h1 h2

theorem sec_in (hp : 4 ≤ p) (i : Int) (hi : 0 ≤ i ∧ i < ((2 ^ k : Nat) : Int)) : SectorV (exF (roomN k p) e) (roomN k p) ((2 ^ k : Nat) : Int) p i = (exF (roomN k p) e + Int.tdiv i p, Int.tmod i p, 0) ∧ 0 ≤ Int.tdiv i p ∧ Int.tdiv i p < roomN k p := by
  obtain ⟨a, rfl⟩ := Int.eq_ofNat_of_zero_le hi.1
  have h3 : a / p ≤ (2 ^ k - 1) / p := Nat.div_le_div_right (by omega)
  have h4 : Int.tdiv (a : Int) (p : Int) = ((a / p : Nat) : Int) := rfl
  have h5 : (a / p : Nat) < roomN k p := by unfold roomN; omega
  have h6 : (0 : Int) ≤ ((a / p : Nat) : Int) := Int.natCast_nonneg _
  have h7 : ((a / p : Nat) : Int) < (roomN k p : Int) := Int.ofNat_lt.2 h5
  rw [← h4] at h6 h7
  refine ⟨?_, h6, h7⟩
  unfold SectorV
  rw [if_neg (by omega)]

end

end Go.Proofs.YtlgpappgnndgiaaGreatDoor.Lay

end
section
/-! HwV -/
/- The frame of the proofs: structs and arrays of plain cells, compared. -/
set_option maxRecDepth 100000
set_option linter.unusedSimpArgs false
set_option linter.unusedVariables false
set_option linter.unnecessarySimpa false
set_option linter.unusedSectionVars false
namespace Go.Hw
open Go

def litOk : Lf → Lit → Bool
  | .int k, .int k' n => decide (k' = k) && (Lit.int k n).wf
  | .bool, .bool _ => true
  | .str, .string l => decide (l.length ≤ maxLen)
  | _, _ => false

def okAll : List Lf → List Lit → Bool
  | [], [] => true
  | f :: fs, l :: ls => litOk f l && okAll fs ls
  | _, _ => false

def flatFs (P : Program) (g : TypeId → Option (List Lf)) : List Field → Nat → Option (List Lf)
  | [], _ => some []
  | f :: r, off => match f.name != "_" && Nat.beq f.offset off with
    | true => match g f.type with
      | some l => match Nat.beq l.length (P.cellsOf f.type) with
        | true => match flatFs P g r (off + l.length) with
          | some k => some (l ++ k)
          | none => none
        | false => none
      | none => none
    | false => none

/-- The plain cells that a type is made of. -/
def flat (P : Program) : Nat → TypeId → Option (List Lf)
  | 0, _ => none
  | d + 1, t => match P.underlying t with
    | some .bool => some [.bool]
    | some (.int q) => some [.int q]
    | some .string => some [.str]
    | some (.array n e) => match flat P d e with
      | some l => match Nat.beq l.length (P.cellsOf e) && Nat.beq (n * l.length) (P.cellsOf t) with
        | true => some (List.replicate n l).flatten
        | false => none
      | none => none
    | some (.struct fs) => match flatFs P (flat P d) fs.toList 0 with
      | some l => match Nat.beq l.length (P.cellsOf t) with
        | true => some l
        | false => none
      | none => none
    | _ => none

theorem okAll_len : ∀ {fs : List Lf} {ls : List Lit}, okAll fs ls = true → ls.length = fs.length
  | [], [], _ => rfl
  | _ :: fs, _ :: ls, h => by
    simp only [okAll, Bool.and_eq_true] at h
    simp [okAll_len h.2]
  | [], _ :: _, h => by cases h
  | _ :: _, [], h => by cases h

theorem okAll_split : ∀ {a b : List Lf} {ls : List Lit}, okAll (a ++ b) ls = true → ∃ x y, ls = x ++ y ∧ okAll a x = true ∧ okAll b y = true
  | [], b, ls, h => ⟨[], ls, rfl, rfl, h⟩
  | f :: a, b, [], h => by cases h
  | f :: a, b, l :: ls, h => by
    simp only [List.cons_append, okAll, Bool.and_eq_true] at h
    obtain ⟨x, y, rfl, h1, h2⟩ := okAll_split h.2
    exact ⟨l :: x, y, rfl, by simp [okAll, h.1, h1], h2⟩

theorem okAll_one {f : Lf} {ls : List Lit} (h : okAll [f] ls = true) : ∃ x, ls = [x] := by
  have := okAll_len h
  match ls, this with
  | [x], _ => exact ⟨x, rfl⟩

theorem keyLits_flat {P : Program} : ∀ (d : Nat) (t : TypeId) (ks : List Lf) (ls : List Lit), flat P d t = some ks → okAll ks ls = true → P.keyLits d t (ls.map Lit.value) = some ls
  | 0, _, _, _, h, _ => by cases h
  | d + 1, t, ks, ls, h, ho => by
    unfold flat at h
    unfold Program.keyLits
    split at h
    · rename_i hu
      cases h
      obtain ⟨x, rfl⟩ := okAll_one ho
      cases x <;> simp only [okAll, litOk, Bool.and_true, Bool.false_eq_true, Bool.false_and] at ho
      simp [hu, Lit.value]
    · rename_i q hu
      cases h
      obtain ⟨x, rfl⟩ := okAll_one ho
      cases x <;> simp only [okAll, litOk, Bool.and_eq_true, decide_eq_true_eq, Bool.and_true, Bool.false_eq_true, Bool.false_and] at ho
      obtain ⟨rfl, hw⟩ := ho
      simp [hu, Lit.value, hw]
    · rename_i hu
      cases h
      obtain ⟨x, rfl⟩ := okAll_one ho
      cases x <;> simp only [okAll, litOk, decide_eq_true_eq, Bool.and_true, Bool.false_eq_true, Bool.false_and] at ho
      simp [hu, Lit.value, ByteArray.size, ho]
    · rename_i n e hu
      split at h
      · rename_i l hl
        split at h
        · rename_i hb
          cases h
          simp only [Bool.and_eq_true] at hb
          have h1 := Nat.eq_of_beq_eq_true hb.1
          have h2 := Nat.eq_of_beq_eq_true hb.2
          simp only [hu]
          have hlen := okAll_len ho
          rw [if_pos (by rw [List.length_map, hlen, List.length_flatten]; simp [h2, ← h1] )]
          have key : ∀ (m i : Nat) (pre ls : List Lit), pre.length = i * l.length → okAll (List.replicate m l).flatten ls = true →
              ∃ out, (List.range' i m).mapM (fun i => P.keyLits d e ((((pre ++ ls).map Lit.value).drop (i * P.cellsOf e)).take (P.cellsOf e))) = some out ∧ out.flatten = ls := by
            intro m
            induction m with
            | zero =>
              intro i pre ls _ ho
              have : ls = [] := by have := okAll_len ho; simpa using this
              subst this
              exact ⟨[], by simp, rfl⟩
            | succ m ih =>
              intro i pre ls hp ho
              rw [List.replicate_succ, List.flatten_cons] at ho
              obtain ⟨x, y, rfl, hx, hy⟩ := okAll_split ho
              have lx := okAll_len hx
              obtain ⟨out, ho1, ho2⟩ := ih (i + 1) (pre ++ x) y (by rw [List.length_append, hp, lx, Nat.succ_mul]) hy
              refine ⟨x :: out, ?_, by rw [List.flatten_cons, ho2]⟩
              rw [List.range'_succ, List.mapM_cons]
              have e1 : ((((pre ++ (x ++ y)).map Lit.value).drop (i * P.cellsOf e)).take (P.cellsOf e)) = x.map Lit.value := by
                rw [← h1, ← hp, List.map_append, List.drop_left' (by simp), List.map_append, List.take_left' (by simp [lx])]
              rw [e1, keyLits_flat d e l x hl hx]
              rw [List.append_assoc] at ho1
              rw [ho1]; rfl
          obtain ⟨out, h3, h4⟩ := key n 0 [] ls (by simp) ho
          rw [List.range_eq_range']
          simp only [List.nil_append] at h3
          rw [h3]; simp [h4]
        · cases h
      · cases h
    · rename_i fs hu
      split at h
      · rename_i l hl
        split at h
        · rename_i hb
          cases h
          have h1 := Nat.eq_of_beq_eq_true hb
          have hlen := okAll_len ho
          have key : ∀ (fl : List Field) (off : Nat) (k : List Lf) (pre ls : List Lit), flatFs P (flat P d) fl off = some k → pre.length = off → okAll k ls = true →
              (fl.all (·.name != "_") = true) ∧ ∃ out, fl.mapM (fun f => P.keyLits d f.type ((((pre ++ ls).map Lit.value).drop f.offset).take (P.cellsOf f.type))) = some out ∧ out.flatten = ls := by
            intro fl
            induction fl with
            | nil =>
              intro off k pre ls hk _ ho
              cases hk
              have : ls = [] := by have := okAll_len ho; simpa using this
              subst this
              exact ⟨rfl, [], by simp, rfl⟩
            | cons f fl ih =>
              intro off k pre ls hk hp ho
              unfold flatFs at hk
              split at hk
              · rename_i hn
                simp only [Bool.and_eq_true] at hn
                have hoff := Nat.eq_of_beq_eq_true hn.2
                split at hk
                · rename_i kl hkl
                  split at hk
                  · rename_i hb2
                    have h2 := Nat.eq_of_beq_eq_true hb2
                    split at hk
                    · rename_i kr hkr
                      cases hk
                      obtain ⟨x, y, rfl, hx, hy⟩ := okAll_split ho
                      have lx := okAll_len hx
                      obtain ⟨hn2, out, ho1, ho2⟩ := ih (off + kl.length) kr (pre ++ x) y hkr (by rw [List.length_append, hp, lx]) hy
                      refine ⟨by rw [List.all_cons, hn.1, hn2]; rfl, x :: out, ?_, by rw [List.flatten_cons, ho2]⟩
                      rw [List.mapM_cons]
                      have e1 : ((((pre ++ (x ++ y)).map Lit.value).drop f.offset).take (P.cellsOf f.type)) = x.map Lit.value := by
                        rw [hoff, ← h2, ← hp, List.map_append, List.drop_left' (by simp), List.map_append, List.take_left' (by simp [lx])]
                      rw [e1, keyLits_flat d f.type kl x hkl hx]
                      rw [List.append_assoc] at ho1
                      rw [ho1]; rfl
                    · cases hk
                  · cases hk
                · cases hk
              · cases hk
          obtain ⟨hn, out, h3, h4⟩ := key fs.toList 0 ks [] ls hl rfl ho
          simp only [hu]
          rw [if_pos ⟨by rw [List.length_map, hlen, h1], by rw [← Array.all_toList]; exact hn⟩]
          simp only [List.nil_append] at h3
          rw [h3]; simp [h4]
        · cases h
      · cases h
    · cases h

theorem flat_len {P : Program} {d : Nat} {t : TypeId} {ks : List Lf} (ha : isArr P t = true) (h : flat P d t = some ks) : ks.length = P.cellsOf t := by
  cases d with
  | zero => cases h
  | succ d =>
    unfold flat at h
    unfold isArr at ha
    split at h
    · rename_i hu; rw [hu] at ha; cases ha
    · rename_i hu; rw [hu] at ha; cases ha
    · rename_i hu; rw [hu] at ha; cases ha
    · split at h
      · rename_i l hl
        split at h
        · rename_i hb
          cases h
          simp only [Bool.and_eq_true] at hb
          rw [← Nat.eq_of_beq_eq_true hb.2]; simp [List.length_flatten]
        · cases h
      · cases h
    · split at h
      · split at h
        · rename_i hb; cases h; exact Nat.eq_of_beq_eq_true hb
        · cases h
      · cases h
    · cases h

theorem equal_flat {P : Program} {d m : Nat} {t : TypeId} {ks : List Lf} (ha : isArr P t = true) (hf : flat P d t = some ks) (hk : P.keyTypeAt m t = true) (hm : m ≤ 10000) {lx ly : List Lit} (ox : okAll ks lx = true) (oy : okAll ks ly = true) {c : Bool} (hc : c = true ↔ lx = ly) (w : World) :
    (Op.equal t (.agg (lx.map Lit.value).toArray) (.agg (ly.map Lit.value).toArray)).run P w = .ok c w := by
  have hform : ∀ l : List Lit, okAll ks l = true → (Value.agg (l.map Lit.value).toArray).formed P t = true := fun l hl => by
    have := okAll_len hl
    have h2 := flat_len ha hf
    unfold Value.formed
    unfold isArr at ha
    split at ha
    · rename_i hu; rw [hu]; simp [this, h2]
    · rename_i hu; rw [hu]; simp [this, h2]
    · cases ha
  obtain ⟨r, hr, hiff⟩ := run_equalIn_deep (P := P) (10000 - m) m t hk w d d _ _ lx ly (hform lx ox) (hform ly oy) (by simpa [Value.cells] using keyLits_flat d t ks lx hf ox) (by simpa [Value.cells] using keyLits_flat d t ks ly hf oy)
  rw [show 10000 - m + m = 10000 by omega] at hr
  have : r = c := by
    cases r <;> cases c <;> simp_all
  rw [← this]
  exact hr

theorem wf64 {n : Int} (h0 : -9223372036854775808 ≤ n) (h1 : n ≤ 9223372036854775807) : (Lit.int .i64 n).wf = true := by
  simp only [Lit.wf, Bool.and_eq_true, decide_eq_true_eq]
  exact ⟨h0, h1⟩
theorem wfI {n : Int} (h : -9223372036854775808 ≤ n ∧ n ≤ 9223372036854775807) : (Lit.int .i64 n).wf = true := wf64 h.1 h.2
theorem ok64 : ∀ (n : Nat) (l : List Int), l.length = n → (∀ x ∈ l, -9223372036854775808 ≤ x ∧ x ≤ 9223372036854775807) → okAll (List.replicate n (.int .i64)) (l.map (Lit.int .i64)) = true
  | 0, [], _, _ => rfl
  | n + 1, x :: l, h, hr => by
    have h1 := wfI (hr x (by simp))
    have h2 := ok64 n l (by simpa using h) (fun y hy => hr y (by simp [hy]))
    rw [List.replicate_succ, List.map_cons]
    simp only [okAll, litOk, decide_true, Bool.true_and, Bool.and_eq_true]
    exact ⟨h1, h2⟩

section
variable {P : Program} {d m : Nat} {t : TypeId} {ks : List Lf} (ha : isArr P t = true) (hf : flat P d t = some ks) (hk : P.keyTypeAt m t = true) (hm : m ≤ 10000) (hg : P.eqGuardType P.depth t = false)
include ha hf hk hm hg
theorem EqV_eql {lx ly : List Lit} (ox : okAll ks lx = true) (oy : okAll ks ly = true) {cx cy : Array Value} (ex : cx = (lx.map Lit.value).toArray) (ey : cy = (ly.map Lit.value).toArray) {K : Bool → Prop} (c : Bool) (hc : c = true ↔ lx = ly) (k : K c) : EqV P .eql t (.agg cx) (.agg cy) K := by
  subst ex; subst ey
  refine ⟨_, k, fun xo yo w => ?_⟩
  have h := equal_flat ha hf hk hm ox oy hc w
  simp [eqGuard, binOp, h, hg]
theorem EqV_neq {lx ly : List Lit} (ox : okAll ks lx = true) (oy : okAll ks ly = true) {cx cy : Array Value} (ex : cx = (lx.map Lit.value).toArray) (ey : cy = (ly.map Lit.value).toArray) {K : Bool → Prop} (c : Bool) (hc : c = true ↔ lx = ly) (k : K (!c)) : EqV P .neq t (.agg cx) (.agg cy) K := by
  subst ex; subst ey
  refine ⟨_, k, fun xo yo w => ?_⟩
  have h := equal_flat ha hf hk hm ox oy hc w
  simp [eqGuard, binOp, h, hg]
end

/-- What a type of i64 cells alone must be. -/
def plain64 (P : Program) (t : TypeId) (n : Nat) : Prop := isArr P t = true ∧ flat P 9 t = some (List.replicate n (.int .i64)) ∧ P.keyTypeAt 9 t = true ∧ P.eqGuardType P.depth t = false

theorem map64 (l : List Int) : (l.map (Lit.int .i64)).map Lit.value = l.map (Value.int .i64) := by rw [List.map_map]; rfl
theorem inj64 {a b : List Int} : a.map (Lit.int .i64) = b.map (Lit.int .i64) ↔ a = b := by
  constructor
  · intro h
    have : ∀ {a b : List Int}, a.map (Lit.int .i64) = b.map (Lit.int .i64) → a = b := by
      intro a
      induction a with
      | nil => intro b h; cases b with
        | nil => rfl
        | cons _ _ => simp at h
      | cons x a ih => intro b h; cases b with
        | nil => simp at h
        | cons y b => simp at h; rw [h.1, ih (by simpa using h.2)]
    exact this h
  · intro h; rw [h]

theorem EqI_eql {P : Program} {t : TypeId} {n : Nat} (hp : plain64 P t n) {a b : List Int} (la : a.length = n) (lb : b.length = n) (ra : ∀ x ∈ a, -9223372036854775808 ≤ x ∧ x ≤ 9223372036854775807) (rb : ∀ x ∈ b, -9223372036854775808 ≤ x ∧ x ≤ 9223372036854775807)
    {cx cy : Array Value} (ex : cx = (a.map (Value.int .i64)).toArray) (ey : cy = (b.map (Value.int .i64)).toArray) {K : Bool → Prop} (k : K (decide (a = b))) : EqV P .eql t (.agg cx) (.agg cy) K :=
  EqV_eql hp.1 hp.2.1 hp.2.2.1 (by omega) hp.2.2.2 (ok64 n a la ra) (ok64 n b lb rb) (by rw [map64]; exact ex) (by rw [map64]; exact ey) _ (by rw [inj64]; simp) k
theorem EqI_neq {P : Program} {t : TypeId} {n : Nat} (hp : plain64 P t n) {a b : List Int} (la : a.length = n) (lb : b.length = n) (ra : ∀ x ∈ a, -9223372036854775808 ≤ x ∧ x ≤ 9223372036854775807) (rb : ∀ x ∈ b, -9223372036854775808 ≤ x ∧ x ≤ 9223372036854775807)
    {cx cy : Array Value} (ex : cx = (a.map (Value.int .i64)).toArray) (ey : cy = (b.map (Value.int .i64)).toArray) {K : Bool → Prop} (k : K (!decide (a = b))) : EqV P .neq t (.agg cx) (.agg cy) K :=
  EqV_neq hp.1 hp.2.1 hp.2.2.1 (by omega) hp.2.2.2 (ok64 n a la ra) (ok64 n b lb rb) (by rw [map64]; exact ex) (by rw [map64]; exact ey) _ (by rw [inj64]; simp) k

end Go.Hw

end
section
/-! Wsuper -/
/- Formulas of functions, printed by wip/tools/hwp.py. -/
set_option maxRecDepth 100000
set_option linter.unusedVariables false
namespace Go.Proofs.YtlgpappgnndgiaaGreatDoor.W
open Go Go.Hw

theorem mixWsuper : Tryz.prog.follows .mixedOrders = true := by kernel_rfl
-- super.Read
def W_super_Read (p1 : Option Addr) (H : Hp) (K : Value → Hp → Prop) : Prop :=
  Nw H (.obj (.cells #[.int .i64 (0 : Int), .int .i64 (0 : Int), .int .i64 (0 : Int), .int .i64 (0 : Int)] 277)) fun b1 H1 => HCalls Tryz.prog 71 #[.pointer p1, .int .i64 (0 : Int)] H1 fun v1 H2 => DTup v1 fun l1 => DCons l1 fun v2 l2 => DSl v2 fun A1 n1 m1 => DCons l2 fun v3 l3 => DI .i64 v3 fun x1 => DNil l3 (BIf (x1 != (0 : Int)) (StA H2 (⟨b1, 0, none⟩ : Addr) #[.int .i64 (0 : Int), .int .i64 (0 : Int), .int .i64 (0 : Int), .int .i64 (0 : Int)] 4 fun H3 => LdA H3 (⟨b1, 0, none⟩ : Addr) 4 fun l9 => K (.tuple #[.agg l9.toArray, .int .i64 x1]) H3) (HCalls Tryz.prog 218 #[.slice A1 n1 m1] H2 fun v4 H4 => DTup v4 fun l4 => DCons l4 fun v5 l5 => DA v5 fun y1 => DCons l5 fun v6 l6 => DI .i64 v6 fun x2 => DNil l6 (Nw H4 (.obj (.cells #[.int .i64 (0 : Int), .int .i64 (0 : Int), .int .i64 (0 : Int), .int .i64 (0 : Int)] 277)) fun b2 H5 => StA H5 (⟨b2, 0, none⟩ : Addr) y1 4 fun H6 => BIf (x2 != (0 : Int)) (StA H6 (⟨b1, 0, none⟩ : Addr) #[.int .i64 (0 : Int), .int .i64 (0 : Int), .int .i64 (0 : Int), .int .i64 (0 : Int)] 4 fun H7 => LdA H7 (⟨b1, 0, none⟩ : Addr) 4 fun l10 => K (.tuple #[.agg l10.toArray, .int .i64 x2]) H7) (LdA H6 (⟨b2, 0, none⟩ : Addr) 4 fun l7 => HCalls Tryz.prog 219 #[.pointer p1, .agg l7.toArray] H6 fun v7 H8 => DB v7 fun c1 => BIf (!c1) (StA H8 (⟨b1, 0, none⟩ : Addr) #[.int .i64 (0 : Int), .int .i64 (0 : Int), .int .i64 (0 : Int), .int .i64 (0 : Int)] 4 fun H9 => LdA H9 (⟨b1, 0, none⟩ : Addr) 4 fun l11 => K (.tuple #[.agg l11.toArray, .int .i64 (1 : Int)]) H9) (LdA H8 (⟨b2, 0, none⟩ : Addr) 4 fun l8 => StA H8 (⟨b1, 0, none⟩ : Addr) l8.toArray 4 fun H10 => LdA H10 (⟨b1, 0, none⟩ : Addr) 4 fun l12 => K (.tuple #[.agg l12.toArray, .int .i64 (0 : Int)]) H10)))))
def W_super_Read.Λ (_ : Value → Hp → Prop) : Cuts := Cuts.none (fun _ => none)
theorem W_super_Read.ok (p1 : Option Addr) (H : Hp) (K : Value → Hp → Prop) (h : W_super_Read p1 H K) : HCalls Tryz.prog 177 #[.pointer p1] H K :=
  hcalls Tryz.func177 rfl (Nat.le_of_ble_eq_true rfl) (hw_safe (Λ := Cuts.none (fun _ => none)) mixWsuper _ _ _ _ _ (Eq.mp (by kernel_rfl) h) (obs_none _ _ _ _ _))

-- super.Layout
def W_super_Layout (x1 : Int) (x2 : Int) (x3 : Int) (x4 : Int) (H : Hp) (K : Value → Hp → Prop) : Prop :=
  Nw H (.obj (.cells #[.int .i64 x1, .int .i64 x2, .int .i64 x3, .int .i64 x4] 277)) fun b1 H1 => Nw H1 (.obj (.cells #[.int .i64 (0 : Int), .int .i64 (0 : Int), .int .i64 (0 : Int), .int .i64 (0 : Int), .int .i64 (0 : Int), .int .i64 (0 : Int), .int .i64 (0 : Int), .int .i64 (0 : Int), .int .i64 (0 : Int), .int .i64 (0 : Int), .int .i64 (0 : Int), .int .i64 (0 : Int), .int .i64 (0 : Int), .int .i64 (0 : Int), .int .i64 (0 : Int), .int .i64 (0 : Int), .int .i64 (0 : Int)] 33)) fun b2 H2 => LdA H2 (⟨b1, 0, none⟩ : Addr) 4 fun l1 => HCalls Tryz.prog 220 #[.agg l1.toArray] H2 fun v1 H3 => DB v1 fun c1 => BIf (!c1) (StA H3 (⟨b2, 0, none⟩ : Addr) #[.int .i64 (0 : Int), .int .i64 (0 : Int), .int .i64 (0 : Int), .int .i64 (0 : Int), .int .i64 (0 : Int), .int .i64 (0 : Int), .int .i64 (0 : Int), .int .i64 (0 : Int), .int .i64 (0 : Int), .int .i64 (0 : Int), .int .i64 (0 : Int), .int .i64 (0 : Int), .int .i64 (0 : Int), .int .i64 (0 : Int), .int .i64 (0 : Int), .int .i64 (0 : Int), .int .i64 (0 : Int)] 17 fun H4 => LdA H4 (⟨b2, 0, none⟩ : Addr) 17 fun l5 => K (.tuple #[.agg l5.toArray, .int .i64 (1 : Int)]) H4) (Ld H3 ((⟨b1, 0, none⟩ : Addr).add 0) fun v2 => DI .i64 v2 fun x5 => Ld H3 ((⟨b1, 0, none⟩ : Addr).add 1) fun v3 => DI .i64 v3 fun x6 => Ld H3 ((⟨b1, 0, none⟩ : Addr).add 2) fun v4 => DI .i64 v4 fun x7 => HCalls Tryz.prog 52 #[.int .i64 x5, .int .i64 x6, .int .i64 x7] H3 fun v5 H5 => DTup v5 fun l2 => DCons l2 fun v6 l3 => DA v6 fun y1 => DCons l3 fun v7 l4 => DI .i64 v7 fun x8 => DNil l4 (StA H5 (⟨b2, 0, none⟩ : Addr) y1 17 fun H6 => LdA H6 (⟨b2, 0, none⟩ : Addr) 17 fun l6 => K (.tuple #[.agg l6.toArray, .int .i64 x8]) H6))
def W_super_Layout.Λ (_ : Value → Hp → Prop) : Cuts := Cuts.none (fun _ => none)
theorem W_super_Layout.ok (x1 : Int) (x2 : Int) (x3 : Int) (x4 : Int) (H : Hp) (K : Value → Hp → Prop) (h : W_super_Layout x1 x2 x3 x4 H K) : HCalls Tryz.prog 178 #[.agg #[.int .i64 x1, .int .i64 x2, .int .i64 x3, .int .i64 x4]] H K :=
  hcalls Tryz.func178 rfl (Nat.le_of_ble_eq_true rfl) (hw_safe (Λ := Cuts.none (fun _ => none)) mixWsuper _ _ _ _ _ (Eq.mp (by kernel_rfl) h) (obs_none _ _ _ _ _))

-- super.Take
def W_super_Take.l5 (K : Value → Hp → Prop) : Nat → Option Addr → Nat → Nat → Addr → Addr → Int → Hp → Prop
  | 0, _, _, _, _, _, _, _ => False
  | k + 1, A2, n2, m2, a1, a2, x1, H =>
    let R5 := W_super_Take.l5 K k
    BIf (decide (x1 < (4 : Int))) (HCalls Tryz.prog 144 #[.slice A2 n2 m2, .int .i64 x1] H fun v2 H5 => DTup v2 fun l1 => DCons l1 fun v3 l2 => DI .u64 v3 fun x2 => DCons l2 fun v4 l3 => DI .i64 v4 fun x3 => DNil l3 (ixI x1 4 (St H5 ((a2.add (x1.toNat * 1)).add 0) (.int .u64 x2) fun H6 => R5 A2 n2 m2 a1 a2 (IntKind.i64.wrap (x1 + (1 : Int))) H6))) (ixI (0 : Int) 4 (Ld H (a2.add ((0 : Int).toNat * 1)) fun v5 => DI .u64 v5 fun x4 => (0 ≤ (16 : Int) ∧ ixI (0 : Int) 4 (Ld H (a2.add ((0 : Int).toNat * 1)) fun v6 => DI .u64 v6 fun x5 => (0 ≤ (bAnd .u64 x5 (63 : Int)) ∧ ixI (1 : Int) 4 (Ld H (a2.add ((1 : Int).toNat * 1)) fun v7 => DI .u64 v7 fun x6 => ixI (2 : Int) 4 (Ld H (a2.add ((2 : Int).toNat * 1)) fun v8 => DI .u64 v8 fun x7 => Nw H (.obj (.cells #[.int .i64 (0 : Int), .int .i64 (0 : Int), .int .i64 (0 : Int), .int .i64 (0 : Int)] 277)) fun b3 H7 => StA H7 (⟨b3, 0, none⟩ : Addr) #[.int .i64 (IntKind.i64.wrap (bAnd .u64 (shrI .u64 x4 (16 : Int)) (65535 : Int))), .int .i64 (IntKind.i64.wrap x6), .int .i64 (shlI .i64 (1 : Int) (bAnd .u64 x5 (63 : Int))), .int .i64 (IntKind.i64.wrap x7)] 4 fun H8 => ixI (0 : Int) 4 (Ld H8 (a2.add ((0 : Int).toNat * 1)) fun v9 => DI .u64 v9 fun x8 => (0 ≤ (32 : Int) ∧ BIf ((shrI .u64 x8 (32 : Int)) != (1094861123 : Int)) (StA H8 a1 #[.int .i64 (0 : Int), .int .i64 (0 : Int), .int .i64 (0 : Int), .int .i64 (0 : Int)] 4 fun H10 => LdA H10 a1 4 fun l8 => K (.tuple #[.agg l8.toArray, .int .i64 (10 : Int)]) H10) (HCalls Tryz.prog 247 #[.slice A2 n2 m2] H8 fun v10 H9 => DB v10 fun c2 => BIf (!c2) (StA H9 a1 #[.int .i64 (0 : Int), .int .i64 (0 : Int), .int .i64 (0 : Int), .int .i64 (0 : Int)] 4 fun H11 => LdA H11 a1 4 fun l9 => K (.tuple #[.agg l9.toArray, .int .i64 (10 : Int)]) H11) (ixI (3 : Int) 4 (Ld H9 (a2.add ((3 : Int).toNat * 1)) fun v11 => DI .u64 v11 fun x9 => slB 4 4 none (some (3 : Int)) fun n3 n4 => QCall Tryz.prog 161 #[.slice (slA (some a2) 4 n3 1) (n4 - n3) (4 - n3)] H9 fun v12 => DI .u32 v12 fun x10 => BIf (x9 != (IntKind.u64.wrap x10)) (StA H9 a1 #[.int .i64 (0 : Int), .int .i64 (0 : Int), .int .i64 (0 : Int), .int .i64 (0 : Int)] 4 fun H12 => LdA H12 a1 4 fun l10 => K (.tuple #[.agg l10.toArray, .int .i64 (9 : Int)]) H12) (LdA H9 (⟨b3, 0, none⟩ : Addr) 4 fun l4 => QCall Tryz.prog 220 #[.agg l4.toArray] H9 fun v13 => DB v13 fun c3 => BIf (!c3) (StA H9 a1 #[.int .i64 (0 : Int), .int .i64 (0 : Int), .int .i64 (0 : Int), .int .i64 (0 : Int)] 4 fun H13 => LdA H13 a1 4 fun l11 => K (.tuple #[.agg l11.toArray, .int .i64 (1 : Int)]) H13) (LdA H9 (⟨b3, 0, none⟩ : Addr) 4 fun l5 => QCall Tryz.prog 248 #[.agg l5.toArray] H9 fun v14 => DI .u64 v14 fun x11 => ixI (0 : Int) 4 (Ld H9 (a2.add ((0 : Int).toNat * 1)) fun v15 => DI .u64 v15 fun x12 => BIf (x11 != x12) (StA H9 a1 #[.int .i64 (0 : Int), .int .i64 (0 : Int), .int .i64 (0 : Int), .int .i64 (0 : Int)] 4 fun H14 => LdA H14 a1 4 fun l12 => K (.tuple #[.agg l12.toArray, .int .i64 (1 : Int)]) H14) (Ld H9 ((⟨b3, 0, none⟩ : Addr).add 2) fun v16 => DI .i64 v16 fun x13 => BIf (x13 != ((n2 : Nat) : Int)) (StA H9 a1 #[.int .i64 (0 : Int), .int .i64 (0 : Int), .int .i64 (0 : Int), .int .i64 (0 : Int)] 4 fun H15 => LdA H15 a1 4 fun l13 => K (.tuple #[.agg l13.toArray, .int .i64 (1 : Int)]) H15) (LdA H9 (⟨b3, 0, none⟩ : Addr) 4 fun l6 => StA H9 a1 l6.toArray 4 fun H16 => LdA H16 a1 4 fun l14 => K (.tuple #[.agg l14.toArray, .int .i64 (0 : Int)]) H16)))))))))))))))))
def W_super_Take (A1 : Option Addr) (n1 : Nat) (m1 : Nat) (H : Hp) (K : Value → Hp → Prop) : Prop :=
  Nw H (.obj (.cells #[.int .i64 (0 : Int), .int .i64 (0 : Int), .int .i64 (0 : Int), .int .i64 (0 : Int)] 277)) fun b1 H1 => HCalls Tryz.prog 246 #[.slice A1 n1 m1] H1 fun v1 H2 => DB v1 fun c1 => BIf (!c1) (StA H2 (⟨b1, 0, none⟩ : Addr) #[.int .i64 (0 : Int), .int .i64 (0 : Int), .int .i64 (0 : Int), .int .i64 (0 : Int)] 4 fun H3 => LdA H3 (⟨b1, 0, none⟩ : Addr) 4 fun l7 => K (.tuple #[.agg l7.toArray, .int .i64 (15 : Int)]) H3) (Nw H2 (.obj (.cells #[.int .u64 (0 : Int), .int .u64 (0 : Int), .int .u64 (0 : Int), .int .u64 (0 : Int)] 348)) fun b2 H4 => (∃ k, W_super_Take.l5 K k A1 n1 m1 (⟨b1, 0, none⟩ : Addr) (⟨b2, 0, none⟩ : Addr) (0 : Int) H4))
def W_super_Take.l5.L (K : Value → Hp → Prop) (k : Nat) : Mid := fun E D H =>
  DG (E.get? 0) fun w0 => DSl w0 fun A2 n2 m2 => DG (E.get? 2) fun w2 => DP w2 fun pw2 => NN pw2 fun a1 => DG (E.get? 4) fun w4 => DP w4 fun pw4 => NN pw4 fun a2 => DG (E.get? 13) fun w13 => DI .i64 w13 fun x1 => DNilD D (W_super_Take.l5 K k A2 n2 m2 a1 a2 x1 H)
def W_super_Take.Λ5 (_ : Value → Hp → Prop) (_R5 : Option Addr → Nat → Nat → Addr → Addr → Int → Hp → Prop) : Cuts := Cuts.none (fun _ => none)
def W_super_Take.Λ (K : Value → Hp → Prop) : Cuts := ⟨fun i => none, fun i => match Nat.beq i 5 with | true => some (fun E D H => ∃ k, W_super_Take.l5.L K k E D H) | false => none, (fun _ => none)⟩
theorem W_super_Take.ok (A1 : Option Addr) (n1 : Nat) (m1 : Nat) (H : Hp) (K : Value → Hp → Prop) (h : W_super_Take A1 n1 m1 H K) : HCalls Tryz.prog 218 #[.slice A1 n1 m1] H K :=
  hcalls Tryz.func218 rfl (Nat.le_of_ble_eq_true rfl) (hw_safe (Λ := (W_super_Take.Λ K)) mixWsuper _ _ _ _ _ (Eq.mp (by kernel_rfl) h) (obs_seq obs_region rfl (obs_seq (obs_seq obs_region rfl (obs_cond (obs_seq obs_region rfl obs_ret) obs_skip)) rfl (obs_seq obs_region rfl (obs_seq (obs_seq obs_region rfl (obs_block (obs_loop rfl (fun E D H h => by
      refine Safe.loop' (W_super_Take.l5.L K) (fun E D H h => ?_) (fun k E D H h => ?_) E D H h
      · obtain ⟨w0, e0, g1⟩ := DG.out h; obtain ⟨A2, n2, m2, rfl, g2⟩ := DSl.out g1; obtain ⟨w2, e2, g3⟩ := DG.out g2; obtain ⟨pw2, rfl, g4⟩ := DP.out g3; obtain ⟨a1, rfl, g5⟩ := NN.out g4; obtain ⟨w4, e4, g6⟩ := DG.out g5; obtain ⟨pw4, rfl, g7⟩ := DP.out g6; obtain ⟨a2, rfl, g8⟩ := NN.out g7; obtain ⟨w13, e13, g9⟩ := DG.out g8; obtain ⟨x1, rfl, g10⟩ := DI.out g9; obtain ⟨rfl, h'⟩ := DNilD.out g10; exact h'
      · obtain ⟨w0, e0, g1⟩ := DG.out h
        obtain ⟨A2, n2, m2, rfl, g2⟩ := DSl.out g1
        obtain ⟨w2, e2, g3⟩ := DG.out g2
        obtain ⟨pw2, rfl, g4⟩ := DP.out g3
        obtain ⟨a1, rfl, g5⟩ := NN.out g4
        obtain ⟨w4, e4, g6⟩ := DG.out g5
        obtain ⟨pw4, rfl, g7⟩ := DP.out g6
        obtain ⟨a2, rfl, g8⟩ := NN.out g7
        obtain ⟨w13, e13, g9⟩ := DG.out g8
        obtain ⟨x1, rfl, g10⟩ := DI.out g9
        obtain ⟨rfl, h'⟩ := DNilD.out g10
        exact (hw_safe (Λ := (W_super_Take.Λ5 K (W_super_Take.l5 K k))) mixWsuper _ _ [(0, .slice A2 n2 m2), (2, .pointer (some a1)), (4, .pointer (some a2)), (13, .int .i64 x1)] [] H (Eq.mp (by kernel_rfl) h') (obs_seq obs_region rfl (obs_seq (obs_cond obs_skip obs_exit) rfl (obs_seq (obs_block (obs_seq obs_region rfl (obs_seq obs_region rfl obs_region))) rfl obs_region)))).weaken (EnvLe.cons e0 (EnvLe.cons e2 (EnvLe.cons e4 (EnvLe.cons e13 (EnvLe.nil _))))) (Hp.le_refl _))))) rfl (obs_seq obs_region rfl (obs_seq (obs_block (obs_seq obs_region rfl (obs_cond (obs_seq obs_region rfl obs_ret) (obs_seq obs_region rfl (obs_cond (obs_seq obs_region rfl obs_ret) (obs_seq obs_region rfl (obs_cond (obs_seq obs_region rfl obs_ret) obs_skip))))))) rfl (obs_seq obs_region rfl obs_ret))))))))

-- super.of
def W_super_of (p1 : Option Addr) (x1 : Int) (x2 : Int) (x3 : Int) (x4 : Int) (H : Hp) (K : Value → Hp → Prop) : Prop :=
  Nw H (.obj (.cells #[.int .i64 x1, .int .i64 x2, .int .i64 x3, .int .i64 x4] 277)) fun b1 H1 => Ld H1 ((⟨b1, 0, none⟩ : Addr).add 1) fun v1 => DI .i64 v1 fun x5 => NN p1 fun a1 => QCall Tryz.prog 53 #[.pointer (some (a1.add 0))] H1 fun v2 => DI .i64 v2 fun x6 => BIf (x5 == x6) (Ld H1 ((⟨b1, 0, none⟩ : Addr).add 2) fun v3 => DI .i64 v3 fun x7 => NN p1 fun a2 => QCall Tryz.prog 78 #[.pointer (some (a2.add 0))] H1 fun v4 => DI .i64 v4 fun x8 => K (.bool (x7 == x8)) H1) (K (.bool false) H1)
def W_super_of.Λ (_ : Value → Hp → Prop) : Cuts := Cuts.none (fun _ => none)
theorem W_super_of.ok (p1 : Option Addr) (x1 : Int) (x2 : Int) (x3 : Int) (x4 : Int) (H : Hp) (K : Value → Hp → Prop) (h : W_super_of p1 x1 x2 x3 x4 H K) : HCalls Tryz.prog 219 #[.pointer p1, .agg #[.int .i64 x1, .int .i64 x2, .int .i64 x3, .int .i64 x4]] H K :=
  hcalls Tryz.func219 rfl (Nat.le_of_ble_eq_true rfl) (hw_safe (Λ := Cuts.none (fun _ => none)) mixWsuper _ _ _ _ _ (Eq.mp (by kernel_rfl) h) (obs_none _ _ _ _ _))

-- super.Good
def W_super_Good (x1 : Int) (x2 : Int) (x3 : Int) (x4 : Int) (H : Hp) (K : Value → Hp → Prop) : Prop :=
  Nw H (.obj (.cells #[.int .i64 x1, .int .i64 x2, .int .i64 x3, .int .i64 x4] 277)) fun b1 H1 => Ld H1 ((⟨b1, 0, none⟩ : Addr).add 0) fun v1 => DI .i64 v1 fun x5 => Ld H1 ((⟨b1, 0, none⟩ : Addr).add 1) fun v2 => DI .i64 v2 fun x6 => Ld H1 ((⟨b1, 0, none⟩ : Addr).add 2) fun v3 => DI .i64 v3 fun x7 => HCalls Tryz.prog 52 #[.int .i64 x5, .int .i64 x6, .int .i64 x7] H1 fun v4 H2 => DTup v4 fun l1 => DCons l1 fun v5 l2 => DA v5 fun y1 => DCons l2 fun v6 l3 => DI .i64 v6 fun x8 => DNil l3 (Nw H2 (.obj (.cells #[.int .i64 (0 : Int), .int .i64 (0 : Int), .int .i64 (0 : Int), .int .i64 (0 : Int), .int .i64 (0 : Int), .int .i64 (0 : Int), .int .i64 (0 : Int), .int .i64 (0 : Int), .int .i64 (0 : Int), .int .i64 (0 : Int), .int .i64 (0 : Int), .int .i64 (0 : Int), .int .i64 (0 : Int), .int .i64 (0 : Int), .int .i64 (0 : Int), .int .i64 (0 : Int), .int .i64 (0 : Int)] 33)) fun b2 H3 => StA H3 (⟨b2, 0, none⟩ : Addr) y1 17 fun H4 => BIf (x8 == (0 : Int)) (Ld H4 ((⟨b1, 0, none⟩ : Addr).add 3) fun v7 => DI .i64 v7 fun x9 => BIf (decide (x9 ≥ (1 : Int))) (Ld H4 ((⟨b1, 0, none⟩ : Addr).add 3) fun v8 => DI .i64 v8 fun x10 => K (.bool (decide (x10 ≤ (16777216 : Int)))) H4) (K (.bool false) H4)) (K (.bool false) H4))
def W_super_Good.Λ (_ : Value → Hp → Prop) : Cuts := Cuts.none (fun _ => none)
theorem W_super_Good.ok (x1 : Int) (x2 : Int) (x3 : Int) (x4 : Int) (H : Hp) (K : Value → Hp → Prop) (h : W_super_Good x1 x2 x3 x4 H K) : HCalls Tryz.prog 220 #[.agg #[.int .i64 x1, .int .i64 x2, .int .i64 x3, .int .i64 x4]] H K :=
  hcalls Tryz.func220 rfl (Nat.le_of_ble_eq_true rfl) (hw_safe (Λ := Cuts.none (fun _ => none)) mixWsuper _ _ _ _ _ (Eq.mp (by kernel_rfl) h) (obs_none _ _ _ _ _))

-- super.sector
def W_super_sector (A1 : Option Addr) (n1 : Nat) (m1 : Nat) (H : Hp) (K : Value → Hp → Prop) : Prop :=
  HCalls Tryz.prog 50 #[.int .i64 (0 : Int), .int .i64 ((n1 : Nat) : Int)] H fun v1 H1 => DTup v1 fun l1 => DCons l1 fun v2 l2 => DI .i64 v2 fun x1 => DCons l2 fun v3 l3 => DI .i64 v3 fun x2 => DNil l3 (K (.bool (x2 == (0 : Int))) H1)
def W_super_sector.Λ (_ : Value → Hp → Prop) : Cuts := Cuts.none (fun _ => none)
theorem W_super_sector.ok (A1 : Option Addr) (n1 : Nat) (m1 : Nat) (H : Hp) (K : Value → Hp → Prop) (h : W_super_sector A1 n1 m1 H K) : HCalls Tryz.prog 246 #[.slice A1 n1 m1] H K :=
  hcalls Tryz.func246 rfl (Nat.le_of_ble_eq_true rfl) (hw_safe (Λ := Cuts.none (fun _ => none)) mixWsuper _ _ _ _ _ (Eq.mp (by kernel_rfl) h) (obs_none _ _ _ _ _))

-- super.behind
def W_super_behind.l2 (K : Value → Hp → Prop) : Nat → Option Addr → Nat → Nat → Int → Int → Hp → Prop
  | 0, _, _, _, _, _, _ => False
  | k + 1, A2, n4, m2, x1, x2, H =>
    let R2 := W_super_behind.l2 K k
    BIf (decide (x2 < x1)) (ixI x2 n4 (NN A2 fun a1 => Ld H (a1.add (x2.toNat * 1)) fun v1 => DI .u8 v1 fun x3 => BIf (x3 != (0 : Int)) (K (.bool false) H) (R2 A2 n4 m2 x1 (IntKind.i64.wrap (x2 + (1 : Int))) H))) (K (.bool true) H)
def W_super_behind (A1 : Option Addr) (n1 : Nat) (m1 : Nat) (H : Hp) (K : Value → Hp → Prop) : Prop :=
  slB n1 m1 (some (32 : Int)) none fun n2 n3 => (∃ k, W_super_behind.l2 K k (slA A1 m1 n2 1) (n3 - n2) (m1 - n2) ((n3 - n2 : Nat) : Int) (0 : Int) H)
def W_super_behind.l2.L (K : Value → Hp → Prop) (k : Nat) : Mid := fun E D H =>
  DG (E.get? 6) fun w6 => DSl w6 fun A2 n4 m2 => DG (E.get? 7) fun w7 => DI .i64 w7 fun x1 => DG (E.get? 8) fun w8 => DI .i64 w8 fun x2 => DNilD D (W_super_behind.l2 K k A2 n4 m2 x1 x2 H)
def W_super_behind.Λ2 (_ : Value → Hp → Prop) (_R2 : Option Addr → Nat → Nat → Int → Int → Hp → Prop) : Cuts := Cuts.none (fun _ => none)
def W_super_behind.Λ (K : Value → Hp → Prop) : Cuts := ⟨fun i => none, fun i => match Nat.beq i 2 with | true => some (fun E D H => ∃ k, W_super_behind.l2.L K k E D H) | false => none, (fun _ => none)⟩
theorem W_super_behind.ok (A1 : Option Addr) (n1 : Nat) (m1 : Nat) (H : Hp) (K : Value → Hp → Prop) (h : W_super_behind A1 n1 m1 H K) : HCalls Tryz.prog 247 #[.slice A1 n1 m1] H K :=
  hcalls Tryz.func247 rfl (Nat.le_of_ble_eq_true rfl) (hw_safe (Λ := (W_super_behind.Λ K)) mixWsuper _ _ _ _ _ (Eq.mp (by kernel_rfl) h) (obs_seq obs_region rfl (obs_seq (obs_seq obs_region rfl (obs_block (obs_loop rfl (fun E D H h => by
      refine Safe.loop' (W_super_behind.l2.L K) (fun E D H h => ?_) (fun k E D H h => ?_) E D H h
      · obtain ⟨w6, e6, g1⟩ := DG.out h; obtain ⟨A2, n4, m2, rfl, g2⟩ := DSl.out g1; obtain ⟨w7, e7, g3⟩ := DG.out g2; obtain ⟨x1, rfl, g4⟩ := DI.out g3; obtain ⟨w8, e8, g5⟩ := DG.out g4; obtain ⟨x2, rfl, g6⟩ := DI.out g5; obtain ⟨rfl, h'⟩ := DNilD.out g6; exact h'
      · obtain ⟨w6, e6, g1⟩ := DG.out h
        obtain ⟨A2, n4, m2, rfl, g2⟩ := DSl.out g1
        obtain ⟨w7, e7, g3⟩ := DG.out g2
        obtain ⟨x1, rfl, g4⟩ := DI.out g3
        obtain ⟨w8, e8, g5⟩ := DG.out g4
        obtain ⟨x2, rfl, g6⟩ := DI.out g5
        obtain ⟨rfl, h'⟩ := DNilD.out g6
        exact (hw_safe (Λ := (W_super_behind.Λ2 K (W_super_behind.l2 K k))) mixWsuper _ _ [(6, .slice A2 n4 m2), (7, .int .i64 x1), (8, .int .i64 x2)] [] H (Eq.mp (by kernel_rfl) h') (obs_seq obs_region rfl (obs_seq (obs_cond obs_skip obs_exit) rfl (obs_seq (obs_block (obs_seq obs_region rfl (obs_seq obs_region rfl (obs_cond (obs_seq obs_region rfl obs_ret) obs_skip)))) rfl obs_region)))).weaken (EnvLe.cons e6 (EnvLe.cons e7 (EnvLe.cons e8 (EnvLe.nil _)))) (Hp.le_refl _))))) rfl (obs_seq obs_region rfl obs_ret))))

-- super.first
def W_super_first (x1 : Int) (x2 : Int) (x3 : Int) (x4 : Int) (H : Hp) (K : Value → Hp → Prop) : Prop :=
  Nw H (.obj (.cells #[.int .i64 x1, .int .i64 x2, .int .i64 x3, .int .i64 x4] 277)) fun b1 H1 => Ld H1 ((⟨b1, 0, none⟩ : Addr).add 0) fun v1 => DI .i64 v1 fun x5 => (0 ≤ (16 : Int) ∧ Ld H1 ((⟨b1, 0, none⟩ : Addr).add 2) fun v2 => DI .i64 v2 fun x6 => QCall Tryz.prog 126 #[.int .u64 (IntKind.u64.wrap x6)] H1 fun v3 => DI .i64 v3 fun x7 => K (.int .u64 (bOr .u64 (bOr .u64 (4702392716946833408 : Int) (shlI .u64 (IntKind.u64.wrap x5) (16 : Int))) (IntKind.u64.wrap (IntKind.i64.wrap (x7 - (1 : Int)))))) H1)
def W_super_first.Λ (_ : Value → Hp → Prop) : Cuts := Cuts.none (fun _ => none)
theorem W_super_first.ok (x1 : Int) (x2 : Int) (x3 : Int) (x4 : Int) (H : Hp) (K : Value → Hp → Prop) (h : W_super_first x1 x2 x3 x4 H K) : HCalls Tryz.prog 248 #[.agg #[.int .i64 x1, .int .i64 x2, .int .i64 x3, .int .i64 x4]] H K :=
  hcalls Tryz.func248 rfl (Nat.le_of_ble_eq_true rfl) (hw_safe (Λ := Cuts.none (fun _ => none)) mixWsuper _ _ _ _ _ (Eq.mp (by kernel_rfl) h) (obs_none _ _ _ _ _))

end Go.Proofs.YtlgpappgnndgiaaGreatDoor.W

end
section
/-! Wabacistref18 -/
/- Formulas of functions, printed by wip/tools/hwp.py. -/
set_option maxRecDepth 100000
set_option linter.unusedVariables false
namespace Go.Proofs.YtlgpappgnndgiaaGreatDoor.W
open Go Go.Hw

theorem mixWabacistref18 : Tryz.prog.follows .mixedOrders = true := by kernel_rfl
-- abacistref18.Log
def W_abacistref18_Log.l3 (K : Value → Hp → Prop) : Nat → Int → Int → Int → Hp → Prop
  | 0, _, _, _, _ => False
  | k + 1, x2, x3, x4, H =>
    let R3 := W_abacistref18_Log.l3 K k
    BIf (decide (x4 ≤ (12 : Int))) (BIf (x2 == x3) (K (.int .i64 x4) H) (R3 x2 (IntKind.i64.wrap ((2 : Int) * x3)) (IntKind.i64.wrap (x4 + (1 : Int))) H)) (K (.int .i64 (-1 : Int)) H)
def W_abacistref18_Log (x1 : Int) (H : Hp) (K : Value → Hp → Prop) : Prop :=
  (∃ k, W_abacistref18_Log.l3 K k x1 (32 : Int) (5 : Int) H)
def W_abacistref18_Log.l3.L (K : Value → Hp → Prop) (k : Nat) : Mid := fun E D H =>
  DG (E.get? 0) fun w0 => DI .i64 w0 fun x2 => DG (E.get? 3) fun w3 => DI .i64 w3 fun x3 => DG (E.get? 4) fun w4 => DI .i64 w4 fun x4 => DNilD D (W_abacistref18_Log.l3 K k x2 x3 x4 H)
def W_abacistref18_Log.Λ3 (_ : Value → Hp → Prop) (_R3 : Int → Int → Int → Hp → Prop) : Cuts := Cuts.none (fun _ => none)
def W_abacistref18_Log.Λ (K : Value → Hp → Prop) : Cuts := ⟨fun i => none, fun i => match Nat.beq i 3 with | true => some (fun E D H => ∃ k, W_abacistref18_Log.l3.L K k E D H) | false => none, (fun _ => none)⟩
theorem W_abacistref18_Log.ok (x1 : Int) (H : Hp) (K : Value → Hp → Prop) (h : W_abacistref18_Log x1 H K) : HCalls Tryz.prog 131 #[.int .i64 x1] H K :=
  hcalls Tryz.func131 rfl (Nat.le_of_ble_eq_true rfl) (hw_safe (Λ := (W_abacistref18_Log.Λ K)) mixWabacistref18 _ _ _ _ _ (Eq.mp (by kernel_rfl) h) (obs_seq obs_region rfl (obs_seq obs_region rfl (obs_seq (obs_seq obs_region rfl (obs_block (obs_loop rfl (fun E D H h => by
      refine Safe.loop' (W_abacistref18_Log.l3.L K) (fun E D H h => ?_) (fun k E D H h => ?_) E D H h
      · obtain ⟨w0, e0, g1⟩ := DG.out h; obtain ⟨x2, rfl, g2⟩ := DI.out g1; obtain ⟨w3, e3, g3⟩ := DG.out g2; obtain ⟨x3, rfl, g4⟩ := DI.out g3; obtain ⟨w4, e4, g5⟩ := DG.out g4; obtain ⟨x4, rfl, g6⟩ := DI.out g5; obtain ⟨rfl, h'⟩ := DNilD.out g6; exact h'
      · obtain ⟨w0, e0, g1⟩ := DG.out h
        obtain ⟨x2, rfl, g2⟩ := DI.out g1
        obtain ⟨w3, e3, g3⟩ := DG.out g2
        obtain ⟨x3, rfl, g4⟩ := DI.out g3
        obtain ⟨w4, e4, g5⟩ := DG.out g4
        obtain ⟨x4, rfl, g6⟩ := DI.out g5
        obtain ⟨rfl, h'⟩ := DNilD.out g6
        exact (hw_safe (Λ := (W_abacistref18_Log.Λ3 K (W_abacistref18_Log.l3 K k))) mixWabacistref18 _ _ [(0, .int .i64 x2), (3, .int .i64 x3), (4, .int .i64 x4)] [] H (Eq.mp (by kernel_rfl) h') (obs_seq (obs_seq obs_region rfl (obs_cond obs_skip obs_exit)) rfl (obs_seq (obs_block (obs_seq (obs_seq obs_region rfl (obs_cond (obs_seq obs_region rfl obs_ret) obs_skip)) rfl obs_region)) rfl obs_region))).weaken (EnvLe.cons e0 (EnvLe.cons e3 (EnvLe.cons e4 (EnvLe.nil _)))) (Hp.le_refl _))))) rfl (obs_seq obs_region rfl obs_ret)))))

end Go.Proofs.YtlgpappgnndgiaaGreatDoor.W

end
section
/-! SupA -/
/- super, and the document's superblock: what their functions answer. -/
set_option maxRecDepth 100000
set_option linter.unusedSimpArgs false
set_option linter.unusedVariables false
set_option linter.unnecessarySimpa false
set_option linter.unusedSectionVars false
namespace Go.Proofs.YtlgpappgnndgiaaGreatDoor.Sup
open Go Go.Hw Go.Form Go.Proofs.YtlgpappgnndgiaaGreatDoor.W Go.Proofs.YtlgpappgnndgiaaGreatDoor.Lay

def supV (k sec s ar : Int) : Array Value := #[.int .i64 k, .int .i64 sec, .int .i64 s, .int .i64 ar]
def goodB (k sec s ar : Int) : Bool := decide (0 ≤ k ∧ k ≤ 32 ∧ 0 < perN s ∧ (needN k.toNat (perN s) : Int) ≤ sec ∧ 1 ≤ ar ∧ ar ≤ 16777216)

theorem layV_size (k p : Nat) : (layV k p).size = 17 := rfl
theorem OfV_size (k sec s : Int) : (OfV k sec s).1.size = 17 := by
  unfold OfV
  split
  · split <;> rfl
  · rfl
theorem OfV_one (k sec s : Int) : (OfV k sec s).1.toList.all (fun v => v.oneCell') = true := by
  unfold OfV
  split
  · split <;> rfl
  · rfl

theorem Good_ok (k sec s ar : Int) (H : Hp) : HCalls Tryz.prog 220 #[.agg (supV k sec s ar)] H (RetE (.bool (goodB k sec s ar)) H) := by
  apply HCalls.ret
  apply W_super_Good.ok
  unfold W_super_Good
  simp only [NN_some, Addr.add_lit', Addr.add_zero, Nat.zero_add, Nat.add_zero]
  refine (Sep.start H).nw fun b1 H hs => ?_
  first | refine hs.ld 1 rfl rfl ?_ | refine hs.ld 2 rfl rfl ?_ | refine hs.ld 3 rfl rfl ?_ | refine hs.ld 4 rfl rfl ?_ | refine hs.ld 5 rfl rfl ?_ | refine hs.ld 6 rfl rfl ?_ | refine hs.ld 7 rfl rfl ?_ | refine hs.ld 8 rfl rfl ?_
  try simp only [DI_int', DB_bool, DS_string, DP_pointer, DSl_slice, DM_map, DA_agg, DTup_tuple, DCons_cons, DNil_nil, NN_some, BIf_true, BIf_false, BIf_same, List.toList_toArray, Bool.not_true, Bool.not_false]
  first | refine hs.ld 1 rfl rfl ?_ | refine hs.ld 2 rfl rfl ?_ | refine hs.ld 3 rfl rfl ?_ | refine hs.ld 4 rfl rfl ?_ | refine hs.ld 5 rfl rfl ?_ | refine hs.ld 6 rfl rfl ?_ | refine hs.ld 7 rfl rfl ?_ | refine hs.ld 8 rfl rfl ?_
  try simp only [DI_int', DB_bool, DS_string, DP_pointer, DSl_slice, DM_map, DA_agg, DTup_tuple, DCons_cons, DNil_nil, NN_some, BIf_true, BIf_false, BIf_same, List.toList_toArray, Bool.not_true, Bool.not_false]
  first | refine hs.ld 1 rfl rfl ?_ | refine hs.ld 2 rfl rfl ?_ | refine hs.ld 3 rfl rfl ?_ | refine hs.ld 4 rfl rfl ?_ | refine hs.ld 5 rfl rfl ?_ | refine hs.ld 6 rfl rfl ?_ | refine hs.ld 7 rfl rfl ?_ | refine hs.ld 8 rfl rfl ?_
  try simp only [DI_int', DB_bool, DS_string, DP_pointer, DSl_slice, DM_map, DA_agg, DTup_tuple, DCons_cons, DNil_nil, NN_some, BIf_true, BIf_false, BIf_same, List.toList_toArray, Bool.not_true, Bool.not_false]
  refine HCalls.use (Of_ok k sec s H) ?_
  try simp only [DI_int', DB_bool, DS_string, DP_pointer, DSl_slice, DM_map, DA_agg, DTup_tuple, DCons_cons, DNil_nil, NN_some, BIf_true, BIf_false, BIf_same, List.toList_toArray, Bool.not_true, Bool.not_false]
  refine hs.nw fun b2 H hs => ?_
  refine hs.stw 2 rfl rfl (OfV_size _ _ _) (OfV_one _ _ _) fun H hs => ?_
  have hr := hs.fin 0 rfl (.bool (goodB k sec s ar))
  by_cases h : 0 ≤ k ∧ k ≤ 32 ∧ 0 < perN s ∧ (needN k.toNat (perN s) : Int) ≤ sec
  · have : (OfV k sec s).2 = 0 := by unfold OfV; rw [if_pos (by omega), if_neg (by omega)]
    rw [this]
    refine BIf_pos rfl ?_
    first | refine hs.ld 1 rfl rfl ?_ | refine hs.ld 2 rfl rfl ?_ | refine hs.ld 3 rfl rfl ?_ | refine hs.ld 4 rfl rfl ?_ | refine hs.ld 5 rfl rfl ?_ | refine hs.ld 6 rfl rfl ?_ | refine hs.ld 7 rfl rfl ?_ | refine hs.ld 8 rfl rfl ?_
    try simp only [DI_int', DB_bool, DS_string, DP_pointer, DSl_slice, DM_map, DA_agg, DTup_tuple, DCons_cons, DNil_nil, NN_some, BIf_true, BIf_false, BIf_same, List.toList_toArray, Bool.not_true, Bool.not_false]
    by_cases h2 : ar ≥ 1
    · refine BIf_dpos h2 ?_
      first | refine hs.ld 1 rfl rfl ?_ | refine hs.ld 2 rfl rfl ?_ | refine hs.ld 3 rfl rfl ?_ | refine hs.ld 4 rfl rfl ?_ | refine hs.ld 5 rfl rfl ?_ | refine hs.ld 6 rfl rfl ?_ | refine hs.ld 7 rfl rfl ?_ | refine hs.ld 8 rfl rfl ?_
      try simp only [DI_int', DB_bool, DS_string, DP_pointer, DSl_slice, DM_map, DA_agg, DTup_tuple, DCons_cons, DNil_nil, NN_some, BIf_true, BIf_false, BIf_same, List.toList_toArray, Bool.not_true, Bool.not_false]
      have : decide (ar ≤ 16777216) = goodB k sec s ar := by unfold goodB; simp only [decide_eq_decide]; omega
      rw [this]
      exact hr
    · refine BIf_dneg h2 ?_
      have : false = goodB k sec s ar := by unfold goodB; symm; simp only [decide_eq_false_iff_not]; omega
      rw [this]; exact hr
  · refine BIf_neg ?_ ?_
    · have : (OfV k sec s).2 = 1 ∨ (OfV k sec s).2 = 7 := by
        unfold OfV
        split
        · rw [if_pos (by omega)]; exact .inr rfl
        · exact .inl rfl
      rcases this with e | e <;> rw [e] <;> rfl
    · have : false = goodB k sec s ar := by unfold goodB; symm; simp only [decide_eq_false_iff_not]; omega
      rw [this]; exact hr

/-- The exponent of a sector's size. -/
def logN (s : Int) : Int := if s = 32 then 5 else if s = 64 then 6 else if s = 128 then 7 else if s = 256 then 8 else if s = 512 then 9 else if s = 1024 then 10 else if s = 2048 then 11 else if s = 4096 then 12 else -1

theorem log_loop (s : Int) (H : Hp) (K : Value → Hp → Prop) (hK : K (.int .i64 (logN s)) H) : W_abacistref18_Log.l3 K 9 s 32 5 H := by
  unfold logN at hK
  unfold W_abacistref18_Log.l3
  refine BIf_dpos (by decide) ?_
  split at hK
  · rename_i h
    subst h
    exact BIf_pos rfl hK
  rename_i h
  refine BIf_neg (beq_false_of_ne h) ?_
  unfold W_abacistref18_Log.l3
  refine BIf_dpos (by decide) ?_
  split at hK
  · rename_i h
    subst h
    exact BIf_pos rfl hK
  rename_i h
  refine BIf_neg (beq_false_of_ne h) ?_
  unfold W_abacistref18_Log.l3
  refine BIf_dpos (by decide) ?_
  split at hK
  · rename_i h
    subst h
    exact BIf_pos rfl hK
  rename_i h
  refine BIf_neg (beq_false_of_ne h) ?_
  unfold W_abacistref18_Log.l3
  refine BIf_dpos (by decide) ?_
  split at hK
  · rename_i h
    subst h
    exact BIf_pos rfl hK
  rename_i h
  refine BIf_neg (beq_false_of_ne h) ?_
  unfold W_abacistref18_Log.l3
  refine BIf_dpos (by decide) ?_
  split at hK
  · rename_i h
    subst h
    exact BIf_pos rfl hK
  rename_i h
  refine BIf_neg (beq_false_of_ne h) ?_
  unfold W_abacistref18_Log.l3
  refine BIf_dpos (by decide) ?_
  split at hK
  · rename_i h
    subst h
    exact BIf_pos rfl hK
  rename_i h
  refine BIf_neg (beq_false_of_ne h) ?_
  unfold W_abacistref18_Log.l3
  refine BIf_dpos (by decide) ?_
  split at hK
  · rename_i h
    subst h
    exact BIf_pos rfl hK
  rename_i h
  refine BIf_neg (beq_false_of_ne h) ?_
  unfold W_abacistref18_Log.l3
  refine BIf_dpos (by decide) ?_
  split at hK
  · rename_i h
    subst h
    exact BIf_pos rfl hK
  rename_i h
  refine BIf_neg (beq_false_of_ne h) ?_
  unfold W_abacistref18_Log.l3
  exact BIf_dneg (by decide) hK
theorem Log_ok (s : Int) (H : Hp) : HCalls Tryz.prog 131 #[.int .i64 s] H (RetE (.int .i64 (logN s)) H) := by
  apply W_abacistref18_Log.ok
  exact ⟨9, log_loop s H _ (RetE.mk _ _)⟩

theorem log_per (s : Int) : (0 < perN s ∧ s = 8 * perN s ∧ 5 ≤ logN s ∧ logN s ≤ 12 ∧ perN s = 2 ^ (logN s - 3).toNat) ∨ (perN s = 0 ∧ logN s = -1) := by
  unfold perN logN
  repeat' split
  all_goals first | (subst_vars; left; decide) | (right; exact ⟨rfl, rfl⟩)

end Go.Proofs.YtlgpappgnndgiaaGreatDoor.Sup

end
section
/-! RecG -/
/- The reference's Take. -/
set_option maxRecDepth 100000
set_option linter.unusedSimpArgs false
set_option linter.unusedVariables false
set_option linter.unnecessarySimpa false
set_option linter.unusedSectionVars false
namespace Go.Proofs.YtlgpappgnndgiaaGreatDoor.Rec
open Go Go.Hw Go.Form Go.Crc Go.Proofs.YtlgpappgnndgiaaGreatDoor.W Go.Proofs.YtlgpappgnndgiaaGreatDoor.FormP

theorem secB_per (s : Int) : secB s = true ↔ 0 < Lay.perN s := by
  unfold secB Lay.NeedV
  by_cases h : 0 < Lay.perN s
  · rw [if_pos ⟨by omega, by omega, h⟩]; simp [h]
  · rw [if_neg (fun g => h g.2.2)]; simp [h]
theorem secB_log (s : Int) : secB s = true ↔ 0 ≤ Sup.logN s := by
  rw [secB_per]
  rcases Sup.log_per s with ⟨h1, _, h3, _⟩ | ⟨h1, h2⟩
  · exact ⟨fun _ => by omega, fun _ => h1⟩
  · exact ⟨fun h => by omega, fun h => by omega⟩
theorem secB_32 {s : Int} (h : secB s = true) : 32 ≤ s ∧ s ≤ 4096 := by
  rw [secB_per] at h
  refine ⟨Int.not_lt.1 fun g => ?_, Int.not_lt.1 fun g => ?_⟩
  · rw [Lay.perN_small g] at h; omega
  · rw [Lay.perN_great g] at h; omega

theorem join2 {p q : Nat} (hp : p < 4294967296) (hq : q < 4294967296) : joinN 0 [(p, 32), (q, 0)] = p * 4294967296 + q := by
  show (0 ||| (p * 2 ^ 32 % 2 ^ 64)) ||| (q * 2 ^ 0 % 2 ^ 64) = _
  rw [Nat.zero_or, Nat.mod_eq_of_lt (by omega), Nat.pow_zero, Nat.mul_one, Nat.mod_eq_of_lt (by omega), Nat.mul_comm p, ← Nat.two_pow_add_eq_or_of_lt (i := 32) hq p]
theorem seal_sum (l : List UInt64) : joinN 0 (sealP l) = (4294967295 - (sum (form l)).toNat) * 4294967296 + (sum (form l)).toNat := by
  have := (sum (form l)).isLt
  exact join2 (by omega) (by omega)

theorem rtake_loop {H0 H : Hp} {b1 : Nat} (bs : List UInt8) (hbig : bs.length ≤ 1000000) (h32 : 32 ≤ bs.length) (hsec : secB (bs.length : Int) = true) (hs : Sep [own H0, pts b1 (recO zeroR)] H) :
    ∀ (t i : Nat), i + t = bs.length → 32 ≤ i → (∀ j x, 32 ≤ j → j < i → bs[j]? = some x → x = 0) → W_abacistref20_Take.l4 (Ret (.tuple #[.agg (takeV bs).1.c, .int .i64 (takeV bs).2]) H0) (t + 1) ⟨bs.toArray⟩ ⟨b1, 0, none⟩ (i : Int) H
  | 0, i, hi, h3, hz => by
    have hno : nought bs = true := decide_eq_true fun x hx => by
      obtain ⟨k, hk, rfl⟩ := List.getElem_of_mem hx
      rw [List.getElem_drop]
      exact hz (32 + k) _ (by omega) (by rw [List.length_drop] at hk; omega) (List.getElem?_eq_getElem (by rw [List.length_drop] at hk; omega))
    unfold W_abacistref20_Take.l4
    refine BIf_dneg (by show ¬ ((i : Int) < ((bs.toArray.size : Nat) : Int)); simp; omega) ?_
    unfold takeV
    rw [if_pos hsec]
    refine HCalls.use (rWord_ok bs 0 (by omega) (by omega) H) ?_
    simp only [DI_int', DB_bool, DS_string, DP_pointer, DSl_slice, DM_map, DA_agg, DTup_tuple, DCons_cons, DNil_nil, NN_some, BIf_true, BIf_false, BIf_same, List.toList_toArray, Bool.not_true, Bool.not_false]
    refine HCalls.use (rWord_ok bs 8 (by omega) (by omega) H) ?_
    simp only [DI_int', DB_bool, DS_string, DP_pointer, DSl_slice, DM_map, DA_agg, DTup_tuple, DCons_cons, DNil_nil, NN_some, BIf_true, BIf_false, BIf_same, List.toList_toArray, Bool.not_true, Bool.not_false]
    refine HCalls.use (rWord_ok bs 16 (by omega) (by omega) H) ?_
    simp only [DI_int', DB_bool, DS_string, DP_pointer, DSl_slice, DM_map, DA_agg, DTup_tuple, DCons_cons, DNil_nil, NN_some, BIf_true, BIf_false, BIf_same, List.toList_toArray, Bool.not_true, Bool.not_false]
    have l0 := wordN_lt bs 0
    have l8 := wordN_lt bs 8
    have l16 := wordN_lt bs 16
    have l24 := wordN_lt bs 24
    refine ⟨by decide, by simp, ?_⟩
    rw [show Int.tdiv ((wordN bs 0 : Nat) : Int) 281474976710656 = ((wordN bs 0 / 281474976710656 : Nat) : Int) from rfl, u64n (n := wordN bs 0 / 281474976710656) (by omega)]
    by_cases hmg : wordN bs 0 / 281474976710656 = 21061
    case neg =>
      rw [if_neg (fun h => hmg h.1)]
      refine BIf_bnep (by omega) ?_
      refine hs.stw 1 rfl rfl rfl rfl fun H1 hs => ?_
      refine hs.ldw 1 rfl rfl ?_
      exact hs.fin 0 rfl _
    refine BIf_bnen (by omega) ?_
    rw [if_pos ⟨hmg, hno⟩]
    refine hs.nw fun b2 H1 hs => ?_
    have hU : Cells H1 (some ⟨b2, 0, none⟩) (wordVals (w3U bs)) := by
      have := Cells.row (hs.get 2 rfl) 0 3
      have e : wordVals (w3U bs) = [Value.int .u64 ((wordN bs 0 : Nat) : Int), Value.int .u64 ((wordN bs 8 : Nat) : Int), Value.int .u64 ((wordN bs 16 : Nat) : Int)] := by
        show [Value.int .u64 ((UInt64.ofNat (wordN bs 0)).toNat : Int), Value.int .u64 ((UInt64.ofNat (wordN bs 8)).toNat : Int), Value.int .u64 ((UInt64.ofNat (wordN bs 16)).toNat : Int)] = _
        rw [UInt64.toNat_ofNat_of_lt' l0, UInt64.toNat_ofNat_of_lt' l8, UInt64.toNat_ofNat_of_lt' l16]
      rw [e]; exact this
    refine HCalls.use (CrcP.rOfWords_ok (some ⟨b2, 0, none⟩) 3 3 (w3U bs) rfl (by omega) H1 hU) ?_
    simp only [DI_int', DB_bool, DS_string, DP_pointer, DSl_slice, DM_map, DA_agg, DTup_tuple, DCons_cons, DNil_nil, NN_some, BIf_true, BIf_false, BIf_same, List.toList_toArray, Bool.not_true, Bool.not_false]
    refine HCalls.use (rWord_ok bs 24 (by omega) (by omega) H1) ?_
    simp only [DI_int', DB_bool, DS_string, DP_pointer, DSl_slice, DM_map, DA_agg, DTup_tuple, DCons_cons, DNil_nil, NN_some, BIf_true, BIf_false, BIf_same, List.toList_toArray, Bool.not_true, Bool.not_false]
    have hsm := (sum (form (w3U bs))).isLt
    have hss := seal_sum (w3U bs)
    generalize joinN 0 (sealP (w3U bs)) = sv at *
    generalize (sum (form (w3U bs))).toNat = sm at *
    rw [u64n (n := sm) (by omega), u64w (x := 4294967295 - (sm : Int)) (by omega) (by omega), u64w (x := (4294967295 - (sm : Int)) * 4294967296) (by omega) (by omega), u64w (x := (4294967295 - (sm : Int)) * 4294967296 + (sm : Int)) (by omega) (by omega)]
    by_cases hsl : wordN bs 24 = sv
    case neg =>
      rw [if_neg hsl]
      refine BIf_bnep (by omega) ?_
      refine hs.stw 1 rfl rfl rfl rfl fun H1 hs => ?_
      refine hs.ldw 1 rfl rfl ?_
      exact hs.fin 0 rfl _
    rw [if_pos hsl]
    refine BIf_bnen (by omega) ?_
    refine ⟨by decide, by simp, by decide, by simp, by decide, by simp, by decide, by simp, by decide, by simp, by decide, by simp, by decide, by simp, by decide, by simp, by decide, by simp, by decide, by simp, by decide, by simp, ?_⟩
    refine hs.nw fun b3 H1 hs => ?_
    rw [show Int.tmod ((wordN bs 0 : Nat) : Int) 281474976710656 = ((wordN bs 0 % 281474976710656 : Nat) : Int) from rfl,
      show Int.tmod ((wordN bs 8 : Nat) : Int) 256 = ((wordN bs 8 % 256 : Nat) : Int) from rfl,
      show Int.tdiv ((wordN bs 8 : Nat) : Int) 65536 = ((wordN bs 8 / 65536 : Nat) : Int) from rfl, u64n (n := wordN bs 8 / 65536) (by omega),
      show Int.tdiv ((wordN bs 8 : Nat) : Int) 256 = ((wordN bs 8 / 256 : Nat) : Int) from rfl, u64n (n := wordN bs 8 / 256) (by omega),
      show Int.tdiv ((wordN bs 8 : Nat) : Int) 16777216 = ((wordN bs 8 / 16777216 : Nat) : Int) from rfl, u64n (n := wordN bs 8 / 16777216) (by omega),
      show Int.tdiv ((wordN bs 8 : Nat) : Int) 4294967296 = ((wordN bs 8 / 4294967296 : Nat) : Int) from rfl, u64n (n := wordN bs 8 / 4294967296) (by omega),
      show Int.tdiv ((wordN bs 16 : Nat) : Int) 4294967296 = ((wordN bs 16 / 4294967296 : Nat) : Int) from rfl, u64n (n := wordN bs 16 / 4294967296) (by omega),
      show Int.tmod ((wordN bs 8 / 65536 : Nat) : Int) 256 = ((wordN bs 8 / 65536 % 256 : Nat) : Int) from rfl,
      show Int.tmod ((wordN bs 8 / 256 : Nat) : Int) 256 = ((wordN bs 8 / 256 % 256 : Nat) : Int) from rfl,
      show Int.tmod ((wordN bs 8 / 16777216 : Nat) : Int) 256 = ((wordN bs 8 / 16777216 % 256 : Nat) : Int) from rfl,
      show Int.tmod ((wordN bs 16 : Nat) : Int) 4294967296 = ((wordN bs 16 % 4294967296 : Nat) : Int) from rfl,
      i64n (n := wordN bs 8 % 256) (by omega), i64n (n := wordN bs 8 / 65536 % 256) (by omega), i64n (n := wordN bs 8 / 256 % 256) (by omega), i64n (n := wordN bs 8 / 16777216 % 256) (by omega),
      u32n (n := wordN bs 8 / 4294967296) (by omega), u32n (n := wordN bs 16 / 4294967296) (by omega), u32n (n := wordN bs 16 % 4294967296) (by omega)]
    refine hs.stw 3 rfl rfl rfl rfl fun H1 hs => ?_
    refine hs.ldw 3 rfl rfl ?_
    refine HCalls.use (rGood_ok (recOf (wordN bs 0) (wordN bs 8) (wordN bs 16)) H1) ?_
    simp only [DI_int', DB_bool, DS_string, DP_pointer, DSl_slice, DM_map, DA_agg, DTup_tuple, DCons_cons, DNil_nil, NN_some, BIf_true, BIf_false, BIf_same, List.toList_toArray, Bool.not_true, Bool.not_false]
    by_cases hg : (recOf (wordN bs 0) (wordN bs 8) (wordN bs 16)).good
    · rw [if_pos hg, decide_eq_true hg]
      refine BIf_neg rfl ?_
      refine hs.ldw 3 rfl rfl ?_
      refine hs.stw 1 rfl rfl rfl rfl fun H1 hs => ?_
      refine hs.ldw 1 rfl rfl ?_
      exact hs.fin 0 rfl _
    · rw [if_neg hg, decide_eq_false hg]
      refine BIf_pos rfl ?_
      refine hs.stw 1 rfl rfl rfl rfl fun H1 hs => ?_
      refine hs.ldw 1 rfl rfl ?_
      exact hs.fin 0 rfl _
  | t + 1, i, hi, h3, hz => by
    have hlt : i < bs.length := by omega
    unfold W_abacistref20_Take.l4
    refine BIf_dpos (by show (i : Int) < ((bs.toArray.size : Nat) : Int); simp; omega) ⟨by omega, ixB_of (by rw [Int.toNat_natCast]; show i < bs.toArray.size; simp; omega) ?_⟩
    have hb : ∀ y : UInt8, y = bs[i] → BIf (((y.toNat : Nat) : Int) != 0) (StA H (⟨b1, 0, none⟩ : Addr) #[.int .u64 0, .int .i64 0, .int .i64 0, .int .i64 0, .int .i64 0, .int .u32 0, .int .u32 0, .int .u32 0] 8 fun H4 => LdA H4 (⟨b1, 0, none⟩ : Addr) 8 fun l4 => Ret (.tuple #[.agg (takeV bs).1.c, .int .i64 (takeV bs).2]) H0 (.tuple #[.agg l4.toArray, .int .i64 10]) H4) (W_abacistref20_Take.l4 (Ret (.tuple #[.agg (takeV bs).1.c, .int .i64 (takeV bs).2]) H0) (t + 1) ⟨bs.toArray⟩ ⟨b1, 0, none⟩ (IntKind.i64.wrap ((i : Int) + 1)) H) := fun y hy => by
      by_cases h0 : (y.toNat : Int) = 0
      · refine BIf_bnen h0 ?_
        rw [i64w (x := (i : Int) + 1) (by omega) (by omega), show (i : Int) + 1 = ((i + 1 : Nat) : Int) by omega]
        refine rtake_loop bs hbig h32 hsec hs t (i + 1) (by omega) (by omega) fun j x h1 h2 hx => ?_
        by_cases e : j = i
        · subst e
          rw [List.getElem?_eq_getElem hlt] at hx
          have : x = y := by rw [hy]; exact (Option.some.inj hx).symm
          rw [this]
          exact UInt8.toNat_inj.1 (by simpa using h0)
        · exact hz j x h1 (by omega) hx
      · refine BIf_bnep h0 ?_
        have hno : ¬ nought bs = true := fun h => h0 (by
          have := (of_decide_eq_true h) bs[i] (by
            have : (bs.drop 32)[i - 32]? = some bs[i] := by rw [List.getElem?_drop, show 32 + (i - 32) = i by omega, List.getElem?_eq_getElem hlt]
            exact List.mem_of_getElem? this)
          rw [hy, this]; rfl)
        refine hs.stw 1 rfl rfl rfl rfl fun H1 hs => ?_
        refine hs.ldw 1 rfl rfl ?_
        unfold takeV
        rw [if_pos hsec, if_neg (fun h => hno h.2)]
        exact hs.fin 0 rfl _
    exact hb _ (by rfl)

theorem rTake_ok (bs : List UInt8) (hbig : bs.length ≤ 1000000) (H : Hp) : HCalls Tryz.prog 80 #[.string ⟨bs.toArray⟩] H (RetE (.tuple #[.agg (takeV bs).1.c, .int .i64 (takeV bs).2]) H) := HCalls.ret (by
  apply W_abacistref20_Take.ok
  unfold W_abacistref20_Take
  refine (Sep.start H).nw fun b1 H1 hs => ?_
  have hs : Sep [own H, pts b1 (recO zeroR)] H1 := hs
  rw [show ((⟨bs.toArray⟩ : ByteArray).size : Int) = (bs.length : Int) by show ((bs.toArray.size : Nat) : Int) = _; simp]
  refine HCalls.use (Sup.Log_ok (bs.length : Int) H1) ?_
  simp only [DI_int', DB_bool, DS_string, DP_pointer, DSl_slice, DM_map, DA_agg, DTup_tuple, DCons_cons, DNil_nil, NN_some, BIf_true, BIf_false, BIf_same, List.toList_toArray, Bool.not_true, Bool.not_false]
  by_cases hsec : secB (bs.length : Int) = true
  · have h32 := secB_32 hsec
    have hl := (secB_log _).1 hsec
    refine BIf_dneg (by omega) ⟨bs.length - 32 + 1, ?_⟩
    exact rtake_loop bs hbig (by omega) hsec hs (bs.length - 32) 32 (by omega) (Nat.le_refl _) (fun j x h1 h2 => by omega)
  · have hl : ¬ 0 ≤ Sup.logN (bs.length : Int) := fun h => hsec ((secB_log _).2 h)
    refine BIf_dpos (by omega) ?_
    refine hs.stw 1 rfl rfl rfl rfl fun H1 hs => ?_
    refine hs.ldw 1 rfl rfl ?_
    unfold takeV
    rw [if_neg hsec]
    exact hs.fin 0 rfl _)

end Go.Proofs.YtlgpappgnndgiaaGreatDoor.Rec

end
section
/-! RecH -/
/- The reference's words of a record. -/
set_option maxRecDepth 100000
set_option linter.unusedSimpArgs false
set_option linter.unusedVariables false
set_option linter.unnecessarySimpa false
set_option linter.unusedSectionVars false
namespace Go.Proofs.YtlgpappgnndgiaaGreatDoor.Rec
open Go Go.Hw Go.Form Go.Crc Go.Proofs.YtlgpappgnndgiaaGreatDoor.W Go.Proofs.YtlgpappgnndgiaaGreatDoor.FormP

theorem or_add {w q : Nat} (k : Nat) (hw : 2 ^ k ∣ w) (hq : q < 2 ^ k) : w ||| q = w + q := by
  obtain ⟨t, rfl⟩ := hw
  exact (Nat.two_pow_add_eq_or_of_lt hq t).symm

theorem p1_sum (r : R) (hg : r.good) : joinN 0 r.p1 = 5928144484503126016 + r.s := by
  obtain ⟨g1, g2, _⟩ := hg
  show (0 ||| (21061 * 2 ^ 48 % 2 ^ 64)) ||| (r.s * 2 ^ 0 % 2 ^ 64) = _
  rw [Nat.zero_or, Nat.pow_zero, Nat.mul_one, Nat.mod_eq_of_lt (show r.s < 2 ^ 64 by omega), or_add 48 ⟨21061, by decide⟩ (by omega)]
theorem p3_sum (r : R) (hu : r.u32) : joinN 0 r.p3 = r.inp * 4294967296 + r.out := join2 hu.inp hu.out
theorem p2_sum (r : R) (hg : r.good) (hu : r.u32) : joinN 0 r.p2 = r.ld * 4294967296 + r.ps.toNat * 16777216 + r.kk.toNat * 65536 + r.dir.toNat * 256 + r.kd.toNat := by
  obtain ⟨g1, g2, g3, g4, g5, g6⟩ := hg
  have hu := hu.ld
  have h1 : r.ps.toNat < 256 := by omega
  have h2 : r.kk.toNat < 256 := by omega
  have h3 : r.dir.toNat < 256 := by omega
  have h4 : r.kd.toNat < 256 := by omega
  show ((((0 ||| (r.ld * 2 ^ 32 % 2 ^ 64)) ||| (r.ps.toNat * 2 ^ 24 % 2 ^ 64)) ||| (r.kk.toNat * 2 ^ 16 % 2 ^ 64)) ||| (r.dir.toNat * 2 ^ 8 % 2 ^ 64)) ||| (r.kd.toNat * 2 ^ 0 % 2 ^ 64) = _
  generalize r.ps.toNat = a at *
  generalize r.kk.toNat = b at *
  generalize r.dir.toNat = c at *
  generalize r.kd.toNat = d at *
  generalize r.ld = l at *
  rw [Nat.zero_or, Nat.mod_eq_of_lt (show l * 2 ^ 32 < 2 ^ 64 by omega), Nat.mod_eq_of_lt (show a * 2 ^ 24 < 2 ^ 64 by omega), Nat.mod_eq_of_lt (show b * 2 ^ 16 < 2 ^ 64 by omega), Nat.mod_eq_of_lt (show c * 2 ^ 8 < 2 ^ 64 by omega), Nat.pow_zero, Nat.mul_one, Nat.mod_eq_of_lt (show d < 2 ^ 64 by omega)]
  rw [or_add 32 ⟨l, Nat.mul_comm _ _⟩ (show a * 2 ^ 24 < 2 ^ 32 by omega), or_add 24 ⟨l * 256 + a, by omega⟩ (show b * 2 ^ 16 < 2 ^ 24 by omega), or_add 16 ⟨(l * 256 + a) * 256 + b, by omega⟩ (show c * 2 ^ 8 < 2 ^ 16 by omega), or_add 8 ⟨((l * 256 + a) * 256 + b) * 256 + c, by omega⟩ (show d < 2 ^ 8 by omega)]

theorem w4_vals (r : R) : wordVals r.w4 = [.int .u64 ((joinN 0 r.p1 : Nat) : Int), .int .u64 ((joinN 0 r.p2 : Nat) : Int), .int .u64 ((joinN 0 r.p3 : Nat) : Int), .int .u64 ((joinN 0 (sealP r.w3) : Nat) : Int)] := by
  show [Value.int .u64 ((UInt64.ofNat (joinN 0 r.p1)).toNat : Int), Value.int .u64 ((UInt64.ofNat (joinN 0 r.p2)).toNat : Int), Value.int .u64 ((UInt64.ofNat (joinN 0 r.p3)).toNat : Int), Value.int .u64 ((UInt64.ofNat (joinN 0 (sealP r.w3))).toNat : Int)] = _
  rw [UInt64.toNat_ofNat_of_lt' (joinN_lt r.p1 0 (by decide)), UInt64.toNat_ofNat_of_lt' (joinN_lt r.p2 0 (by decide)), UInt64.toNat_ofNat_of_lt' (joinN_lt r.p3 0 (by decide)), UInt64.toNat_ofNat_of_lt' (joinN_lt (sealP r.w3) 0 (by decide))]
theorem w3_vals (r : R) : wordVals r.w3 = [.int .u64 ((joinN 0 r.p1 : Nat) : Int), .int .u64 ((joinN 0 r.p2 : Nat) : Int), .int .u64 ((joinN 0 r.p3 : Nat) : Int)] := by
  show [Value.int .u64 ((UInt64.ofNat (joinN 0 r.p1)).toNat : Int), Value.int .u64 ((UInt64.ofNat (joinN 0 r.p2)).toNat : Int), Value.int .u64 ((UInt64.ofNat (joinN 0 r.p3)).toNat : Int)] = _
  rw [UInt64.toNat_ofNat_of_lt' (joinN_lt r.p1 0 (by decide)), UInt64.toNat_ofNat_of_lt' (joinN_lt r.p2 0 (by decide)), UInt64.toNat_ofNat_of_lt' (joinN_lt r.p3 0 (by decide))]

theorem ba_snoc (bs : List UInt8) : (⟨bs.toArray⟩ : ByteArray) ++ (⟨#[0]⟩ : ByteArray) = ⟨(bs ++ [0]).toArray⟩ := ByteArray.ext (by rw [ByteArray.data_append]; simp)

end Go.Proofs.YtlgpappgnndgiaaGreatDoor.Rec

end
section
/-! RecI -/
/- record: records compared. -/
set_option maxRecDepth 100000
set_option linter.unusedSimpArgs false
set_option linter.unusedVariables false
set_option linter.unnecessarySimpa false
set_option linter.unusedSectionVars false
namespace Go.Proofs.YtlgpappgnndgiaaGreatDoor.Rec
open Go Go.Hw Go.Form Go.Crc Go.Proofs.YtlgpappgnndgiaaGreatDoor.W Go.Proofs.YtlgpappgnndgiaaGreatDoor.FormP

def recL (r : R) : List Lit := [.int .u64 (r.s : Int), .int .i64 r.kd, .int .i64 r.kk, .int .i64 r.dir, .int .i64 r.ps, .int .u32 (r.ld : Int), .int .u32 (r.inp : Int), .int .u32 (r.out : Int)]
structure R.wf (r : R) : Prop where
  s : r.s < 2 ^ 64
  kd : -9223372036854775808 ≤ r.kd ∧ r.kd ≤ 9223372036854775807
  kk : -9223372036854775808 ≤ r.kk ∧ r.kk ≤ 9223372036854775807
  dir : -9223372036854775808 ≤ r.dir ∧ r.dir ≤ 9223372036854775807
  ps : -9223372036854775808 ≤ r.ps ∧ r.ps ≤ 9223372036854775807
  u : r.u32
theorem recL_inj {a b : R} : recL a = recL b ↔ a = b := by
  constructor
  · intro h
    unfold recL at h
    simp only [List.cons.injEq, Lit.int.injEq, true_and, and_true] at h
    obtain ⟨h1, h2, h3, h4, h5, h6, h7, h8⟩ := h
    cases a; cases b
    simp only at *
    congr 1 <;> omega
  · rintro rfl; rfl
theorem recL_ok {r : R} (h : r.wf) : okAll [.int .u64, .int .i64, .int .i64, .int .i64, .int .i64, .int .u32, .int .u32, .int .u32] (recL r) = true := by
  obtain ⟨h1, h2, h3, h4, h5, u1, u2, u3⟩ := h
  unfold recL
  simp only [okAll, litOk, decide_true, Bool.true_and, Bool.and_eq_true]
  simp [Lit.wf, IntKind.min, IntKind.max, IntKind.bits, IntKind.signed]
  omega

theorem rec_eql {a b : R} (wa : a.wf) (wb : b.wf) {K : Bool → Prop} (c : Bool) (hc : c = true ↔ a = b) (k : K c) : EqV Tryz.prog .eql 91 (.agg a.c) (.agg b.c) K :=
  EqV_eql (d := 9) (m := 9) (by kernel_rfl) (by kernel_rfl) (by kernel_rfl) (by omega) (by kernel_rfl) (recL_ok wa) (recL_ok wb) rfl rfl c (hc.trans recL_inj.symm) k
theorem rec_neq {a b : R} (wa : a.wf) (wb : b.wf) {K : Bool → Prop} (c : Bool) (hc : c = true ↔ a = b) (k : K (!c)) : EqV Tryz.prog .neq 91 (.agg a.c) (.agg b.c) K :=
  EqV_neq (d := 9) (m := 9) (by kernel_rfl) (by kernel_rfl) (by kernel_rfl) (by omega) (by kernel_rfl) (recL_ok wa) (recL_ok wb) rfl rfl c (hc.trans recL_inj.symm) k
theorem recOf_wf {a b c : Nat} (hb : b < 2 ^ 64) (hc : c < 2 ^ 64) : (recOf a b c).wf := by
  unfold recOf
  exact ⟨by simp only []; omega, by simp only []; omega, by simp only []; omega, by simp only []; omega, by simp only []; omega, ⟨by simp only []; omega, by simp only []; omega, by simp only []; omega⟩⟩
theorem takeV_wf (bs : List UInt8) : (takeV bs).1.wf := by
  have hz : zeroR.wf := ⟨by decide, by decide, by decide, by decide, by decide, ⟨by decide, by decide, by decide⟩⟩
  unfold takeV
  split
  · split
    · split
      · split
        · exact recOf_wf (wordN_lt _ _) (wordN_lt _ _)
        · exact hz
      · exact hz
    · exact hz
  · exact hz

end Go.Proofs.YtlgpappgnndgiaaGreatDoor.Rec

end
section
/-! RecJ -/
/- record: the form's record. -/
set_option maxRecDepth 100000
set_option linter.unusedSimpArgs false
set_option linter.unusedVariables false
set_option linter.unnecessarySimpa false
set_option linter.unusedSectionVars false
namespace Go.Proofs.YtlgpappgnndgiaaGreatDoor.Rec
open Go Go.Hw Go.Form Go.Crc Go.Proofs.YtlgpappgnndgiaaGreatDoor.W Go.Proofs.YtlgpappgnndgiaaGreatDoor.FormP

/-- A record's whole form. -/
def R.form (r : R) (size : Nat) : List UInt8 := Form.form r.w4 ++ List.replicate (size - 32) 0
theorem form_w4 (r : R) : (Form.form r.w4).length = 32 := by rw [form_length]; rfl
theorem rform_len (r : R) {size : Nat} (h : 32 ≤ size) : (r.form size).length = size := by
  unfold R.form
  rw [List.length_append, form_w4, List.length_replicate]; omega
theorem rform_nought (r : R) (size : Nat) : nought (r.form size) = true := by
  unfold nought R.form
  refine decide_eq_true fun x hx => ?_
  rw [List.drop_append, form_w4, Nat.sub_self, List.drop_eq_nil_of_le (by rw [form_w4]; exact Nat.le_refl _), List.nil_append, List.drop_zero] at hx
  exact (List.mem_replicate.1 hx).2
theorem wordN_app (a b : List UInt8) (o : Nat) (h : o + 8 ≤ a.length) : wordN (a ++ b) o = wordN a o := by
  unfold wordN
  rw [List.drop_append, List.take_append, List.length_drop, show 8 - (a.length - o) = 0 by omega, List.take_zero, List.append_nil]

theorem recOf_r (r : R) (hg : r.good) (hu : r.u32) : recOf (joinN 0 r.p1) (joinN 0 r.p2) (joinN 0 r.p3) = r := by
  rw [p1_sum r hg, p2_sum r hg hu, p3_sum r hu]
  obtain ⟨g1, g2, g3, g4, g5, g6⟩ := hg
  obtain ⟨u1, u2, u3⟩ := hu
  obtain ⟨s, kd, kk, dir, ps, ld, inp, out⟩ := r
  simp only at *
  unfold recOf
  congr 1 <;> omega

theorem rform_words (r : R) (size : Nat) : wordN (r.form size) 0 = joinN 0 r.p1 ∧ wordN (r.form size) 8 = joinN 0 r.p2 ∧ wordN (r.form size) 16 = joinN 0 r.p3 ∧ wordN (r.form size) 24 = joinN 0 (sealP r.w3) := by
  have h4 : r.w4.length = 4 := rfl
  have w0 := wordN_form (l := r.w4) (i := 0) (by omega) (List.replicate (size - 32) 0)
  have w1 := wordN_form (l := r.w4) (i := 1) (by omega) (List.replicate (size - 32) 0)
  have w2 := wordN_form (l := r.w4) (i := 2) (by omega) (List.replicate (size - 32) 0)
  have w3 := wordN_form (l := r.w4) (i := 3) (by omega) (List.replicate (size - 32) 0)
  refine ⟨w0.trans ?_, w1.trans ?_, w2.trans ?_, w3.trans ?_⟩
  · exact UInt64.toNat_ofNat_of_lt' (joinN_lt r.p1 0 (by decide))
  · exact UInt64.toNat_ofNat_of_lt' (joinN_lt r.p2 0 (by decide))
  · exact UInt64.toNat_ofNat_of_lt' (joinN_lt r.p3 0 (by decide))
  · exact UInt64.toNat_ofNat_of_lt' (joinN_lt (sealP r.w3) 0 (by decide))

theorem takeV_form (r : R) (hg : r.good) (hu : r.u32) {size : Nat} (h32 : 32 ≤ size) (hs : secB (size : Int) = true) : takeV (r.form size) = (r, 0) := by
  obtain ⟨w0, w1, w2, w3⟩ := rform_words r size
  have hU : w3U (r.form size) = r.w3 := by
    unfold w3U
    rw [w0, w1, w2]; rfl
  have hr := recOf_r r hg hu
  have hm : joinN 0 r.p1 / 281474976710656 = 21061 := by
    have := p1_sum r hg
    have := hg.1
    have := hg.2.1
    omega
  unfold takeV
  rw [rform_len r h32, if_pos hs, hU, w0, w1, w2, w3, hr, if_pos ⟨hm, rform_nought r size⟩, if_pos rfl, if_pos hg]

end Go.Proofs.YtlgpappgnndgiaaGreatDoor.Rec

end
section
/-! HwM -/
/- The frame of the proofs: maps from pointers to whole blocks, with int values. -/
set_option maxRecDepth 100000
set_option linter.unusedSimpArgs false
set_option linter.unusedVariables false
set_option linter.unnecessarySimpa false
set_option linter.unusedSectionVars false
namespace Go.Hw
open Go

def ptrV (b : Nat) : Value := .pointer (some ⟨b, 0, none⟩)
def ent (x : Nat × Int × Nat) : MapEntry := { key := ptrV x.1, val := .int .i64 x.2.1, born := x.2.2 }
def mapO (l : List (Nat × Int × Nat)) (clock : Nat) : AO := .obj (.map (l.map ent).toArray clock)
def PlainB (H : Hp) (b : Nat) : Prop := ∃ c e, H b = some (.obj (.cells c e))

theorem PlainB.le {H H' : Hp} {b : Nat} (h : PlainB H b) (k : H.le H') : PlainB H' b := by
  obtain ⟨c, e, h⟩ := h; exact ⟨c, e, k _ _ h⟩

theorem PlainB.heap {H : Hp} {w : World} {b : Nat} (h : PlainB H b) (hw : Fits H w) : ∃ c e, w.heap[b]? = some (.cells c e (0, 0)) := by
  obtain ⟨c, e, h⟩ := h
  obtain ⟨o, ho, hh⟩ := hw _ _ h
  cases hh
  exact ⟨c, e, ho⟩

theorem mapO.heap {H : Hp} {w : World} {r clock : Nat} {l : List (Nat × Int × Nat)} (h : H r = some (mapO l clock)) (hw : Fits H w) : w.heap[r]? = some (.map (l.map ent).toArray clock) := by
  obtain ⟨o, ho, hh⟩ := hw _ _ h
  cases hh
  exact ho

section
variable {P : Program} {t te : TypeId} {j : TypeInfo} (ht : P.underlying t = some (.pointer te)) (hj : P.info? te = some j) (hs : j.size ≠ 0)
include ht hj hs

theorem equal_ptr_run {H : Hp} {w : World} (hw : Fits H w) {a b : Nat} (ha : PlainB H a) (hb : PlainB H b) : (Op.equal t (ptrV a) (ptrV b)).run P w = .ok (decide (a = b)) w := by
  obtain ⟨ca, ea, ha⟩ := ha.heap hw
  obtain ⟨cb, eb, hb⟩ := hb.heap hw
  unfold Op.equal Op.maxDepth Op.equalIn ptrV
  simp only [Sem.run_bind, underlying_run ht, Result.andThen_ok, sizeOf_run hj]
  rw [if_pos hs]
  by_cases e : a = b
  · subst e
    rw [run_sameAddr_same]; simp
  · rw [run_sameAddr_other w (a := ⟨a, 0, none⟩) (b := ⟨b, 0, none⟩) (by simpa using e) ha hb]; simp [e]

theorem equal_nil_run {w : World} {b : Nat} : (Op.equal t (.pointer none) (ptrV b)).run P w = .ok false w := by
  unfold Op.equal Op.maxDepth Op.equalIn ptrV
  simp [underlying_run ht]

def findR (a : Nat) : List (Nat × Int × Nat) → Nat → Option (Nat × Value)
  | [], _ => none
  | x :: l, i => if a = x.1 then some (i, .int .i64 x.2.1) else findR a l (i + 1)

theorem findAsk_run {H : Hp} {w : World} (hw : Fits H w) {a : Nat} (ha : PlainB H a) : ∀ (l : List (Nat × Int × Nat)) (i : Nat), (∀ x ∈ l, PlainB H x.1) → (Instr.findAsking t (ptrV a) (l.map ent) i).run P w = .ok (findR a l i) w
  | [], i, _ => by simp [Instr.findAsking, findR]
  | x :: l, i, h => by
    simp only [List.map_cons, Instr.findAsking, Sem.run_bind]
    rw [show (ent x).key = ptrV x.1 from rfl, equal_ptr_run ht hj hs hw ha (h x (by simp))]
    simp only [Result.andThen_ok, findR]
    by_cases e : a = x.1
    · simp [e, ent]
    · simp only [e, decide_false, Bool.false_eq_true, if_false]
      exact findAsk_run hw ha l (i + 1) (fun y hy => h y (by simp [hy]))

theorem findAsk_nil {w : World} : ∀ (l : List (Nat × Int × Nat)) (i : Nat), (Instr.findAsking t (.pointer none) (l.map ent) i).run P w = .ok none w
  | [], i => by simp [Instr.findAsking]
  | x :: l, i => by
    simp only [List.map_cons, Instr.findAsking, Sem.run_bind]
    rw [show (ent x).key = ptrV x.1 from rfl, equal_nil_run ht hj hs]
    simp only [Result.andThen_ok, Bool.false_eq_true, if_false]
    exact findAsk_nil l (i + 1)

theorem findKey_run {H : Hp} {w : World} (hw : Fits H w) {a : Nat} (ha : PlainB H a) (l : List (Nat × Int × Nat)) (h : ∀ x ∈ l, PlainB H x.1) : (Instr.findKey t (ptrV a) (l.map ent)).run P w = .ok (findR a l 0) w := by
  unfold Instr.findKey
  simp only [Sem.run_bind, underlying_run ht, Result.andThen_ok]
  cases l with
  | nil => simp [Instr.findNow, findR]
  | cons x l =>
    simp only [List.map_cons, Instr.findNow, Instr.sameNow]
    exact findAsk_run ht hj hs hw ha (x :: l) 0 h

theorem findKey_nil {w : World} (l : List (Nat × Int × Nat)) : (Instr.findKey t (.pointer none) (l.map ent)).run P w = .ok none w := by
  unfold Instr.findKey
  simp only [Sem.run_bind, underlying_run ht, Result.andThen_ok]
  cases l with
  | nil => simp [Instr.findNow]
  | cons x l =>
    simp only [List.map_cons, Instr.findNow, Instr.sameNow]
    exact findAsk_nil ht hj hs (x :: l) 0

theorem checkKey_run {w : World} (e : Bool) (p : Option Addr) : (Instr.checkKey e 10000 t (.pointer p)).run P w = .ok () w := by
  unfold Instr.checkKey
  simp [underlying_run ht]

variable {tm tv : TypeId} (hm : P.underlying tm = some (.map t tv))
include hm

theorem lookup_ptr {jv : TypeInfo} (hv : P.info? tv = some jv) (hz : jv.zero = some (.int .i64 0)) {H : Hp} {r clock a : Nat} {l : List (Nat × Int × Nat)} (hr : H r = some (mapO l clock)) (ha : PlainB H a) (hl : ∀ x ∈ l, PlainB H x.1) {K : Value → Prop}
    (k1 : ∀ i v, findR a l 0 = some (i, v) → K (.tuple #[v, .bool true])) (k2 : findR a l 0 = none → K (.tuple #[.int .i64 0, .bool false])) : SemV P (Instr.lookup tm (.map (some r)) (ptrV a) true) H K := by
  have hrun : ∀ w, Fits H w → (Instr.lookup tm (.map (some r)) (ptrV a) true).run P w = .ok (match findR a l 0 with | some (_, v) => .tuple #[v, .bool true] | none => .tuple #[.int .i64 0, .bool false]) w := fun w hw => by
    have hh := mapO.heap hr hw
    simp only [Instr.lookup, Sem.run_bind, underlying_run hm, Result.andThen_ok, MapKept.run_getObj_map hh, Sem.run_pure]
    rw [show ptrV a = .pointer (some ⟨a, 0, none⟩) from rfl, checkKey_run ht hj hs]
    simp only [Result.andThen_ok]
    rw [show (Value.pointer (some ⟨a, 0, none⟩)) = ptrV a from rfl, findKey_run ht hj hs hw ha l hl]
    simp only [Result.andThen_ok]
    cases findR a l 0 with
    | some x => simp
    | none => simp [zeroValue, typeInfo_run hv, hz]
  refine ⟨_, ?_, hrun⟩
  cases hf : findR a l 0 with
  | some x => exact k1 _ _ hf
  | none => exact k2 hf

theorem lookup_nilptr {jv : TypeInfo} (hv : P.info? tv = some jv) (hz : jv.zero = some (.int .i64 0)) {H : Hp} {r clock : Nat} {l : List (Nat × Int × Nat)} (hr : H r = some (mapO l clock)) {K : Value → Prop} (k2 : K (.tuple #[.int .i64 0, .bool false])) :
    SemV P (Instr.lookup tm (.map (some r)) (.pointer none) true) H K := by
  refine ⟨_, k2, fun w hw => ?_⟩
  have hh := mapO.heap hr hw
  simp only [Instr.lookup, Sem.run_bind, underlying_run hm, Result.andThen_ok, MapKept.run_getObj_map hh, Sem.run_pure]
  rw [checkKey_run ht hj hs]
  simp only [Result.andThen_ok]
  rw [findKey_nil ht hj hs]
  simp [zeroValue, typeInfo_run hv, hz]
end

theorem erase_map {α β : Type} (f : α → β) : ∀ (l : List α) (k : Nat), (l.map f).eraseIdx k = (l.eraseIdx k).map f
  | [], k => by simp
  | x :: l, 0 => by simp
  | x :: l, k + 1 => by simp [erase_map f l k]

theorem At.setMap {H0 H : Hp} {w0 w : World} {r clock : Nat} {l : List (Nat × Int × Nat)} (hA : At H0 w0 H w) (hr : H r = some (mapO l clock)) (o : Obj) : At H0 w0 (H.set r (.obj o)) { w with heap := w.heap.setIfInBounds r o } := by
  have hh := mapO.heap hr hA.fits
  have hlt : r < w.heap.size := (Array.getElem?_eq_some_iff.1 hh).1
  refine hA.turn hr (x' := o) ?_ rfl ?_ rfl rfl rfl (fun c hc => ?_)
  · show (w.heap.setIfInBounds r o)[r]? = some o
    simp [hlt]
  · show (w.heap.setIfInBounds r o).size = w.heap.size
    simp
  · show (w.heap.setIfInBounds r o)[c]? = w.heap[c]?
    rw [Array.getElem?_setIfInBounds_ne (Ne.symm hc)]

section
variable {P : Program} {t te : TypeId} {j : TypeInfo} (ht : P.underlying t = some (.pointer te)) (hj : P.info? te = some j) (hs : j.size ≠ 0)
variable {tm tv : TypeId} (hm : P.underlying tm = some (.map t tv))
include ht hj hs hm

theorem mapUpdate_new {H : Hp} {r clock a : Nat} {n : Int} {l : List (Nat × Int × Nat)} (hr : H r = some (mapO l clock)) (ha : PlainB H a) (hl : ∀ x ∈ l, PlainB H x.1) (hf : findR a l 0 = none) {K : Unit → Hp → Prop}
    (k : K () (H.set r (mapO (l ++ [(a, n, clock)]) (clock + 1)))) : SemK P (Instr.mapUpdate tm (.map (some r)) (ptrV a) (.int .i64 n)) H K := fun H0 w0 w hA => by
  have hh := mapO.heap hr hA.fits
  refine ⟨(), _, _, ?_, k, hA.setMap hr _⟩
  simp only [Instr.mapUpdate, Sem.run_bind, underlying_run hm, Result.andThen_ok, MapKept.run_getObj_map hh]
  rw [show ptrV a = .pointer (some ⟨a, 0, none⟩) from rfl, checkKey_run ht hj hs]
  simp only [Result.andThen_ok]
  rw [show (Value.pointer (some ⟨a, 0, none⟩)) = ptrV a from rfl, findKey_run ht hj hs hA.fits ha l hl, hf]
  simp only [Result.andThen_ok]
  rw [MapKept.run_setObj_map _ hh]
  simp [ent]

theorem findR_filter (a : Nat) : ∀ (l : List (Nat × Int × Nat)) (i k : Nat) (v : Value), (l.map (·.1)).Nodup → findR a l i = some (k, v) → i ≤ k ∧ l.eraseIdx (k - i) = l.filter (fun x => x.1 ≠ a) ∧ ∃ x ∈ l, x.1 = a ∧ v = .int .i64 x.2.1
  | [], i, k, v, _, h => by cases h
  | x :: l, i, k, v, hn, h => by
    unfold findR at h
    simp only [List.map_cons, List.nodup_cons] at hn
    by_cases e : a = x.1
    · rw [if_pos e] at h
      cases h
      refine ⟨Nat.le_refl _, ?_, x, by simp, e.symm, rfl⟩
      rw [Nat.sub_self, List.eraseIdx_cons_zero, List.filter_cons_of_neg (by simp [e])]
      symm
      rw [List.filter_eq_self]
      intro y hy
      have : y.1 ≠ a := fun e2 => hn.1 (by rw [← e, ← e2]; exact List.mem_map_of_mem hy)
      simpa using this
    · rw [if_neg e] at h
      obtain ⟨h1, h2, y, hy, h3, h4⟩ := findR_filter a l (i + 1) k v hn.2 h
      refine ⟨by omega, ?_, y, by simp [hy], h3, h4⟩
      rw [show k - i = (k - (i + 1)) + 1 by omega, List.eraseIdx_cons_succ, h2, List.filter_cons_of_pos (by simp; exact fun e2 => e e2.symm)]

theorem delete_ptr {ty : TypeId} {t2 : TypeId} {H : Hp} {r clock a k : Nat} {v : Value} {l : List (Nat × Int × Nat)} (hr : H r = some (mapO l clock)) (ha : PlainB H a) (hl : ∀ x ∈ l, PlainB H x.1) (hn : (l.map (·.1)).Nodup) (hf : findR a l 0 = some (k, v)) {K : Value → Hp → Prop}
    (kk : K (.tuple #[]) (H.set r (mapO (l.filter fun x => x.1 ≠ a) clock))) : SemK P (Builtin.delete_ #[tm, t2] ty #[.map (some r), ptrV a]) H K := fun H0 w0 w hA => by
  have hh := mapO.heap hr hA.fits
  obtain ⟨_, h2, _⟩ := findR_filter ht hj hs hm a l 0 k v hn hf
  rw [Nat.sub_zero] at h2
  refine ⟨_, _, _, ?_, kk, hA.setMap hr _⟩
  simp only [Builtin.delete_, Sem.run_bind, underlying_run hm, Result.andThen_ok, MapKept.run_getObj_map hh, List.getElem?_toArray, List.getElem?_cons_zero, List.getElem?_cons_succ]
  rw [show ptrV a = .pointer (some ⟨a, 0, none⟩) from rfl, checkKey_run ht hj hs]
  simp only [Result.andThen_ok]
  rw [show (Value.pointer (some ⟨a, 0, none⟩)) = ptrV a from rfl, findKey_run ht hj hs hA.fits ha l hl, hf]
  simp only [Result.andThen_ok]
  rw [Sem.run_bind, MapKept.run_setObj_map _ hh]
  rw [← h2, ← erase_map]
  simp

theorem clear_ptr {ty : TypeId} {H : Hp} {r clock : Nat} {l : List (Nat × Int × Nat)} (hr : H r = some (mapO l clock)) {K : Value → Hp → Prop} (kk : K (.tuple #[]) (H.set r (mapO [] clock))) : SemK P (Builtin.clear_ #[tm] ty #[.map (some r)]) H K := fun H0 w0 w hA => by
  have hh := mapO.heap hr hA.fits
  refine ⟨_, _, _, ?_, kk, hA.setMap hr _⟩
  simp only [Builtin.clear_, Sem.run_bind, underlying_run hm, Result.andThen_ok, List.getElem?_toArray, List.getElem?_cons_zero, MapKept.run_getObj_map hh]
  try rw [Sem.run_bind]
  rw [MapKept.run_setObj_map _ hh]
  simp
end

end Go.Hw

end
section
/-! HwI -/
/- The frame of the proofs: a map's entries, one after the other. -/
set_option maxRecDepth 100000
set_option linter.unusedSimpArgs false
set_option linter.unusedVariables false
set_option linter.unnecessarySimpa false
set_option linter.unusedSectionVars false
namespace Go.Hw
open Go

def iterO (mp since : Nat) (seen : Array Nat) (last : Nat) : AO := .obj (.mapIter (some mp) since seen last)

theorem iterO.heap {H : Hp} {w : World} {it mp since last : Nat} {seen : Array Nat} (h : H it = some (iterO mp since seen last)) (hw : Fits H w) : w.heap[it]? = some (.mapIter (some mp) since seen last) := by
  obtain ⟨o, ho, hh⟩ := hw _ _ h
  cases hh
  exact ho

theorem range_map {P : Program} {t k e : TypeId} (ht : P.underlying t = some (.map k e)) {H : Hp} {mp cl : Nat} {tk : List (Nat × Int × Nat)} (hm : H mp = some (mapO tk cl)) {K : Value → Hp → Prop}
    (kk : ∀ it, H it = none → K (.pointer (some ⟨it, 0, none⟩)) (H.set it (iterO mp cl #[] cl))) : SemK P (Instr.range t (.map (some mp))) H K := fun H0 w0 w hA => by
  have hh := mapO.heap hm hA.fits
  obtain ⟨hn, hA'⟩ := hA.new (o := iterO mp cl #[] cl) (x := .mapIter (some mp) cl #[] cl) rfl
  refine ⟨_, _, _, ?_, kk _ hn, hA'⟩
  simp only [Instr.range, Sem.run_bind, underlying_run ht, Result.andThen_ok, MapKept.run_getObj_map hh, Sem.run_pure]
  simp

theorem At.setIter {H0 H : Hp} {w0 w : World} {it mp since last : Nat} {seen : Array Nat} (hA : At H0 w0 H w) (hr : H it = some (iterO mp since seen last)) (o : Obj) : At H0 w0 (H.set it (.obj o)) { w with heap := w.heap.setIfInBounds it o } := by
  have hh := iterO.heap hr hA.fits
  have hlt : it < w.heap.size := (Array.getElem?_eq_some_iff.1 hh).1
  refine hA.turn hr (x' := o) ?_ rfl ?_ rfl rfl rfl (fun c hc => ?_)
  · show (w.heap.setIfInBounds it o)[it]? = some o
    simp [hlt]
  · show (w.heap.setIfInBounds it o).size = w.heap.size
    simp
  · show (w.heap.setIfInBounds it o)[c]? = w.heap[c]?
    rw [Array.getElem?_setIfInBounds_ne (Ne.symm hc)]

theorem choose_next {P : Program} {H0 H : Hp} {w0 w : World} (hA : At H0 w0 H w) (n : Nat) (hn : 0 < n) : ∃ i w', i < n ∧ (choose (.mapNext n)).run P w = .ok i w' ∧ At H0 w0 H w' := by
  by_cases h : n ≤ 1
  · exact ⟨0, w, hn, by simp [Question.forced, h], hA⟩
  · exact ⟨_, _, Nat.mod_lt _ hn, by simp [Question.forced, h, Question.cut]; rfl, hA.drew⟩

def unseen (tk : List (Nat × Int × Nat)) (seen : Array Nat) : List (Nat × Int × Nat) := tk.filter fun x => !seen.contains x.2.2

theorem next_map {P : Program} {ty : TypeId} {H : Hp} {it mp since last cl : Nat} {seen : Array Nat} {tk : List (Nat × Int × Nat)} (hi : H it = some (iterO mp since seen last)) (hm : H mp = some (mapO tk cl)) (hold : ∀ x ∈ tk, x.2.2 < since) (hlast : ∀ x ∈ tk, x.2.2 < last) {K : Value → Hp → Prop}
    (k1 : ∀ x ∈ unseen tk seen, K (.tuple #[.bool true, ptrV x.1, .int .i64 x.2.1]) (H.set it (iterO mp since (seen.push x.2.2) cl))) (k0 : unseen tk seen = [] → K (.tuple #[.bool false]) H) :
    SemK P (Instr.next (.pointer (some ⟨it, 0, none⟩)) false ty) H K := fun H0 w0 w hA => by
  have hh := iterO.heap hi hA.fits
  have hg := mapO.heap hm hA.fits
  have hgi : (getObj it).run P w = .ok (.mapIter (some mp) since seen last) w := by simp [getObj, Sem.run, hh]
  have hleft : ((tk.map ent).toArray.filter fun e => !seen.contains e.born) = ((unseen tk seen).map ent).toArray := by
    unfold unseen
    rw [List.filter_toArray, List.filter_map]
    rfl
  have hcond : (!seen.isEmpty && !(tk.map ent).toArray.isEmpty && (tk.map ent).toArray.all (fun e => decide (e.born ≥ last))) = false := by
    cases tk with
    | nil => simp
    | cons x l =>
      have := hlast x (by simp)
      have h2 : ¬ last ≤ x.2.2 := by omega
      simp [ent, h2]
  have hold' : (((unseen tk seen).map ent).toArray.filter fun e => decide (e.born < since)) = ((unseen tk seen).map ent).toArray := by
    rw [List.filter_toArray]
    congr 1
    rw [List.filter_eq_self]
    intro e he
    obtain ⟨x, hx, rfl⟩ := List.mem_map.1 he
    have := hold x (List.mem_filter.1 hx).1
    exact decide_eq_true this
  have hnew : (((unseen tk seen).map ent).toArray.filter fun e => decide (e.born ≥ since)) = #[] := by
    rw [List.filter_toArray]
    congr 1
    rw [List.filter_eq_nil_iff]
    intro e he
    obtain ⟨x, hx, rfl⟩ := List.mem_map.1 he
    have := hold x (List.mem_filter.1 hx).1
    simp [ent]; omega
  simp only [Instr.next, Sem.run_bind, hgi, Result.andThen_ok, MapKept.run_getObj_map hg, hcond, Bool.false_eq_true, if_false, hleft, hold', hnew, Sem.run_pure]
  cases hU : unseen tk seen with
  | nil =>
    obtain ⟨i, w', hi', hr, hA'⟩ := choose_next (P := P) hA 1 (by omega)
    obtain rfl : i = 0 := by omega
    refine ⟨_, H, w', ?_, k0 hU, hA'⟩
    rw [show ((if (List.map ent ([] : List (Nat × Int × Nat))).toArray.isEmpty = true then #[none] else #[]) ++ Array.map some ((List.map ent ([] : List (Nat × Int × Nat))).toArray ++ #[])) = (#[none] : Array (Option MapEntry)) by simp, show (#[none] : Array (Option MapEntry)).size = 1 from rfl, hr]
    rfl
  | cons x l =>
    obtain ⟨i, w', hi', hr, hA'⟩ := choose_next (P := P) hA (x :: l).length (by simp)
    have e : ((if (List.map ent (x :: l)).toArray.isEmpty = true then #[none] else #[]) ++ Array.map some ((List.map ent (x :: l)).toArray ++ #[])) = ((x :: l).map fun y => some (ent y)).toArray := by simp
    rw [e, show ((x :: l).map fun y => some (ent y)).toArray.size = (x :: l).length by simp, hr]
    have hy : (x :: l)[i] ∈ unseen tk seen := by rw [hU]; exact List.getElem_mem hi'
    refine ⟨_, _, _, ?_, k1 _ hy, hA'.setIter hi _⟩
    simp only [Result.andThen_ok, List.getElem?_toArray, List.getElem?_map, List.getElem?_eq_getElem hi', Option.map_some, Sem.run_bind]
    have hh' := iterO.heap hi hA'.fits
    rw [show (setObj it (Obj.mapIter (some mp) since (seen.push (ent (x :: l)[i]).born) cl)).run P w' = .ok () { w' with heap := w'.heap.setIfInBounds it (Obj.mapIter (some mp) since (seen.push (ent (x :: l)[i]).born) cl) } by simp [setObj, Sem.run, hh']]
    rfl

theorem find_born : ∀ (tk : List (Nat × Int × Nat)) (x : Nat × Int × Nat), x ∈ tk → (tk.map (·.2.2)).Nodup → (tk.map ent).find? (fun e => e.born == x.2.2) = some (ent x)
  | [], x, h, _ => by simp at h
  | y :: l, x, h, hn => by
    simp only [List.map_cons, List.nodup_cons] at hn
    simp only [List.map_cons, List.find?_cons]
    rcases List.mem_cons.1 h with rfl | h
    · simp [ent]
    · have : ¬ (y.2.2 = x.2.2) := fun e => hn.1 (by rw [e]; exact List.mem_map_of_mem h)
      rw [show ((ent y).born == x.2.2) = false by simpa [ent] using this]
      exact find_born l x h hn.2

theorem entry_map {P : Program} {H : Hp} {it mp since cl : Nat} {seen : Array Nat} {tk : List (Nat × Int × Nat)} (hi : H it = some (iterO mp since seen cl)) (hm : H mp = some (mapO tk cl)) {x : Nat × Int × Nat} (hx : x ∈ tk) (hb : seen.back? = some x.2.2) (hn : (tk.map (·.2.2)).Nodup) {K : Value → Hp → Prop}
    (k : K (.tuple #[ptrV x.1, .int .i64 x.2.1]) H) : SemK P (Instr.entry (.pointer (some ⟨it, 0, none⟩))) H K := fun H0 w0 w hA => by
  have hh := iterO.heap hi hA.fits
  have hg := mapO.heap hm hA.fits
  have hgi : (getObj it).run P w = .ok (.mapIter (some mp) since seen cl) w := by simp [getObj, Sem.run, hh]
  refine ⟨_, H, w, ?_, k, hA⟩
  simp only [Instr.entry, Sem.run_bind, hgi, Result.andThen_ok, hb, MapKept.run_getObj_map hg, bne_self_eq_false, Bool.false_eq_true, if_false, List.find?_toArray, find_born tk x hx hn]
  rfl

end Go.Hw

end
section
/-! HwK -/
/- The frame of the proofs: maps whose keys are ints, as parts of memory. -/
set_option maxRecDepth 100000
set_option linter.unusedSimpArgs false
set_option linter.unusedVariables false
set_option linter.unnecessarySimpa false
set_option linter.unusedSectionVars false
namespace Go.Hw
open Go

def entK (x : Int × Value × Nat) : MapEntry := { key := .int .i64 x.1, val := x.2.1, born := x.2.2 }
def kmap (l : List (Int × Value × Nat)) (clock : Nat) : AO := .obj (.map (l.map entK).toArray clock)
def getK : List (Int × Value × Nat) → Int → Option Value
  | [], _ => none
  | x :: l, k => if k = x.1 then some x.2.1 else getK l k
def ixK (k : Int) : List (Int × Value × Nat) → Nat → Option (Nat × Value)
  | [], _ => none
  | x :: l, i => if k = x.1 then some (i, x.2.1) else ixK k l (i + 1)

structure OkK (l : List (Int × Value × Nat)) (clock : Nat) (m : Int → Option Value) : Prop where
  nd : (l.map (·.1)).Nodup
  bn : (l.map (·.2.2)).Nodup
  bl : ∀ x ∈ l, x.2.2 < clock
  get : ∀ k, getK l k = m k

/-- A map whose keys are ints. -/
def Mp (r : Nat) (m : Int → Option Value) : As := fun H => ∃ l clock, H r = some (kmap l clock) ∧ OkK l clock m

theorem ixK_get (k : Int) : ∀ (l : List (Int × Value × Nat)) (i : Nat), (ixK k l i).map (·.2) = getK l k
  | [], _ => rfl
  | x :: l, i => by
    unfold ixK getK
    split
    · rfl
    · exact ixK_get k l (i + 1)

theorem getK_none {l : List (Int × Value × Nat)} {k : Int} : getK l k = none ↔ ∀ x ∈ l, x.1 ≠ k := by
  induction l with
  | nil => simp [getK]
  | cons x l ih =>
    unfold getK
    split
    · rename_i h; simp [h]
    · rename_i h
      rw [ih]
      constructor
      · intro h2 y hy
        rcases List.mem_cons.1 hy with rfl | hy
        · exact fun e => h e.symm
        · exact h2 y hy
      · intro h2 y hy; exact h2 y (by simp [hy])

theorem getK_mem {l : List (Int × Value × Nat)} (hn : (l.map (·.1)).Nodup) {x : Int × Value × Nat} (hx : x ∈ l) : getK l x.1 = some x.2.1 := by
  induction l with
  | nil => simp at hx
  | cons y l ih =>
    simp only [List.map_cons, List.nodup_cons] at hn
    unfold getK
    rcases List.mem_cons.1 hx with rfl | hx
    · simp
    · rw [if_neg (fun e => hn.1 (by rw [← e]; exact List.mem_map_of_mem hx))]
      exact ih hn.2 hx

theorem getK_some {l : List (Int × Value × Nat)} {k : Int} {v : Value} (h : getK l k = some v) : ∃ b, (k, v, b) ∈ l := by
  induction l with
  | nil => simp [getK] at h
  | cons y l ih =>
    unfold getK at h
    split at h
    · rename_i e; cases h; exact ⟨y.2.2, by rw [e]; simp⟩
    · obtain ⟨b, hb⟩ := ih h; exact ⟨b, by simp [hb]⟩

theorem kmap.heap {H : Hp} {w : World} {r clock : Nat} {l : List (Int × Value × Nat)} (h : H r = some (kmap l clock)) (hw : Fits H w) : w.heap[r]? = some (.map (l.map entK).toArray clock) := by
  obtain ⟨o, ho, hh⟩ := hw _ _ h
  cases hh
  exact ho

theorem At.setK {H0 H : Hp} {w0 w : World} {r clock : Nat} {l : List (Int × Value × Nat)} (hA : At H0 w0 H w) (hr : H r = some (kmap l clock)) (o : Obj) : At H0 w0 (H.set r (.obj o)) { w with heap := w.heap.setIfInBounds r o } := by
  have hh := kmap.heap hr hA.fits
  have hlt : r < w.heap.size := (Array.getElem?_eq_some_iff.1 hh).1
  refine hA.turn hr (x' := o) ?_ rfl ?_ rfl rfl rfl (fun c hc => ?_)
  · show (w.heap.setIfInBounds r o)[r]? = some o
    simp [hlt]
  · show (w.heap.setIfInBounds r o).size = w.heap.size
    simp
  · show (w.heap.setIfInBounds r o)[c]? = w.heap[c]?
    rw [Array.getElem?_setIfInBounds_ne (Ne.symm hc)]

section
variable {P : Program} {t : TypeId} (ht : P.underlying t = some (.int .i64))
include ht

theorem findNowK (k : Int) : ∀ (l : List (Int × Value × Nat)) (i : Nat), Instr.findNow (.int .i64) (.int .i64 k) (l.map entK) i = some (ixK k l i)
  | [], _ => rfl
  | x :: l, i => by
    simp only [List.map_cons, Instr.findNow]
    rw [show Instr.sameNow (.int .i64) (.int .i64 k) (entK x).key = some (k == x.1) by simp [Instr.sameNow, entK]]
    unfold ixK
    by_cases h : k = x.1
    · simp [h, entK]
    · rw [show (k == x.1) = false by simpa using h]
      simp only [h, if_false]
      exact findNowK k l (i + 1)

theorem findKeyK {w : World} (k : Int) (l : List (Int × Value × Nat)) : (Instr.findKey t (.int .i64 k) (l.map entK)).run P w = .ok (ixK k l 0) w := by
  unfold Instr.findKey
  simp [underlying_run ht, findNowK ht k l 0]

theorem checkKeyK {w : World} (e : Bool) (k : Int) : (Instr.checkKey e 10000 t (.int .i64 k)).run P w = .ok () w := by
  unfold Instr.checkKey
  simp [underlying_run ht]

variable {tm tv : TypeId} (hm : P.underlying tm = some (.map t tv))
include hm

theorem lookupK {jv : TypeInfo} {z : Value} (hv : P.info? tv = some jv) (hz : jv.zero = some z) {H : Hp} {r clock : Nat} {l : List (Int × Value × Nat)} {k : Int} (hr : H r = some (kmap l clock)) (ok : Bool) {K : Value → Prop}
    (kk : K (match getK l k with | some v => if ok then .tuple #[v, .bool true] else v | none => if ok then .tuple #[z, .bool false] else z)) : SemV P (Instr.lookup tm (.map (some r)) (.int .i64 k) ok) H K := by
  refine ⟨_, kk, fun w hw => ?_⟩
  have hh := kmap.heap hr hw
  simp only [Instr.lookup, Sem.run_bind, underlying_run hm, Result.andThen_ok, MapKept.run_getObj_map hh, Sem.run_pure]
  rw [checkKeyK ht]
  simp only [Result.andThen_ok]
  rw [findKeyK ht]
  simp only [Result.andThen_ok]
  rw [← ixK_get k l 0]
  cases ixK k l 0 with
  | some x => cases ok <;> simp
  | none => cases ok <;> simp [zeroValue, typeInfo_run hv, hz]

theorem ixK_lt (k : Int) : ∀ (l : List (Int × Value × Nat)) (i j : Nat) (v : Value), ixK k l i = some (j, v) → i ≤ j ∧ ∃ x, l[j - i]? = some x ∧ x.1 = k ∧ x.2.1 = v
  | [], _, _, _, h => by cases h
  | x :: l, i, j, v, h => by
    unfold ixK at h
    split at h
    · rename_i e; cases h; exact ⟨Nat.le_refl _, x, by simp, e.symm, rfl⟩
    · obtain ⟨h1, y, h2, h3⟩ := ixK_lt k l (i + 1) j v h
      exact ⟨by omega, y, by rw [show j - i = (j - (i + 1)) + 1 by omega, List.getElem?_cons_succ]; exact h2, h3⟩

def updM (m : Int → Option Value) (k : Int) (v : Value) : Int → Option Value := fun j => if j = k then some v else m j

theorem getK_append (l : List (Int × Value × Nat)) (x : Int × Value × Nat) (h : getK l x.1 = none) (j : Int) : getK (l ++ [x]) j = updM (getK l) x.1 x.2.1 j := by
  induction l with
  | nil => simp [getK, updM]
  | cons y l ih =>
    unfold getK at h
    split at h
    · cases h
    · rename_i hne
      rw [List.cons_append]
      unfold getK updM
      have := ih h
      unfold updM at this
      by_cases e : j = x.1
      · rw [if_pos e, e, if_neg hne]
        rw [e, if_pos rfl] at this; exact this
      · rw [if_neg e]
        rw [if_neg e] at this
        rw [this]
        rfl

theorem getK_set : ∀ (l : List (Int × Value × Nat)) (i : Nat) (x : Int × Value × Nat) (v : Value), (l.map (·.1)).Nodup → l[i]? = some x → ∀ j, getK (l.set i (x.1, v, x.2.2)) j = updM (getK l) x.1 v j
  | [], i, x, v, _, h, j => by simp at h
  | y :: l, 0, x, v, hn, h, j => by
    simp at h; subst h
    simp only [List.set_cons_zero]
    unfold getK updM
    by_cases e : j = y.1
    · simp [e]
    · simp only [e, if_false, getK]
  | y :: l, i + 1, x, v, hn, h, j => by
    simp only [List.map_cons, List.nodup_cons] at hn
    rw [List.getElem?_cons_succ] at h
    have ih := getK_set l i x v hn.2 h j
    have hne : y.1 ≠ x.1 := fun e => hn.1 (by rw [e]; exact List.mem_map_of_mem (List.mem_of_getElem? h))
    simp only [List.set_cons_succ]
    unfold getK updM
    unfold updM at ih
    by_cases e : j = x.1
    · rw [if_pos e, e, if_neg (Ne.symm hne)]
      rw [e, if_pos rfl] at ih; exact ih
    · rw [if_neg e]
      rw [if_neg e] at ih
      rw [ih]
      rfl

theorem map_set_same {α β : Type} (f : α → β) : ∀ (l : List α) (i : Nat) (x y : α), l[i]? = some x → f y = f x → (l.set i y).map f = l.map f
  | [], _, _, _, h, _ => by simp at h
  | z :: l, 0, x, y, h, e => by simp at h; subst h; simp [e]
  | z :: l, i + 1, x, y, h, e => by
    simp only [List.set_cons_succ, List.map_cons]
    rw [map_set_same f l i x y (by simpa using h) e]

theorem Sep.upd {L : List As} {H : Hp} (h : Sep L H) (i : Nat) {r : Nat} {m : Int → Option Value} (hi : L[i]? = some (Mp r m)) {k : Int} {v : Value} {K : Unit → Hp → Prop} (kk : ∀ H', Sep (L.set i (Mp r (updM m k v))) H' → K () H') :
    SemK P (Instr.mapUpdate tm (.map (some r)) (.int .i64 k) v) H K := fun H0 w0 w hA => by
  obtain ⟨H1, ⟨l, clock, hr1, hok⟩, hle⟩ := h.see i hi
  have hr := hle _ _ hr1
  have hh := kmap.heap hr hA.fits
  cases hx : ixK k l 0 with
  | none =>
    have hg : getK l k = none := by rw [← ixK_get k l 0, hx]; rfl
    refine ⟨(), _, _, ?_, kk _ (h.putIn i hi (b := r) (o' := kmap (l ++ [(k, v, clock)]) (clock + 1)) fun H1' hle' hA' => ?_), hA.setK hr _⟩
    · simp only [Instr.mapUpdate, Sem.run_bind, underlying_run hm, Result.andThen_ok, MapKept.run_getObj_map hh]
      rw [checkKeyK ht]
      simp only [Result.andThen_ok]
      rw [findKeyK ht, hx]
      simp only [Result.andThen_ok]
      rw [MapKept.run_setObj_map _ hh]
      simp [entK]
    · obtain ⟨l', clock', hr', _⟩ := hA'
      refine ⟨_, hr', l ++ [(k, v, clock)], clock + 1, Hp.set_same _ _ _, ?_, ?_, fun x hx => ?_, fun j => ?_⟩
      · rw [List.map_append, List.nodup_append]
        refine ⟨hok.nd, by simp, fun a ha b hb e => ?_⟩
        simp at hb; subst hb
        obtain ⟨z, hz, rfl⟩ := List.mem_map.1 ha
        exact getK_none.1 hg z hz e
      · rw [List.map_append, List.nodup_append]
        refine ⟨hok.bn, by simp, fun a ha b hb e => ?_⟩
        simp at hb; subst hb
        obtain ⟨z, hz, rfl⟩ := List.mem_map.1 ha
        have := hok.bl z hz
        omega
      · rcases List.mem_append.1 hx with hx | hx
        · have := hok.bl x hx; omega
        · simp at hx; subst hx; show clock < clock + 1; omega
      · rw [getK_append ht hm l (k, v, clock) hg j]
        unfold updM
        simp only [hok.get]
  | some q =>
    obtain ⟨ix, u⟩ := q
    obtain ⟨_, x, hxl, hxk, hxv⟩ := ixK_lt ht hm k l 0 ix u hx
    rw [Nat.sub_zero] at hxl
    have hlt := (List.getElem?_eq_some_iff.1 hxl).1
    refine ⟨(), _, _, ?_, kk _ (h.putIn i hi (b := r) (o' := kmap (l.set ix (x.1, v, x.2.2)) clock) fun H1' hle' hA' => ?_), hA.setK hr _⟩
    · simp only [Instr.mapUpdate, Sem.run_bind, underlying_run hm, Result.andThen_ok, MapKept.run_getObj_map hh]
      rw [checkKeyK ht]
      simp only [Result.andThen_ok]
      rw [findKeyK ht, hx]
      simp only [Result.andThen_ok]
      have hkey : ((((l.map entK).toArray)[ix]?).map (·.key)).getD (Value.int .i64 k) = .int .i64 k := by
        simp [hxl, entK, hxk]
      rw [hkey]
      simp only [Instr.keyThatStays, Instr.sameBits, beq_self_eq_true, Bool.and_self, if_true, pure_bind]
      rw [MapKept.run_setObj_map _ hh]
      congr 3
      have e : ((l.map entK).toArray.modify ix fun e => { e with key := .int .i64 k, val := v }) = ((l.set ix (x.1, v, x.2.2)).map entK).toArray := by
        apply Array.ext'
        rw [Array.toList_modify]
        simp only
        apply List.ext_getElem?
        intro j
        rw [List.getElem?_modify, List.getElem?_map, List.getElem?_map, List.getElem?_set]
        by_cases ej : ix = j
        · subst ej
          have e2 : l[ix] = x := by
            have := List.getElem?_eq_getElem hlt
            rw [this] at hxl; exact Option.some.inj hxl
          simp [entK, hxk, hlt, e2]
        · simp [ej]
      rw [e]
    · obtain ⟨l', clock', hr', _⟩ := hA'
      refine ⟨_, hr', l.set ix (x.1, v, x.2.2), clock, Hp.set_same _ _ _, ?_, ?_, fun y hy => ?_, fun j => ?_⟩
      · rw [map_set_same ht hm (·.1) l ix x (x.1, v, x.2.2) hxl rfl]; exact hok.nd
      · rw [map_set_same ht hm (·.2.2) l ix x (x.1, v, x.2.2) hxl rfl]; exact hok.bn
      · have : y.2.2 ∈ (l.set ix (x.1, v, x.2.2)).map (·.2.2) := List.mem_map_of_mem hy
        rw [map_set_same ht hm (·.2.2) l ix x (x.1, v, x.2.2) hxl rfl] at this
        obtain ⟨z, hz, e⟩ := List.mem_map.1 this
        have := hok.bl z hz
        have e' : z.2.2 = y.2.2 := e
        omega
      · rw [getK_set ht hm l ix x v hok.nd hxl j]
        unfold updM
        simp only [hok.get, hxk]

theorem Sep.clearK {L : List As} {H : Hp} (h : Sep L H) (i : Nat) {r : Nat} {m : Int → Option Value} (hi : L[i]? = some (Mp r m)) {ty : TypeId} {K : Value → Hp → Prop} (kk : ∀ H', Sep (L.set i (Mp r fun _ => none)) H' → K (.tuple #[]) H') :
    SemK P (Builtin.clear_ #[tm] ty #[.map (some r)]) H K := fun H0 w0 w hA => by
  obtain ⟨H1, ⟨l, clock, hr1, hok⟩, hle⟩ := h.see i hi
  have hr := hle _ _ hr1
  have hh := kmap.heap hr hA.fits
  refine ⟨_, _, _, ?_, kk _ (h.putIn i hi (b := r) (o' := kmap [] clock) fun H1' hle' hA' => ?_), hA.setK hr _⟩
  · simp only [Builtin.clear_, Sem.run_bind, underlying_run hm, Result.andThen_ok, List.getElem?_toArray, List.getElem?_cons_zero, MapKept.run_getObj_map hh]
    try rw [Sem.run_bind]
    rw [MapKept.run_setObj_map _ hh]
    simp
  · obtain ⟨l', clock', hr', _⟩ := hA'
    exact ⟨_, hr', [], clock, Hp.set_same _ _ _, by simp, by simp, fun x hx => by simp at hx, fun j => rfl⟩

end

theorem Mp.new {L : List As} {H : Hp} {b : Nat} (h : Sep (L ++ [pts b (.obj (.map #[] 0))]) H) : Sep (L ++ [Mp b fun _ => none]) H := by
  have := h.turn L.length (A := pts b (.obj (.map #[] 0))) (by simp) (B := Mp b fun _ => none) fun H1 h1 => ⟨[], 0, h1, by simp, by simp, fun x hx => by simp at hx, fun j => rfl⟩
  simpa using this

/-! ## The entries, one after the other -/

def unseenK (tk : List (Int × Value × Nat)) (seen : Array Nat) : List (Int × Value × Nat) := tk.filter fun x => !seen.contains x.2.2

theorem range_K {P : Program} {t k e : TypeId} (ht : P.underlying t = some (.map k e)) {H : Hp} {mp cl : Nat} {tk : List (Int × Value × Nat)} (hm : H mp = some (kmap tk cl)) {K : Value → Hp → Prop}
    (kk : ∀ it, H it = none → K (.pointer (some ⟨it, 0, none⟩)) (H.set it (iterO mp cl #[] cl))) : SemK P (Instr.range t (.map (some mp))) H K := fun H0 w0 w hA => by
  have hh := kmap.heap hm hA.fits
  obtain ⟨hn, hA'⟩ := hA.new (o := iterO mp cl #[] cl) (x := .mapIter (some mp) cl #[] cl) rfl
  refine ⟨_, _, _, ?_, kk _ hn, hA'⟩
  simp only [Instr.range, Sem.run_bind, underlying_run ht, Result.andThen_ok, MapKept.run_getObj_map hh, Sem.run_pure]
  simp

theorem next_K {P : Program} {ty : TypeId} {H : Hp} {it mp since last cl : Nat} {seen : Array Nat} {tk : List (Int × Value × Nat)} (hi : H it = some (iterO mp since seen last)) (hm : H mp = some (kmap tk cl)) (hold : ∀ x ∈ tk, x.2.2 < since) (hlast : ∀ x ∈ tk, x.2.2 < last) {K : Value → Hp → Prop}
    (k1 : ∀ x ∈ unseenK tk seen, K (.tuple #[.bool true, .int .i64 x.1, x.2.1]) (H.set it (iterO mp since (seen.push x.2.2) cl))) (k0 : unseenK tk seen = [] → K (.tuple #[.bool false]) H) :
    SemK P (Instr.next (.pointer (some ⟨it, 0, none⟩)) false ty) H K := fun H0 w0 w hA => by
  have hh := iterO.heap hi hA.fits
  have hg := kmap.heap hm hA.fits
  have hgi : (getObj it).run P w = .ok (.mapIter (some mp) since seen last) w := by simp [getObj, Sem.run, hh]
  have hleft : ((tk.map entK).toArray.filter fun e => !seen.contains e.born) = ((unseenK tk seen).map entK).toArray := by
    unfold unseenK
    rw [List.filter_toArray, List.filter_map]
    rfl
  have hcond : (!seen.isEmpty && !(tk.map entK).toArray.isEmpty && (tk.map entK).toArray.all (fun e => decide (e.born ≥ last))) = false := by
    cases tk with
    | nil => simp
    | cons x l =>
      have := hlast x (by simp)
      have h2 : ¬ last ≤ x.2.2 := by omega
      simp [entK, h2]
  have hold' : (((unseenK tk seen).map entK).toArray.filter fun e => decide (e.born < since)) = ((unseenK tk seen).map entK).toArray := by
    rw [List.filter_toArray]
    congr 1
    rw [List.filter_eq_self]
    intro e he
    obtain ⟨x, hx, rfl⟩ := List.mem_map.1 he
    have := hold x (List.mem_filter.1 hx).1
    exact decide_eq_true this
  have hnew : (((unseenK tk seen).map entK).toArray.filter fun e => decide (e.born ≥ since)) = #[] := by
    rw [List.filter_toArray]
    congr 1
    rw [List.filter_eq_nil_iff]
    intro e he
    obtain ⟨x, hx, rfl⟩ := List.mem_map.1 he
    have := hold x (List.mem_filter.1 hx).1
    simp [entK]; omega
  simp only [Instr.next, Sem.run_bind, hgi, Result.andThen_ok, MapKept.run_getObj_map hg, hcond, Bool.false_eq_true, if_false, hleft, hold', hnew, Sem.run_pure]
  cases hU : unseenK tk seen with
  | nil =>
    obtain ⟨i, w', hi', hr, hA'⟩ := choose_next (P := P) hA 1 (by omega)
    obtain rfl : i = 0 := by omega
    refine ⟨_, H, w', ?_, k0 hU, hA'⟩
    rw [show ((if (List.map entK ([] : List (Int × Value × Nat))).toArray.isEmpty = true then #[none] else #[]) ++ Array.map some ((List.map entK ([] : List (Int × Value × Nat))).toArray ++ #[])) = (#[none] : Array (Option MapEntry)) by simp, show (#[none] : Array (Option MapEntry)).size = 1 from rfl, hr]
    rfl
  | cons x l =>
    obtain ⟨i, w', hi', hr, hA'⟩ := choose_next (P := P) hA (x :: l).length (by simp)
    have e : ((if (List.map entK (x :: l)).toArray.isEmpty = true then #[none] else #[]) ++ Array.map some ((List.map entK (x :: l)).toArray ++ #[])) = ((x :: l).map fun y => some (entK y)).toArray := by simp
    rw [e, show ((x :: l).map fun y => some (entK y)).toArray.size = (x :: l).length by simp, hr]
    have hy : (x :: l)[i] ∈ unseenK tk seen := by rw [hU]; exact List.getElem_mem hi'
    refine ⟨_, _, _, ?_, k1 _ hy, hA'.setIter hi _⟩
    simp only [Result.andThen_ok, List.getElem?_toArray, List.getElem?_map, List.getElem?_eq_getElem hi', Option.map_some, Sem.run_bind]
    have hh' := iterO.heap hi hA'.fits
    rw [show (setObj it (Obj.mapIter (some mp) since (seen.push (entK (x :: l)[i]).born) cl)).run P w' = .ok () { w' with heap := w'.heap.setIfInBounds it (Obj.mapIter (some mp) since (seen.push (entK (x :: l)[i]).born) cl) } by simp [setObj, Sem.run, hh']]
    rfl

theorem find_bornK : ∀ (tk : List (Int × Value × Nat)) (x : Int × Value × Nat), x ∈ tk → (tk.map (·.2.2)).Nodup → (tk.map entK).find? (fun e => e.born == x.2.2) = some (entK x)
  | [], x, h, _ => by simp at h
  | y :: l, x, h, hn => by
    simp only [List.map_cons, List.nodup_cons] at hn
    simp only [List.map_cons, List.find?_cons]
    rcases List.mem_cons.1 h with rfl | h
    · simp [entK]
    · have : ¬ (y.2.2 = x.2.2) := fun e => hn.1 (by rw [e]; exact List.mem_map_of_mem h)
      rw [show ((entK y).born == x.2.2) = false by simpa [entK] using this]
      exact find_bornK l x h hn.2

theorem entry_K {P : Program} {H : Hp} {it mp since cl : Nat} {seen : Array Nat} {tk : List (Int × Value × Nat)} (hi : H it = some (iterO mp since seen cl)) (hm : H mp = some (kmap tk cl)) {x : Int × Value × Nat} (hx : x ∈ tk) (hb : seen.back? = some x.2.2) (hn : (tk.map (·.2.2)).Nodup) {K : Value → Hp → Prop}
    (k : K (.tuple #[.int .i64 x.1, x.2.1]) H) : SemK P (Instr.entry (.pointer (some ⟨it, 0, none⟩))) H K := fun H0 w0 w hA => by
  have hh := iterO.heap hi hA.fits
  have hg := kmap.heap hm hA.fits
  have hgi : (getObj it).run P w = .ok (.mapIter (some mp) since seen cl) w := by simp [getObj, Sem.run, hh]
  refine ⟨_, H, w, ?_, k, hA⟩
  simp only [Instr.entry, Sem.run_bind, hgi, Result.andThen_ok, hb, MapKept.run_getObj_map hg, bne_self_eq_false, Bool.false_eq_true, if_false, List.find?_toArray, find_bornK tk x hx hn]
  rfl

theorem unseenK_lt {tk : List (Int × Value × Nat)} {seen : Array Nat} {x : Int × Value × Nat} (hx : x ∈ unseenK tk seen) : (unseenK tk (seen.push x.2.2)).length < (unseenK tk seen).length := by
  have e : unseenK tk (seen.push x.2.2) = (unseenK tk seen).filter fun y => y.2.2 != x.2.2 := by
    unfold unseenK
    rw [List.filter_filter]
    congr 1
    funext y
    rw [Array.contains_push]
    cases seen.contains y.2.2 <;> simp [bne]
  rw [e]
  have : ∀ l : List (Int × Value × Nat), x ∈ l → (l.filter fun y => y.2.2 != x.2.2).length < l.length := by
    intro l hl
    induction l with
    | nil => simp at hl
    | cons y l ih =>
      rcases List.mem_cons.1 hl with rfl | hl
      · rw [List.filter_cons_of_neg (by simp)]
        have := List.length_filter_le (fun y : Int × Value × Nat => y.2.2 != x.2.2) l
        simp only [List.length_cons]; omega
      · have := ih hl
        have := List.length_filter_le (fun y : Int × Value × Nat => y.2.2 != x.2.2) l
        rw [List.filter_cons]
        split <;> simp only [List.length_cons] <;> omega
  exact this _ hx

end Go.Hw

end
section
/-! Wdisk -/
/- Formulas of functions, printed by wip/tools/hwp.py. -/
set_option maxRecDepth 100000
set_option linter.unusedVariables false
namespace Go.Proofs.YtlgpappgnndgiaaGreatDoor.W
open Go Go.Hw

theorem mixWdisk : Tryz.prog.follows .mixedOrders = true := by kernel_rfl
-- (*disk.counts).Count
def W_disk_counts_Count (p1 : Option Addr) (H : Hp) (K : Value → Hp → Prop) : Prop :=
  Nw H (.obj (.cells #[.int .i64 (0 : Int), .int .i64 (0 : Int), .int .i64 (0 : Int)] 43)) fun b1 H1 => NN p1 fun a1 => LdA H1 (a1.add 0) 3 fun l1 => StA H1 (⟨b1, 0, none⟩ : Addr) l1.toArray 3 fun H2 => LdA H2 (⟨b1, 0, none⟩ : Addr) 3 fun l2 => K (.agg l2.toArray) H2
def W_disk_counts_Count.Λ (_ : Value → Hp → Prop) : Cuts := Cuts.none (fun _ => none)
theorem W_disk_counts_Count.ok (p1 : Option Addr) (H : Hp) (K : Value → Hp → Prop) (h : W_disk_counts_Count p1 H K) : HCalls Tryz.prog 14 #[.pointer p1] H K :=
  hcalls Tryz.func14 rfl (Nat.le_of_ble_eq_true rfl) (hw_safe (Λ := Cuts.none (fun _ => none)) mixWdisk _ _ _ _ _ (Eq.mp (by kernel_rfl) h) (obs_none _ _ _ _ _))

-- disk.New
def W_disk_New (x1 : Int) (x2 : Int) (H : Hp) (K : Value → Hp → Prop) : Prop :=
  BIf (decide (x1 < (1 : Int))) (K (.pointer none) H) (BIf (decide (x1 > (1048576 : Int))) (K (.pointer none) H) (BIf (decide (x2 < (32 : Int))) (K (.pointer none) H) (BIf (decide (x2 > (4096 : Int))) (K (.pointer none) H) (BIf ((bAnd .i64 x2 (IntKind.i64.wrap (x2 - (1 : Int)))) != (0 : Int)) (K (.pointer none) H) ((x2 ≠ 0 ∧ IntKind.i64 = IntKind.i64 ∧ BIf (decide (x1 > (IntKind.i64.wrap (Int.tdiv (67108864 : Int) x2)))) (K (.pointer none) H) (Nw H (.obj (.map #[] 0)) fun b1 H1 => Nw H1 (.obj (.map #[] 0)) fun b2 H2 => Nw H2 (.obj (.map #[] 0)) fun b3 H3 => Nw H3 (.obj (.cells #[.int .i64 x1, .int .i64 x2, .map (some b1), .int .i64 (0 : Int), .int .i64 (0 : Int), .int .i64 (0 : Int), .map (some b2), .bool false, .int .i64 (0 : Int), .map (some b3)] 54)) fun b4 H4 => K (.pointer (some (⟨b4, 0, none⟩ : Addr))) H4)))))))
def W_disk_New.Λ (_ : Value → Hp → Prop) : Cuts := Cuts.none (fun _ => none)
theorem W_disk_New.ok (x1 : Int) (x2 : Int) (H : Hp) (K : Value → Hp → Prop) (h : W_disk_New x1 x2 H K) : HCalls Tryz.prog 23 #[.int .i64 x1, .int .i64 x2] H K :=
  hcalls Tryz.func23 rfl (Nat.le_of_ble_eq_true rfl) (hw_safe (Λ := Cuts.none (fun _ => none)) mixWdisk _ _ _ _ _ (Eq.mp (by kernel_rfl) h) (obs_none _ _ _ _ _))

-- (*disk.power).Fuse
def W_disk_power_Fuse (p1 : Option Addr) (x1 : Int) (H : Hp) (K : Value → Hp → Prop) : Prop :=
  NN p1 fun a1 => St H ((a1.add 1).add 0) (.int .i64 (if (0 : Int) > x1 then (0 : Int) else x1)) fun H1 => K (.tuple #[]) H1
def W_disk_power_Fuse.Λ (_ : Value → Hp → Prop) : Cuts := Cuts.none (fun _ => none)
theorem W_disk_power_Fuse.ok (p1 : Option Addr) (x1 : Int) (H : Hp) (K : Value → Hp → Prop) (h : W_disk_power_Fuse p1 x1 H K) : HCalls Tryz.prog 27 #[.pointer p1, .int .i64 x1] H K :=
  hcalls Tryz.func27 rfl (Nat.le_of_ble_eq_true rfl) (hw_safe (Λ := Cuts.none (fun _ => none)) mixWdisk _ _ _ _ _ (Eq.mp (by kernel_rfl) h) (obs_none _ _ _ _ _))

-- (*disk.power).Down
def W_disk_power_Down (p1 : Option Addr) (H : Hp) (K : Value → Hp → Prop) : Prop :=
  NN p1 fun a1 => Ld H (a1.add 0) fun v1 => DB v1 fun c1 => K (.bool c1) H
def W_disk_power_Down.Λ (_ : Value → Hp → Prop) : Cuts := Cuts.none (fun _ => none)
theorem W_disk_power_Down.ok (p1 : Option Addr) (H : Hp) (K : Value → Hp → Prop) (h : W_disk_power_Down p1 H K) : HCalls Tryz.prog 29 #[.pointer p1] H K :=
  hcalls Tryz.func29 rfl (Nat.le_of_ble_eq_true rfl) (hw_safe (Λ := Cuts.none (fun _ => none)) mixWdisk _ _ _ _ _ (Eq.mp (by kernel_rfl) h) (obs_none _ _ _ _ _))

-- (*disk.power).Crash
def W_disk_power_Crash (p1 : Option Addr) (H : Hp) (K : Value → Hp → Prop) : Prop :=
  NN p1 fun a1 => St H ((a1.add 0).add 0) (.bool true) fun H1 => NN p1 fun a2 => St H1 ((a2.add 1).add 0) (.int .i64 (0 : Int)) fun H2 => K (.tuple #[]) H2
def W_disk_power_Crash.Λ (_ : Value → Hp → Prop) : Cuts := Cuts.none (fun _ => none)
theorem W_disk_power_Crash.ok (p1 : Option Addr) (H : Hp) (K : Value → Hp → Prop) (h : W_disk_power_Crash p1 H K) : HCalls Tryz.prog 30 #[.pointer p1] H K :=
  hcalls Tryz.func30 rfl (Nat.le_of_ble_eq_true rfl) (hw_safe (Λ := Cuts.none (fun _ => none)) mixWdisk _ _ _ _ _ (Eq.mp (by kernel_rfl) h) (obs_none _ _ _ _ _))

-- (*disk.Disk).Boot
def W_disk_Disk_Boot.l4 (K : Value → Hp → Prop) : Nat → Option Addr → Option Addr → Nat → Nat → Option Addr → Nat → Nat → Int → Int → Hp → Prop
  | 0, _, _, _, _, _, _, _, _, _, _ => False
  | k + 1, p2, A3, n3, m3, A4, n4, m4, x1, x2, H =>
    let R4 := W_disk_Disk_Boot.l4 K k
    BIf (decide (x2 < x1)) (ixI x2 n4 (NN A4 fun a2 => Ld H (a2.add (x2.toNat * 1)) fun v3 => DI .i64 v3 fun x3 => BIf (decide (x2 < ((n3 : Nat) : Int))) (ixI x2 n3 (NN A3 fun a3 => Ld H (a3.add (x2.toNat * 1)) fun v4 => DB v4 fun c2 => BIf c2 (NN p2 fun a4 => Ld H ((a4.add 0).add 2) fun v5 => DM v5 fun r1 => NN p2 fun a5 => Ld H (a5.add 9) fun v6 => DM v6 fun r2 => SemV Tryz.prog (Instr.lookup 45 (.map r2) (.int .i64 x3) false) H fun v7 => DS v7 fun s1 => SemK Tryz.prog (Instr.mapUpdate 45 (.map r1) (.int .i64 x3) (.string s1)) H fun _ H2 => R4 p2 A3 n3 m3 A4 n4 m4 x1 (IntKind.i64.wrap (x2 + (1 : Int))) H2) (R4 p2 A3 n3 m3 A4 n4 m4 x1 (IntKind.i64.wrap (x2 + (1 : Int))) H))) (R4 p2 A3 n3 m3 A4 n4 m4 x1 (IntKind.i64.wrap (x2 + (1 : Int))) H))) (NN p2 fun a6 => Ld H (a6.add 9) fun v8 => DM v8 fun r3 => SemK Tryz.prog (Builtin.clear_ #[45] 0 #[.map r3]) H fun v9 H3 => NN p2 fun a7 => St H3 (((a7.add 7).add 0).add 0) (.bool false) fun H4 => K (.int .i64 (0 : Int)) H4)
def W_disk_Disk_Boot (p1 : Option Addr) (A1 : Option Addr) (n1 : Nat) (m1 : Nat) (H : Hp) (K : Value → Hp → Prop) : Prop :=
  NN p1 fun a1 => Ld H ((a1.add 7).add 0) fun v1 => DB v1 fun c1 => BIf (!c1) (K (.int .i64 (5 : Int)) H) (HCalls Tryz.prog 40 #[.pointer p1] H fun v2 H1 => DSl v2 fun A2 n2 m2 => (∃ k, W_disk_Disk_Boot.l4 K k p1 A1 n1 m1 A2 n2 m2 ((n2 : Nat) : Int) (0 : Int) H1))
def W_disk_Disk_Boot.l4.L (K : Value → Hp → Prop) (k : Nat) : Mid := fun E D H =>
  DG (E.get? 0) fun w0 => DP w0 fun p2 => DG (E.get? 1) fun w1 => DSl w1 fun A3 n3 m3 => DG (E.get? 14) fun w14 => DSl w14 fun A4 n4 m4 => DG (E.get? 15) fun w15 => DI .i64 w15 fun x1 => DG (E.get? 16) fun w16 => DI .i64 w16 fun x2 => DNilD D (W_disk_Disk_Boot.l4 K k p2 A3 n3 m3 A4 n4 m4 x1 x2 H)
def W_disk_Disk_Boot.Λ4 (_ : Value → Hp → Prop) (_R4 : Option Addr → Option Addr → Nat → Nat → Option Addr → Nat → Nat → Int → Int → Hp → Prop) : Cuts := Cuts.none (fun i => match Nat.beq i 7 with | true => some ([], [0, 1, 2, 3, 4, 5, 6, 7, 8, 9, 10, 11], 12) | false => none)
def W_disk_Disk_Boot.Λ (K : Value → Hp → Prop) : Cuts := ⟨fun i => none, fun i => match Nat.beq i 4 with | true => some (fun E D H => ∃ k, W_disk_Disk_Boot.l4.L K k E D H) | false => none, (fun i => match Nat.beq i 7 with | true => some ([], [0, 1, 2, 3, 4, 5, 6, 7, 8, 9, 10, 11], 12) | false => none)⟩
theorem W_disk_Disk_Boot.ok (p1 : Option Addr) (A1 : Option Addr) (n1 : Nat) (m1 : Nat) (H : Hp) (K : Value → Hp → Prop) (h : W_disk_Disk_Boot p1 A1 n1 m1 H K) : HCalls Tryz.prog 31 #[.pointer p1, .slice A1 n1 m1] H K :=
  hcalls Tryz.func31 rfl (Nat.le_of_ble_eq_true rfl) (hw_safe (Λ := (W_disk_Disk_Boot.Λ K)) mixWdisk _ _ _ _ _ (Eq.mp (by kernel_rfl) h) (obs_seq obs_region rfl (obs_seq (obs_seq obs_region rfl (obs_cond (obs_seq obs_region rfl obs_ret) obs_skip)) rfl (obs_seq (obs_seq obs_region rfl (obs_block (obs_loop rfl (fun E D H h => by
      refine Safe.loop' (W_disk_Disk_Boot.l4.L K) (fun E D H h => ?_) (fun k E D H h => ?_) E D H h
      · obtain ⟨w0, e0, g1⟩ := DG.out h; obtain ⟨p2, rfl, g2⟩ := DP.out g1; obtain ⟨w1, e1, g3⟩ := DG.out g2; obtain ⟨A3, n3, m3, rfl, g4⟩ := DSl.out g3; obtain ⟨w14, e14, g5⟩ := DG.out g4; obtain ⟨A4, n4, m4, rfl, g6⟩ := DSl.out g5; obtain ⟨w15, e15, g7⟩ := DG.out g6; obtain ⟨x1, rfl, g8⟩ := DI.out g7; obtain ⟨w16, e16, g9⟩ := DG.out g8; obtain ⟨x2, rfl, g10⟩ := DI.out g9; obtain ⟨rfl, h'⟩ := DNilD.out g10; exact h'
      · obtain ⟨w0, e0, g1⟩ := DG.out h
        obtain ⟨p2, rfl, g2⟩ := DP.out g1
        obtain ⟨w1, e1, g3⟩ := DG.out g2
        obtain ⟨A3, n3, m3, rfl, g4⟩ := DSl.out g3
        obtain ⟨w14, e14, g5⟩ := DG.out g4
        obtain ⟨A4, n4, m4, rfl, g6⟩ := DSl.out g5
        obtain ⟨w15, e15, g7⟩ := DG.out g6
        obtain ⟨x1, rfl, g8⟩ := DI.out g7
        obtain ⟨w16, e16, g9⟩ := DG.out g8
        obtain ⟨x2, rfl, g10⟩ := DI.out g9
        obtain ⟨rfl, h'⟩ := DNilD.out g10
        exact (hw_safe (Λ := (W_disk_Disk_Boot.Λ4 K (W_disk_Disk_Boot.l4 K k))) mixWdisk _ _ [(0, .pointer p2), (1, .slice A3 n3 m3), (14, .slice A4 n4 m4), (15, .int .i64 x1), (16, .int .i64 x2)] [] H (Eq.mp (by kernel_rfl) h') (obs_seq obs_region rfl (obs_seq (obs_cond obs_skip obs_exit) rfl (obs_seq (obs_block (obs_seq obs_region rfl (obs_seq obs_region rfl (obs_cond obs_region obs_skip)))) rfl obs_region)))).weaken (EnvLe.cons e0 (EnvLe.cons e1 (EnvLe.cons e14 (EnvLe.cons e15 (EnvLe.cons e16 (EnvLe.nil _)))))) (Hp.le_refl _))))) rfl (obs_seq obs_region rfl (obs_seq obs_region rfl (obs_seq obs_region rfl obs_ret)))))))

-- (*disk.Disk).Dirty
def W_disk_Disk_Dirty (p1 : Option Addr) (H : Hp) (K : Value → Hp → Prop) : Prop :=
  NN p1 fun a1 => Ld H (a1.add 9) fun v1 => DM v1 fun r1 => HCalls Tryz.prog 82 #[.map r1] H fun v2 H1 => HCalls Tryz.prog 81 #[v2] H1 fun v3 H2 => DSl v3 fun A1 n1 m1 => K (.slice A1 n1 m1) H2
def W_disk_Disk_Dirty.Λ (_ : Value → Hp → Prop) : Cuts := Cuts.none (fun _ => none)
theorem W_disk_Disk_Dirty.ok (p1 : Option Addr) (H : Hp) (K : Value → Hp → Prop) (h : W_disk_Disk_Dirty p1 H K) : HCalls Tryz.prog 40 #[.pointer p1] H K :=
  hcalls Tryz.func40 rfl (Nat.le_of_ble_eq_true rfl) (hw_safe (Λ := Cuts.none (fun _ => none)) mixWdisk _ _ _ _ _ (Eq.mp (by kernel_rfl) h) (obs_none _ _ _ _ _))

-- (*disk.Disk).Write
def W_disk_Disk_Write (p1 : Option Addr) (x1 : Int) (A1 : Option Addr) (n1 : Nat) (m1 : Nat) (H : Hp) (K : Value → Hp → Prop) : Prop :=
  HCalls Tryz.prog 83 #[.pointer p1, .int .i64 x1] H fun v1 H1 => DI .i64 v1 fun x2 => BIf (x2 != (0 : Int)) (K (.int .i64 x2) H1) (NN p1 fun a1 => Ld H1 ((a1.add 0).add 1) fun v2 => DI .i64 v2 fun x3 => BIf (((n1 : Nat) : Int) != x3) (K (.int .i64 (19 : Int)) H1) (NN p1 fun a2 => HCalls Tryz.prog 84 #[.pointer (some (a2.add 7))] H1 fun v3 H2 => DB v3 fun c1 => BIf c1 (K (.int .i64 (8 : Int)) H2) (NN p1 fun a3 => Ld H2 (((a3.add 3).add 0).add 1) fun v4 => DI .i64 v4 fun x4 => NN p1 fun a4 => St H2 ((((a4.add 3).add 0).add 1).add 0) (.int .i64 (IntKind.i64.wrap (x4 + (1 : Int)))) fun H3 => NN p1 fun a5 => Ld H3 ((a5.add 3).add 3) fun v5 => DM v5 fun r1 => SemK Tryz.prog (Instr.mapUpdate 48 (.map r1) (.int .i64 x1) (.int .i64 (1 : Int))) H3 fun _ H4 => NN p1 fun a6 => Ld H4 (a6.add 9) fun v6 => DM v6 fun r2 => BsK H4 A1 n1 fun s1 => SemK Tryz.prog (Instr.mapUpdate 45 (.map r2) (.int .i64 x1) (.string s1)) H4 fun _ H5 => K (.int .i64 (0 : Int)) H5)))
def W_disk_Disk_Write.Λ (_ : Value → Hp → Prop) : Cuts := Cuts.none (fun i => match Nat.beq i 10 with | true => some ([], [0, 1, 2, 3, 4, 5, 6], 7) | false => none)
theorem W_disk_Disk_Write.ok (p1 : Option Addr) (x1 : Int) (A1 : Option Addr) (n1 : Nat) (m1 : Nat) (H : Hp) (K : Value → Hp → Prop) (h : W_disk_Disk_Write p1 x1 A1 n1 m1 H K) : HCalls Tryz.prog 42 #[.pointer p1, .int .i64 x1, .slice A1 n1 m1] H K :=
  hcalls Tryz.func42 rfl (Nat.le_of_ble_eq_true rfl) (hw_safe (Λ := Cuts.none (fun i => match Nat.beq i 10 with | true => some ([], [0, 1, 2, 3, 4, 5, 6], 7) | false => none)) mixWdisk _ _ _ _ _ (Eq.mp (by kernel_rfl) h) (obs_none _ _ _ _ _))

-- (*disk.plates).Sectors
def W_disk_plates_Sectors (p1 : Option Addr) (H : Hp) (K : Value → Hp → Prop) : Prop :=
  NN p1 fun a1 => Ld H (a1.add 0) fun v1 => DI .i64 v1 fun x1 => K (.int .i64 x1) H
def W_disk_plates_Sectors.Λ (_ : Value → Hp → Prop) : Cuts := Cuts.none (fun _ => none)
theorem W_disk_plates_Sectors.ok (p1 : Option Addr) (H : Hp) (K : Value → Hp → Prop) (h : W_disk_plates_Sectors p1 H K) : HCalls Tryz.prog 53 #[.pointer p1] H K :=
  hcalls Tryz.func53 rfl (Nat.le_of_ble_eq_true rfl) (hw_safe (Λ := Cuts.none (fun _ => none)) mixWdisk _ _ _ _ _ (Eq.mp (by kernel_rfl) h) (obs_none _ _ _ _ _))

-- (*disk.Disk).Sync
def W_disk_Disk_Sync (p1 : Option Addr) (H : Hp) (K : Value → Hp → Prop) : Prop :=
  NN p1 fun a1 => Ld H ((a1.add 7).add 0) fun v1 => DB v1 fun c1 => BIf c1 (K (.int .i64 (8 : Int)) H) (NN p1 fun a2 => HCalls Tryz.prog 84 #[.pointer (some (a2.add 7))] H fun v2 H1 => DB v2 fun c2 => BIf c2 (K (.int .i64 (8 : Int)) H1) (NN p1 fun a3 => Ld H1 (((a3.add 3).add 0).add 2) fun v3 => DI .i64 v3 fun x1 => NN p1 fun a4 => St H1 ((((a4.add 3).add 0).add 2).add 0) (.int .i64 (IntKind.i64.wrap (x1 + (1 : Int)))) fun H2 => NN p1 fun a5 => Ld H2 ((a5.add 0).add 2) fun v4 => DM v4 fun r1 => NN p1 fun a6 => Ld H2 (a6.add 9) fun v5 => DM v5 fun r2 => HCalls Tryz.prog 99 #[.map r1, .map r2] H2 fun v6 H3 => NN p1 fun a7 => Ld H3 (a7.add 9) fun v7 => DM v7 fun r3 => SemK Tryz.prog (Builtin.clear_ #[45] 0 #[.map r3]) H3 fun v8 H4 => K (.int .i64 (0 : Int)) H4))
def W_disk_Disk_Sync.Λ (_ : Value → Hp → Prop) : Cuts := Cuts.none (fun i => match Nat.beq i 4 with | true => some ([], [0, 1, 2, 3, 4, 5, 6, 7, 8], 9) | false => none)
theorem W_disk_Disk_Sync.ok (p1 : Option Addr) (H : Hp) (K : Value → Hp → Prop) (h : W_disk_Disk_Sync p1 H K) : HCalls Tryz.prog 56 #[.pointer p1] H K :=
  hcalls Tryz.func56 rfl (Nat.le_of_ble_eq_true rfl) (hw_safe (Λ := Cuts.none (fun i => match Nat.beq i 4 with | true => some ([], [0, 1, 2, 3, 4, 5, 6, 7, 8], 9) | false => none)) mixWdisk _ _ _ _ _ (Eq.mp (by kernel_rfl) h) (obs_none _ _ _ _ _))

-- (*disk.Disk).Read
def W_disk_Disk_Read (p1 : Option Addr) (x1 : Int) (H : Hp) (K : Value → Hp → Prop) : Prop :=
  HCalls Tryz.prog 83 #[.pointer p1, .int .i64 x1] H fun v1 H1 => DI .i64 v1 fun x2 => BIf (x2 != (0 : Int)) (K (.tuple #[.slice none 0 0, .int .i64 x2]) H1) (NN p1 fun a1 => HCalls Tryz.prog 84 #[.pointer (some (a1.add 7))] H1 fun v2 H2 => DB v2 fun c1 => BIf c1 (K (.tuple #[.slice none 0 0, .int .i64 (8 : Int)]) H2) (NN p1 fun a2 => Ld H2 (((a2.add 3).add 0).add 0) fun v3 => DI .i64 v3 fun x3 => NN p1 fun a3 => St H2 ((((a3.add 3).add 0).add 0).add 0) (.int .i64 (IntKind.i64.wrap (x3 + (1 : Int)))) fun H3 => NN p1 fun a4 => Ld H3 (a4.add 9) fun v4 => DM v4 fun r1 => SemV Tryz.prog (Instr.lookup 45 (.map r1) (.int .i64 x1) true) H3 fun v5 => DTup v5 fun l1 => DCons l1 fun v6 l2 => DS v6 fun s1 => DCons l2 fun v7 l3 => DB v7 fun c2 => DNil l3 (BIf c2 (StB 5 s1 H3 fun v8 H4 => DSl v8 fun A1 n1 m1 => K (.tuple #[.slice A1 n1 m1, .int .i64 (0 : Int)]) H4) (NN p1 fun a5 => HCalls Tryz.prog 119 #[.pointer (some (a5.add 0)), .int .i64 x1] H3 fun v9 H5 => DSl v9 fun A2 n2 m2 => K (.tuple #[.slice A2 n2 m2, .int .i64 (0 : Int)]) H5))))
def W_disk_Disk_Read.Λ (_ : Value → Hp → Prop) : Cuts := Cuts.none (fun _ => none)
theorem W_disk_Disk_Read.ok (p1 : Option Addr) (x1 : Int) (H : Hp) (K : Value → Hp → Prop) (h : W_disk_Disk_Read p1 x1 H K) : HCalls Tryz.prog 71 #[.pointer p1, .int .i64 x1] H K :=
  hcalls Tryz.func71 rfl (Nat.le_of_ble_eq_true rfl) (hw_safe (Λ := Cuts.none (fun _ => none)) mixWdisk _ _ _ _ _ (Eq.mp (by kernel_rfl) h) (obs_none _ _ _ _ _))

-- (*disk.plates).Size
def W_disk_plates_Size (p1 : Option Addr) (H : Hp) (K : Value → Hp → Prop) : Prop :=
  NN p1 fun a1 => Ld H (a1.add 1) fun v1 => DI .i64 v1 fun x1 => K (.int .i64 x1) H
def W_disk_plates_Size.Λ (_ : Value → Hp → Prop) : Cuts := Cuts.none (fun _ => none)
theorem W_disk_plates_Size.ok (p1 : Option Addr) (H : Hp) (K : Value → Hp → Prop) (h : W_disk_plates_Size p1 H K) : HCalls Tryz.prog 78 #[.pointer p1] H K :=
  hcalls Tryz.func78 rfl (Nat.le_of_ble_eq_true rfl) (hw_safe (Λ := Cuts.none (fun _ => none)) mixWdisk _ _ _ _ _ (Eq.mp (by kernel_rfl) h) (obs_none _ _ _ _ _))

-- (*disk.Disk).check
def W_disk_Disk_check (p1 : Option Addr) (x1 : Int) (H : Hp) (K : Value → Hp → Prop) : Prop :=
  NN p1 fun a1 => Ld H ((a1.add 7).add 0) fun v1 => DB v1 fun c1 => BIf c1 (K (.int .i64 (8 : Int)) H) (BIf (decide (x1 < (0 : Int))) (K (.int .i64 (2 : Int)) H) (NN p1 fun a2 => Ld H ((a2.add 0).add 0) fun v2 => DI .i64 v2 fun x2 => BIf (decide (x1 ≥ x2)) (K (.int .i64 (2 : Int)) H) (K (.int .i64 (0 : Int)) H)))
def W_disk_Disk_check.Λ (_ : Value → Hp → Prop) : Cuts := Cuts.none (fun _ => none)
theorem W_disk_Disk_check.ok (p1 : Option Addr) (x1 : Int) (H : Hp) (K : Value → Hp → Prop) (h : W_disk_Disk_check p1 x1 H K) : HCalls Tryz.prog 83 #[.pointer p1, .int .i64 x1] H K :=
  hcalls Tryz.func83 rfl (Nat.le_of_ble_eq_true rfl) (hw_safe (Λ := Cuts.none (fun _ => none)) mixWdisk _ _ _ _ _ (Eq.mp (by kernel_rfl) h) (obs_none _ _ _ _ _))

-- (*disk.power).burns
def W_disk_power_burns (p1 : Option Addr) (H : Hp) (K : Value → Hp → Prop) : Prop :=
  NN p1 fun a1 => Ld H (a1.add 1) fun v1 => DI .i64 v1 fun x1 => BIf (x1 == (0 : Int)) (K (.bool false) H) (NN p1 fun a2 => Ld H (a2.add 1) fun v2 => DI .i64 v2 fun x2 => NN p1 fun a3 => St H ((a3.add 1).add 0) (.int .i64 (IntKind.i64.wrap (x2 - (1 : Int)))) fun H1 => NN p1 fun a4 => Ld H1 (a4.add 1) fun v3 => DI .i64 v3 fun x3 => NN p1 fun a5 => St H1 ((a5.add 0).add 0) (.bool (x3 == (0 : Int))) fun H2 => NN p1 fun a6 => Ld H2 (a6.add 0) fun v4 => DB v4 fun c1 => K (.bool c1) H2)
def W_disk_power_burns.Λ (_ : Value → Hp → Prop) : Cuts := Cuts.none (fun _ => none)
theorem W_disk_power_burns.ok (p1 : Option Addr) (H : Hp) (K : Value → Hp → Prop) (h : W_disk_power_burns p1 H K) : HCalls Tryz.prog 84 #[.pointer p1] H K :=
  hcalls Tryz.func84 rfl (Nat.le_of_ble_eq_true rfl) (hw_safe (Λ := Cuts.none (fun _ => none)) mixWdisk _ _ _ _ _ (Eq.mp (by kernel_rfl) h) (obs_none _ _ _ _ _))

-- (*disk.plates).get
def W_disk_plates_get (p1 : Option Addr) (x1 : Int) (H : Hp) (K : Value → Hp → Prop) : Prop :=
  NN p1 fun a1 => Ld H (a1.add 1) fun v1 => DI .i64 v1 fun x2 => MkS Tryz.prog 5 x2 x2 H fun v2 H1 => DSl v2 fun A1 n1 m1 => NN p1 fun a2 => Ld H1 (a2.add 2) fun v3 => DM v3 fun r1 => SemV Tryz.prog (Instr.lookup 45 (.map r1) (.int .i64 x1) false) H1 fun v4 => DS v4 fun s1 => CpK Tryz.prog 5 (.slice A1 n1 m1) (.string s1) H1 fun v5 H2 => DI .i64 v5 fun x3 => K (.slice A1 n1 m1) H2
def W_disk_plates_get.Λ (_ : Value → Hp → Prop) : Cuts := Cuts.none (fun _ => none)
theorem W_disk_plates_get.ok (p1 : Option Addr) (x1 : Int) (H : Hp) (K : Value → Hp → Prop) (h : W_disk_plates_get p1 x1 H K) : HCalls Tryz.prog 119 #[.pointer p1, .int .i64 x1] H K :=
  hcalls Tryz.func119 rfl (Nat.le_of_ble_eq_true rfl) (hw_safe (Λ := Cuts.none (fun _ => none)) mixWdisk _ _ _ _ _ (Eq.mp (by kernel_rfl) h) (obs_none _ _ _ _ _))

end Go.Proofs.YtlgpappgnndgiaaGreatDoor.W

end
section
/-! DskA -/
/- A disk as a part of memory: contracts of its functions. -/
set_option maxRecDepth 100000
set_option linter.unusedSimpArgs false
set_option linter.unusedVariables false
set_option linter.unnecessarySimpa false
set_option linter.unusedSectionVars false
namespace Go.Proofs.YtlgpappgnndgiaaGreatDoor.Dsk
open Go Go.Hw Go.Proofs.YtlgpappgnndgiaaGreatDoor.W

/-- What a disk is. -/
structure D where
  sec : Nat
  size : Nat
  safe : Int → Option (List UInt8)
  cache : Int → Option (List UInt8)
  tch : Int → Bool
  rd : Nat
  wr : Nat
  sy : Nat
  down : Bool
  fuse : Nat

def strV (l : List UInt8) : Value := .string ⟨l.toArray⟩
def strM (m : Int → Option (List UInt8)) : Int → Option Value := fun k => (m k).map strV
def tchM (m : Int → Bool) : Int → Option Value := fun k => if m k then some (.int .i64 1) else none
def dskO (d : D) (r1 r2 r3 : Nat) : AO := .obj (.cells #[.int .i64 d.sec, .int .i64 d.size, .map (some r1), .int .i64 d.rd, .int .i64 d.wr, .int .i64 d.sy, .map (some r2), .bool d.down, .int .i64 d.fuse, .map (some r3)] 54)

structure Ok (d : D) : Prop where
  sec : 1 ≤ d.sec ∧ d.sec ≤ 1048576
  size : 32 ≤ d.size ∧ d.size ≤ 4096
  big : d.sec * d.size ≤ 67108864
  per : d.size % 8 = 0
  safe : ∀ k b, d.safe k = some b → b.length = d.size
  cache : ∀ k b, d.cache k = some b → b.length = d.size
  fz : d.fuse ≤ 9223372036854775807

/-- A disk in memory. -/
def Dk (p : Nat) (d : D) : As := fun H => ∃ r1 r2 r3, Sep [pts p (dskO d r1 r2 r3), Mp r1 (strM d.safe), Mp r2 (tchM d.tch), Mp r3 (strM d.cache)] H

theorem Dk.up {p : Nat} {d : D} {H H' : Hp} (h : Dk p d H) (k : H.le H') : Dk p d H' := by
  obtain ⟨r1, r2, r3, h⟩ := h
  exact ⟨r1, r2, r3, h.up k⟩

theorem Sep.fold {M L : List As} {A : As} {H : Hp} (h : Sep (M ++ L) H) (k : ∀ H1, Sep M H1 → A H1) : Sep (A :: L) H := by
  obtain ⟨H1, H2, h1, h2, h3, h4, h5⟩ := h.append
  exact ⟨H1, H2, h1, h2, h3, k H1 h4, h5⟩

/-- A disk, opened. -/
theorem Dk.open {p : Nat} {d : D} {L : List As} {H : Hp} (h : Sep (Dk p d :: L) H) : ∃ r1 r2 r3, Sep (pts p (dskO d r1 r2 r3) :: Mp r1 (strM d.safe) :: Mp r2 (tchM d.tch) :: Mp r3 (strM d.cache) :: L) H := by
  obtain ⟨H1, H2, h1, h2, h3, ⟨r1, r2, r3, h4⟩, h5⟩ := h
  exact ⟨r1, r2, r3, Sep.join h1 h2 h3 h4 h5⟩
theorem Dk.shut {p : Nat} {d : D} {r1 r2 r3 : Nat} {L : List As} {H : Hp} (h : Sep (pts p (dskO d r1 r2 r3) :: Mp r1 (strM d.safe) :: Mp r2 (tchM d.tch) :: Mp r3 (strM d.cache) :: L) H) : Sep (Dk p d :: L) H :=
  Sep.fold (M := [pts p (dskO d r1 r2 r3), Mp r1 (strM d.safe), Mp r2 (tchM d.tch), Mp r3 (strM d.cache)]) h fun H1 h1 => ⟨r1, r2, r3, h1⟩

theorem Dk.see {p : Nat} {d : D} {L : List As} {H : Hp} (h : Sep L H) (i : Nat) (hi : L[i]? = some (Dk p d)) : ∃ r1 r2 r3, H p = some (dskO d r1 r2 r3) := by
  obtain ⟨H1, ⟨r1, r2, r3, h1⟩, hle⟩ := h.see i hi
  exact ⟨r1, r2, r3, hle _ _ (h1.get 0 rfl)⟩

section
variable {L : List As} {H : Hp} {p : Nat} {d : D}
theorem Sectors_s (h : Sep L H) (i : Nat) (hi : L[i]? = some (Dk p d)) : HCalls Tryz.prog 53 #[.pointer (some ⟨p, 0, none⟩)] H (RetE (.int .i64 (d.sec : Int)) H) := by
  obtain ⟨r1, r2, r3, hd⟩ := Dk.see h i hi
  apply W_disk_plates_Sectors.ok
  unfold W_disk_plates_Sectors
  simp only [NN_some, Addr.add_lit', Addr.add_zero, Nat.zero_add, Nat.add_zero]
  refine Ld_obj hd (v := .int .i64 d.sec) rfl ?_
  simp only [DI_int', DB_bool, DS_string, DP_pointer, DSl_slice, DM_map, DA_agg, DTup_tuple, DCons_cons, DNil_nil, NN_some, BIf_true, BIf_false, BIf_same, List.toList_toArray, Bool.not_true, Bool.not_false]
  exact RetE.mk _ _
theorem Size_s (h : Sep L H) (i : Nat) (hi : L[i]? = some (Dk p d)) : HCalls Tryz.prog 78 #[.pointer (some ⟨p, 0, none⟩)] H (RetE (.int .i64 (d.size : Int)) H) := by
  obtain ⟨r1, r2, r3, hd⟩ := Dk.see h i hi
  apply W_disk_plates_Size.ok
  unfold W_disk_plates_Size
  simp only [NN_some, Addr.add_lit', Addr.add_zero, Nat.zero_add, Nat.add_zero]
  refine Ld_obj hd (v := .int .i64 d.size) rfl ?_
  simp only [DI_int', DB_bool, DS_string, DP_pointer, DSl_slice, DM_map, DA_agg, DTup_tuple, DCons_cons, DNil_nil, NN_some, BIf_true, BIf_false, BIf_same, List.toList_toArray, Bool.not_true, Bool.not_false]
  exact RetE.mk _ _
theorem Down_s (h : Sep L H) (i : Nat) (hi : L[i]? = some (Dk p d)) : HCalls Tryz.prog 29 #[.pointer (some ⟨p, 7, none⟩)] H (RetE (.bool d.down) H) := by
  obtain ⟨r1, r2, r3, hd⟩ := Dk.see h i hi
  apply W_disk_power_Down.ok
  unfold W_disk_power_Down
  simp only [NN_some, Addr.add_lit', Addr.add_zero, Nat.zero_add, Nat.add_zero]
  refine Ld_obj hd (v := .bool d.down) rfl ?_
  simp only [DI_int', DB_bool, DS_string, DP_pointer, DSl_slice, DM_map, DA_agg, DTup_tuple, DCons_cons, DNil_nil, NN_some, BIf_true, BIf_false, BIf_same, List.toList_toArray, Bool.not_true, Bool.not_false]
  exact RetE.mk _ _
theorem Count_s (h : Sep L H) (i : Nat) (hi : L[i]? = some (Dk p d)) : HCalls Tryz.prog 14 #[.pointer (some ⟨p, 3, none⟩)] H (RetE (.agg #[.int .i64 (d.rd : Int), .int .i64 (d.wr : Int), .int .i64 (d.sy : Int)]) H) := by
  obtain ⟨r1, r2, r3, hd⟩ := Dk.see h i hi
  apply HCalls.ret
  apply W_disk_counts_Count.ok
  unfold W_disk_counts_Count
  refine (Sep.start H).nw fun b1 H' hs => ?_
  simp only [NN_some, Addr.add_lit', Addr.add_zero, Nat.zero_add, Nat.add_zero]
  refine LdA_at (hs.ow 0 rfl _ _ hd) (off := 3) (n := 3) (by show 3 + 3 ≤ 10; omega) ?_
  refine hs.stw 1 rfl rfl rfl rfl fun H' hs => ?_
  refine hs.ldw 1 rfl rfl ?_
  exact hs.fin 0 rfl _

/-- What is wrong with a sector. -/
def D.chk (d : D) (i : Int) : Int := if d.down then 8 else if i < 0 ∨ i ≥ d.sec then 2 else 0

theorem check_s (h : Sep L H) (i : Nat) (hi : L[i]? = some (Dk p d)) (x : Int) : HCalls Tryz.prog 83 #[.pointer (some ⟨p, 0, none⟩), .int .i64 x] H (RetE (.int .i64 (d.chk x)) H) := by
  obtain ⟨r1, r2, r3, hd⟩ := Dk.see h i hi
  apply W_disk_Disk_check.ok
  unfold W_disk_Disk_check
  simp only [NN_some, Addr.add_lit', Addr.add_zero, Nat.zero_add, Nat.add_zero]
  refine Ld_obj hd (v := .bool d.down) rfl ?_
  simp only [DI_int', DB_bool, DS_string, DP_pointer, DSl_slice, DM_map, DA_agg, DTup_tuple, DCons_cons, DNil_nil, NN_some, BIf_true, BIf_false, BIf_same, List.toList_toArray, Bool.not_true, Bool.not_false]
  unfold D.chk
  cases d.down with
  | true => exact RetE.mk _ _
  | false =>
    simp only [DI_int', DB_bool, DS_string, DP_pointer, DSl_slice, DM_map, DA_agg, DTup_tuple, DCons_cons, DNil_nil, NN_some, BIf_true, BIf_false, BIf_same, List.toList_toArray, Bool.not_true, Bool.not_false]
    rw [if_neg (by simp)]
    by_cases h1 : x < 0
    · rw [if_pos (.inl h1)]; exact BIf_dpos h1 (RetE.mk _ _)
    · refine BIf_dneg h1 ?_
      refine Ld_obj hd (v := .int .i64 d.sec) rfl ?_
      simp only [DI_int', DB_bool, DS_string, DP_pointer, DSl_slice, DM_map, DA_agg, DTup_tuple, DCons_cons, DNil_nil, NN_some, BIf_true, BIf_false, BIf_same, List.toList_toArray, Bool.not_true, Bool.not_false]
      by_cases h2 : x ≥ d.sec
      · rw [if_pos (.inr h2)]; exact BIf_dpos h2 (RetE.mk _ _)
      · rw [if_neg (by omega)]; exact BIf_dneg h2 (RetE.mk _ _)
end

/-- An operation is counted down. -/
def D.burnt (d : D) : D := if d.fuse = 0 then d else { d with fuse := d.fuse - 1, down := decide (d.fuse = 1) }
def D.burns (d : D) : Bool := decide (d.fuse = 1)

theorem burns_tr {p : Nat} {d : D} (hf : d.fuse ≤ 9223372036854775807) : Tr Tryz.prog 84 #[.pointer (some ⟨p, 7, none⟩)] [Dk p d] fun v M => v = .bool d.burns ∧ M = [Dk p d.burnt] := fun H hs => by
  obtain ⟨r1, r2, r3, hs⟩ := Dk.open hs
  apply W_disk_power_burns.ok
  unfold W_disk_power_burns
  simp only [NN_some, Addr.add_lit', Addr.add_zero, Nat.zero_add, Nat.add_zero]
  refine hs.ld 0 rfl rfl ?_
  simp only [DI_int', DB_bool, DS_string, DP_pointer, DSl_slice, DM_map, DA_agg, DTup_tuple, DCons_cons, DNil_nil, NN_some, BIf_true, BIf_false, BIf_same, List.toList_toArray, Bool.not_true, Bool.not_false]
  by_cases h0 : d.fuse = 0
  · refine BIf_beqp (by omega) ⟨_, ⟨?_, rfl⟩, ?_⟩
    · unfold D.burns; rw [h0]; rfl
    · have : d.burnt = d := by unfold D.burnt; rw [if_pos h0]
      rw [this]; exact Dk.shut hs
  · refine BIf_beqn (by omega) ?_
    refine hs.ld 0 rfl rfl ?_
    simp only [DI_int', DB_bool, DS_string, DP_pointer, DSl_slice, DM_map, DA_agg, DTup_tuple, DCons_cons, DNil_nil, NN_some, BIf_true, BIf_false, BIf_same, List.toList_toArray, Bool.not_true, Bool.not_false]
    refine hs.st 0 rfl (by show 8 < 10; omega) rfl fun H hs => ?_
    refine hs.ld 0 rfl rfl ?_
    simp only [DI_int', DB_bool, DS_string, DP_pointer, DSl_slice, DM_map, DA_agg, DTup_tuple, DCons_cons, DNil_nil, NN_some, BIf_true, BIf_false, BIf_same, List.toList_toArray, Bool.not_true, Bool.not_false]
    rw [i64w (x := (d.fuse : Int) - 1) (by omega) (by omega)] at hs ⊢
    refine hs.st 0 rfl (by show 7 < 10; omega) rfl fun H hs => ?_
    refine hs.ld 0 rfl rfl ?_
    simp only [DI_int', DB_bool, DS_string, DP_pointer, DSl_slice, DM_map, DA_agg, DTup_tuple, DCons_cons, DNil_nil, NN_some, BIf_true, BIf_false, BIf_same, List.toList_toArray, Bool.not_true, Bool.not_false]
    have e : ((d.fuse : Int) - 1 == 0) = d.burns := by
      unfold D.burns
      by_cases h1 : d.fuse = 1
      · simp [h1]
      · rw [decide_eq_false h1]; simp; omega
    rw [e] at hs ⊢
    refine ⟨_, ⟨rfl, rfl⟩, ?_⟩
    have hb : d.burnt = { d with fuse := d.fuse - 1, down := d.burns } := by unfold D.burnt; rw [if_neg h0]; rfl
    rw [hb]
    refine Dk.shut (r1 := r1) (r2 := r2) (r3 := r3) ?_
    have ef : ((d.fuse - 1 : Nat) : Int) = (d.fuse : Int) - 1 := by omega
    unfold dskO
    simp only [ef]
    exact hs

end Go.Proofs.YtlgpappgnndgiaaGreatDoor.Dsk

end
section
/-! DskB -/
/- disk: New, Read, Write, Sync. -/
set_option maxRecDepth 100000
set_option linter.unusedSimpArgs false
set_option linter.unusedVariables false
set_option linter.unnecessarySimpa false
set_option linter.unusedSectionVars false

namespace Go.Proofs.YtlgpappgnndgiaaGreatDoor.Dsk
open Go Go.Hw Go.Proofs.YtlgpappgnndgiaaGreatDoor.W

theorem u_int : Tryz.prog.underlying 3 = some (.int .i64) := by kernel_rfl
theorem u_strm : Tryz.prog.underlying 45 = some (.map 3 9) := by kernel_rfl
theorem u_intm : Tryz.prog.underlying 48 = some (.map 3 3) := by kernel_rfl
theorem z_str : ∃ j, Tryz.prog.info? 9 = some j ∧ j.zero = some (.string ByteArray.empty) := by
  have h : (Tryz.prog.info? 9).map (·.zero) = some (some (.string ByteArray.empty)) := by kernel_rfl
  obtain ⟨j, hj, h2⟩ := Option.map_eq_some_iff.1 h
  exact ⟨j, hj, h2⟩
theorem c_u8 : cellInfo Tryz.prog 5 = some (1, 1, some #[.int .u8 0]) := by kernel_rfl

def D.fresh (sec size : Nat) : D := ⟨sec, size, fun _ => none, fun _ => none, fun _ => false, 0, 0, 0, false, 0⟩
/-- A sector's bytes, as they are safe, and as they are read. -/
def D.sat (d : D) (i : Int) : List UInt8 := (d.safe i).getD (List.replicate d.size 0)
def D.now (d : D) (i : Int) : List UInt8 := (d.cache i).getD (d.sat i)

theorem Ok.sat {d : D} (h : Ok d) (i : Int) : (d.sat i).length = d.size := by
  unfold D.sat
  cases e : d.safe i with
  | none => simp
  | some b => exact h.safe i b e
theorem Ok.now {d : D} (h : Ok d) (i : Int) : (d.now i).length = d.size := by
  unfold D.now
  cases e : d.cache i with
  | none => exact h.sat i
  | some b => exact h.cache i b e
theorem Ok.burnt {d : D} (h : Ok d) : Ok d.burnt := by
  unfold D.burnt
  split
  · exact h
  · exact ⟨h.sec, h.size, h.big, h.per, h.safe, h.cache, Nat.le_trans (Nat.sub_le _ _) h.fz⟩
theorem Ok.fresh {sec size : Nat} (h1 : 1 ≤ sec ∧ sec ≤ 1048576) (h2 : 0 < Lay.perN size) (h3 : sec * size ≤ 67108864) : Ok (D.fresh sec size) := by
  have h : size = 32 ∨ size = 64 ∨ size = 128 ∨ size = 256 ∨ size = 512 ∨ size = 1024 ∨ size = 2048 ∨ size = 4096 := by
    unfold Lay.perN at h2
    repeat' split at h2
    all_goals omega
  refine ⟨h1, ?_, h3, ?_, fun k b h => (by cases h), fun k b h => (by cases h), Nat.zero_le _⟩
  · show 32 ≤ size ∧ size ≤ 4096; omega
  · show size % 8 = 0; omega

theorem New_tr (sec size : Nat) (h1 : 1 ≤ sec ∧ sec ≤ 1048576) (h2 : 0 < Lay.perN size) (h3 : sec * size ≤ 67108864) : Tr Tryz.prog 23 #[.int .i64 sec, .int .i64 size] [] fun v M => ∃ p, v = .pointer (some ⟨p, 0, none⟩) ∧ M = [Dk p (D.fresh sec size)] := fun H hs => by
  apply W_disk_New.ok
  unfold W_disk_New
  have h32 : ¬ ((size : Int) < 32) := fun h => by rw [Lay.perN_small h] at h2; omega
  have h40 : ¬ ((size : Int) > 4096) := fun h => by rw [Lay.perN_great h] at h2; omega
  refine BIf_dneg (by omega) (BIf_dneg (by omega) (BIf_dneg h32 (BIf_dneg h40 ?_)))
  have ht := List.all_eq_true.1 Lay.pow_table size (by simp; omega)
  rw [if_pos (by omega)] at ht
  rw [show ((size : Int) - 1) = ((size - 1 : Nat) : Int) by omega, i64w (by omega) (by omega), Lay.bAnd_nat (by omega) (by omega)]
  split at ht
  · rename_i h4
    simp only [beq_iff_eq] at h4
    rw [h4]
    refine BIf_bnen rfl ⟨by omega, rfl, ?_⟩
    rw [show Int.tdiv 67108864 (size : Int) = ((67108864 / size : Nat) : Int) from rfl]
    have hd : sec ≤ 67108864 / size := (Nat.le_div_iff_mul_le (by omega)).2 h3
    have hle : 67108864 / size ≤ 67108864 := Nat.div_le_self _ _
    rw [i64n (by omega)]
    refine BIf_dneg (by omega) ?_
    refine hs.nw fun b1 H hs => ?_
    have hs := Mp.new hs
    refine hs.nw fun b2 H hs => ?_
    have hs := Mp.new hs
    refine hs.nw fun b3 H hs => ?_
    have hs := Mp.new hs
    refine hs.nw fun b4 H hs => ?_
    refine ⟨_, ⟨b4, rfl, rfl⟩, Dk.shut (r1 := b1) (r2 := b2) (r3 := b3) (hs.re [3, 0, 1, 2] rfl)⟩
  · simp only [beq_iff_eq] at ht
    omega

theorem New_no (sec size : Int) (h : sec < 1 ∨ sec > 1048576 ∨ Lay.perN size = 0) (H : Hp) : HCalls Tryz.prog 23 #[.int .i64 sec, .int .i64 size] H (RetE (.pointer none) H) := by
  apply W_disk_New.ok
  unfold W_disk_New
  rw [BIf_decide, BIf_decide, BIf_decide, BIf_decide]
  split
  · exact RetE.mk _ _
  split
  · exact RetE.mk _ _
  split
  · exact RetE.mk _ _
  split
  · exact RetE.mk _ _
  obtain ⟨n, rfl⟩ := Int.eq_ofNat_of_zero_le (show 0 ≤ size by omega)
  have ht := List.all_eq_true.1 Lay.pow_table n (by simp; omega)
  rw [if_pos (by omega)] at ht
  rw [show ((n : Int) - 1) = ((n - 1 : Nat) : Int) by omega, i64w (by omega) (by omega), Lay.bAnd_nat (by omega) (by omega)]
  split at ht
  · simp only [Bool.and_eq_true, bne_iff_ne] at ht
    omega
  · rename_i h4
    simp only [beq_iff_eq] at h4
    exact BIf_bnep (by omega) (RetE.mk _ _)

theorem get_tr {p : Nat} {d : D} (hok : Ok d) (i : Int) : Tr Tryz.prog 119 #[.pointer (some ⟨p, 0, none⟩), .int .i64 i] [Dk p d] fun v M => ∃ b, v = .slice (some ⟨b, 0, none⟩) d.size d.size ∧ M = [Dk p d, pts b (.row (byteVals (d.sat i)) 5 d.size)] := fun H hs => by
  obtain ⟨r1, r2, r3, hs⟩ := Dk.open hs
  obtain ⟨jz, hz1, hz2⟩ := z_str
  have hsz := hok.size
  apply W_disk_plates_get.ok
  unfold W_disk_plates_get
  simp only [NN_some, Addr.add_lit', Addr.add_zero, Nat.zero_add, Nat.add_zero]
  refine hs.ld 0 rfl rfl ?_
  simp only [DI_int', DB_bool, DS_string, DP_pointer, DSl_slice, DM_map, DA_agg, DTup_tuple, DCons_cons, DNil_nil, NN_some, BIf_true, BIf_false, BIf_same, List.toList_toArray, Bool.not_true, Bool.not_false]
  refine hs.mks c_u8 rfl (n := d.size) (m := d.size) rfl rfl (Nat.le_refl _) (by omega) (by omega) fun b H hs => ?_
  simp only [DI_int', DB_bool, DS_string, DP_pointer, DSl_slice, DM_map, DA_agg, DTup_tuple, DCons_cons, DNil_nil, NN_some, BIf_true, BIf_false, BIf_same, List.toList_toArray, Bool.not_true, Bool.not_false]
  refine hs.ld 0 rfl rfl ?_
  simp only [DI_int', DB_bool, DS_string, DP_pointer, DSl_slice, DM_map, DA_agg, DTup_tuple, DCons_cons, DNil_nil, NN_some, BIf_true, BIf_false, BIf_same, List.toList_toArray, Bool.not_true, Bool.not_false]
  obtain ⟨H1, ⟨l, clock, hr1, hgk⟩, hle⟩ := hs.see 1 rfl
  refine lookupK u_int u_strm hz1 hz2 (hle _ _ hr1) false ?_
  rw [hgk.get]
  have e : ∀ bs : List UInt8, (bs.length = d.size ∨ bs = []) → setAt (zeroRow [.int .u8 0] d.size) 0 (byteVals bs) = byteVals (if bs = [] then List.replicate d.size 0 else bs) := fun bs hb => by
    rw [zeroRow_one]
    rcases hb with hb | rfl
    · rw [setAt_all (by rw [byteVals_length, List.length_replicate]; exact hb), if_neg (fun e => by rw [e] at hb; simp at hb; omega)]
    · rw [show byteVals [] = [] from rfl, setAt_nil, if_pos rfl]
      simp [byteVals]
  have fin : ∀ bs : List UInt8, (bs.length = d.size ∨ bs = []) → (if bs = [] then List.replicate d.size 0 else bs) = d.sat i →
      CpK Tryz.prog 5 (.slice (some ⟨b, 0, none⟩) d.size d.size) (.string ⟨bs.toArray⟩) H fun v5 H2 => DI .i64 v5 fun x3 => ∃ M, (∃ b', (.slice (some ⟨b, 0, none⟩) d.size d.size : Value) = .slice (some ⟨b', 0, none⟩) d.size d.size ∧ M = [Dk p d, pts b' (.row (byteVals (d.sat i)) 5 d.size)]) ∧ Sep M H2 := fun bs hb hsat => by
    have hlb : bs.length ≤ d.size := by rcases hb with hb | rfl <;> simp_all
    refine hs.cp 4 (k := bs.length) (ys := byteVals bs) rfl c_u8 rfl ?_ (by rw [byteVals_length, zeroRow_length]; simp; omega) (fun y hy => ?_) fun H hs => ?_
    · rw [show Nat.min bs.length d.size = bs.length from Nat.min_eq_left hlb]
      show some (byteVals ((⟨bs.toArray⟩ : ByteArray).extract 0 bs.length).data.toList) = _
      congr 2
      simp [ByteArray.extract, ByteArray.copySlice]
    · obtain ⟨x, _, rfl⟩ := List.mem_map.1 hy; rfl
    · simp only [DI_int', DB_bool, DS_string, DP_pointer, DSl_slice, DM_map, DA_agg, DTup_tuple, DCons_cons, DNil_nil, NN_some, BIf_true, BIf_false, BIf_same, List.toList_toArray, Bool.not_true, Bool.not_false]
      refine ⟨_, ⟨b, rfl, rfl⟩, ?_⟩
      rw [e bs hb, hsat, Nat.mul_one] at hs
      exact Dk.shut (hs.re [0, 1, 2, 3, 4] rfl)
  unfold strM
  cases hsf : d.safe i with
  | none =>
    exact fin [] (.inr rfl) (by unfold D.sat; rw [hsf]; rfl)
  | some bs =>
    have := hok.safe i bs hsf
    exact fin bs (.inl this) (by unfold D.sat; rw [hsf, if_neg (fun e => by rw [e] at this; simp at this; omega)]; rfl)

/-- What a read answers. -/
def readQ (p : Nat) (d : D) (i : Int) (v : Value) (M : List As) : Prop :=
  (d.chk i ≠ 0 ∧ v = .tuple #[.slice none 0 0, .int .i64 (d.chk i)] ∧ M = [Dk p d]) ∨
  (d.chk i = 0 ∧ d.burns = true ∧ v = .tuple #[.slice none 0 0, .int .i64 8] ∧ M = [Dk p d.burnt]) ∨
  (d.chk i = 0 ∧ d.burns = false ∧ ∃ b c m, v = .tuple #[.slice (some ⟨b, 0, none⟩) d.size c, .int .i64 0] ∧ d.size ≤ c ∧ M = [Dk p { d.burnt with rd := d.rd + 1 }, pts b (.row (byteVals (d.now i)) 5 m)])

theorem burnt_rd (d : D) : d.burnt.rd = d.rd ∧ d.burnt.wr = d.wr ∧ d.burnt.sy = d.sy ∧ d.burnt.size = d.size ∧ d.burnt.sec = d.sec ∧ d.burnt.safe = d.safe ∧ d.burnt.cache = d.cache ∧ d.burnt.tch = d.tch := by
  unfold D.burnt; split <;> simp

theorem Read_tr {p : Nat} {d : D} (hok : Ok d) (ho : d.rd ≤ 4611686018427387904) (i : Int) : Tr Tryz.prog 71 #[.pointer (some ⟨p, 0, none⟩), .int .i64 i] [Dk p d] (readQ p d i) := fun H hs => by
  obtain ⟨jz, hz1, hz2⟩ := z_str
  have hsz := hok.size
  have hf := hok.fz
  apply W_disk_Disk_Read.ok
  unfold W_disk_Disk_Read
  simp only [NN_some, Addr.add_lit', Addr.add_zero, Nat.zero_add, Nat.add_zero]
  refine HCalls.use (check_s hs 0 rfl i) ?_
  try simp only [DI_int', DB_bool, DS_string, DP_pointer, DSl_slice, DM_map, DA_agg, DTup_tuple, DCons_cons, DNil_nil, NN_some, BIf_true, BIf_false, BIf_same, List.toList_toArray, Bool.not_true, Bool.not_false]
  by_cases hc : d.chk i = 0
  · refine BIf_bnen hc ?_
    refine (burns_tr hf).use hs [0] rfl rfl ?_
    rintro _ _ H ⟨rfl, rfl⟩ hs
    simp only [DI_int', DB_bool, DS_string, DP_pointer, DSl_slice, DM_map, DA_agg, DTup_tuple, DCons_cons, DNil_nil, NN_some, BIf_true, BIf_false, BIf_same, List.toList_toArray, Bool.not_true, Bool.not_false]
    cases hb : d.burns with
    | true => exact ⟨_, .inr (.inl ⟨hc, hb, rfl, rfl⟩), hs⟩
    | false =>
      simp only [DI_int', DB_bool, DS_string, DP_pointer, DSl_slice, DM_map, DA_agg, DTup_tuple, DCons_cons, DNil_nil, NN_some, BIf_true, BIf_false, BIf_same, List.toList_toArray, Bool.not_true, Bool.not_false]
      have hbr := burnt_rd d
      obtain ⟨r1, r2, r3, hs⟩ := Dk.open (L := []) hs
      refine hs.ld 0 rfl rfl ?_
      simp only [DI_int', DB_bool, DS_string, DP_pointer, DSl_slice, DM_map, DA_agg, DTup_tuple, DCons_cons, DNil_nil, NN_some, BIf_true, BIf_false, BIf_same, List.toList_toArray, Bool.not_true, Bool.not_false]
      refine hs.st 0 rfl (by show 3 < 10; omega) rfl fun H hs => ?_
      rw [hbr.1] at hs
      rw [i64w (x := (d.rd : Int) + 1) (by omega) (by omega)] at hs
      refine hs.ld 0 rfl rfl ?_
      simp only [DI_int', DB_bool, DS_string, DP_pointer, DSl_slice, DM_map, DA_agg, DTup_tuple, DCons_cons, DNil_nil, NN_some, BIf_true, BIf_false, BIf_same, List.toList_toArray, Bool.not_true, Bool.not_false]
      have hs : Sep [pts p (dskO { d.burnt with rd := d.rd + 1 } r1 r2 r3), Mp r1 (strM d.burnt.safe), Mp r2 (tchM d.burnt.tch), Mp r3 (strM d.burnt.cache)] H := hs
      obtain ⟨H1, ⟨l, clock, hr1, hgk⟩, hle⟩ := hs.see 3 rfl
      refine lookupK u_int u_strm hz1 hz2 (hle _ _ hr1) true ?_
      rw [hgk.get, hbr.2.2.2.2.2.2.1]
      unfold strM
      cases hcd : d.cache i with
      | some bs =>
        have hl := hok.cache i bs hcd
        simp only [Option.map_some, strV, if_true]
        simp only [DI_int', DB_bool, DS_string, DP_pointer, DSl_slice, DM_map, DA_agg, DTup_tuple, DCons_cons, DNil_nil, NN_some, BIf_true, BIf_false, BIf_same, List.toList_toArray, Bool.not_true, Bool.not_false]
        refine ⟨by show bs.toArray.size ≤ _; simp; omega, fun c hbc => ?_⟩
        refine hs.nw fun b H hs => ?_
        simp only [DI_int', DB_bool, DS_string, DP_pointer, DSl_slice, DM_map, DA_agg, DTup_tuple, DCons_cons, DNil_nil, NN_some, BIf_true, BIf_false, BIf_same, List.toList_toArray, Bool.not_true, Bool.not_false]
        have hsize : ((⟨bs.toArray⟩ : ByteArray).size) = d.size := by show bs.toArray.size = _; simpa using hl
        rw [hsize] at hbc ⊢
        refine ⟨_, .inr (.inr ⟨hc, hb, b, c, c, rfl, hbc, rfl⟩), ?_⟩
        have : d.now i = bs := by unfold D.now; rw [hcd]; rfl
        rw [this]
        exact Dk.shut hs
      | none =>
        simp only [Option.map_none, if_true]
        simp only [DI_int', DB_bool, DS_string, DP_pointer, DSl_slice, DM_map, DA_agg, DTup_tuple, DCons_cons, DNil_nil, NN_some, BIf_true, BIf_false, BIf_same, List.toList_toArray, Bool.not_true, Bool.not_false]
        have hs := Dk.shut (L := []) hs
        have hsat : (D.sat { d.burnt with rd := d.rd + 1 } i) = d.sat i := by unfold D.sat; rw [show ({ d.burnt with rd := d.rd + 1 } : D).safe = d.burnt.safe from rfl, hbr.2.2.2.2.2.1, show ({ d.burnt with rd := d.rd + 1 } : D).size = d.burnt.size from rfl, hbr.2.2.2.1]
        have hok2 : Ok { d.burnt with rd := d.rd + 1 } := ⟨hok.burnt.sec, hok.burnt.size, hok.burnt.big, hok.burnt.per, hok.burnt.safe, hok.burnt.cache, hok.burnt.fz⟩
        refine (get_tr hok2 i).use hs [0] rfl rfl ?_
        rintro _ _ H ⟨b, rfl, rfl⟩ hs
        simp only [DI_int', DB_bool, DS_string, DP_pointer, DSl_slice, DM_map, DA_agg, DTup_tuple, DCons_cons, DNil_nil, NN_some, BIf_true, BIf_false, BIf_same, List.toList_toArray, Bool.not_true, Bool.not_false]
        refine ⟨_, .inr (.inr ⟨hc, hb, b, d.size, d.size, ?_, Nat.le_refl _, rfl⟩), ?_⟩
        · show (Value.tuple #[.slice (some ⟨b, 0, none⟩) d.burnt.size d.burnt.size, .int .i64 0]) = _
          rw [hbr.2.2.2.1]
        · have : d.now i = d.sat i := by unfold D.now; rw [hcd]; rfl
          rw [this, ← hsat]
          have e : ({ d.burnt with rd := d.rd + 1 } : D).size = d.size := hbr.2.2.2.1
          rw [← e]
          exact hs
  · refine BIf_bnep hc ⟨_, .inl ⟨hc, rfl, rfl⟩, hs⟩

def updB (m : Int → Option (List UInt8)) (k : Int) (v : List UInt8) : Int → Option (List UInt8) := fun j => if j = k then some v else m j
def updT (m : Int → Bool) (k : Int) : Int → Bool := fun j => if j = k then true else m j
theorem updB_M (m : Int → Option (List UInt8)) (k : Int) (v : List UInt8) : updM (strM m) k (strV v) = strM (updB m k v) := by
  funext j
  unfold updM strM updB
  split <;> rfl
theorem updT_M (m : Int → Bool) (k : Int) : updM (tchM m) k (.int .i64 1) = tchM (updT m k) := by
  funext j
  unfold updM tchM updT
  split <;> rfl

def D.wrote (d : D) (i : Int) (bs : List UInt8) : D := { d.burnt with wr := d.wr + 1, tch := updT d.tch i, cache := updB d.cache i bs }
/-- What a write answers. -/
def D.writeE (d : D) (i : Int) (n : Nat) : Int := if d.chk i ≠ 0 then d.chk i else if n ≠ d.size then 19 else if d.burns then 8 else 0
def D.writeD (d : D) (i : Int) (bs : List UInt8) : D := if d.chk i ≠ 0 then d else if bs.length ≠ d.size then d else if d.burns then d.burnt else d.wrote i bs

theorem Write_tr {p : Nat} {d : D} (hok : Ok d) (ho : d.wr ≤ 4611686018427387904) (i : Int) (A : Option Addr) (n m : Nat) (bs : List UInt8) (hn : n = bs.length) (R : As) (hR : ∀ H, R H → Cells H A (byteVals bs)) :
    Tr Tryz.prog 42 #[.pointer (some ⟨p, 0, none⟩), .int .i64 i, .slice A n m] [Dk p d, R] fun v M => v = .int .i64 (d.writeE i n) ∧ M = [Dk p (d.writeD i bs), R] := fun H hs => by
  have hf := hok.fz
  have hsz := hok.size
  apply W_disk_Disk_Write.ok
  unfold W_disk_Disk_Write
  simp only [NN_some, Addr.add_lit', Addr.add_zero, Nat.zero_add, Nat.add_zero]
  refine HCalls.use (check_s hs 0 rfl i) ?_
  try simp only [DI_int', DB_bool, DS_string, DP_pointer, DSl_slice, DM_map, DA_agg, DTup_tuple, DCons_cons, DNil_nil, NN_some, BIf_true, BIf_false, BIf_same, List.toList_toArray, Bool.not_true, Bool.not_false]
  by_cases hc : d.chk i = 0
  · refine BIf_bnen hc ?_
    obtain ⟨r1, r2, r3, hd⟩ := Dk.see hs 0 rfl
    refine Ld_obj hd (v := .int .i64 d.size) rfl ?_
    simp only [DI_int', DB_bool, DS_string, DP_pointer, DSl_slice, DM_map, DA_agg, DTup_tuple, DCons_cons, DNil_nil, NN_some, BIf_true, BIf_false, BIf_same, List.toList_toArray, Bool.not_true, Bool.not_false]
    by_cases hnd : n = d.size
    · refine BIf_bnen (by omega) ?_
      have hnl : bs.length = d.size := by omega
      refine (burns_tr hf).use hs [0] rfl rfl ?_
      rintro _ _ H ⟨rfl, rfl⟩ hs
      simp only [DI_int', DB_bool, DS_string, DP_pointer, DSl_slice, DM_map, DA_agg, DTup_tuple, DCons_cons, DNil_nil, NN_some, BIf_true, BIf_false, BIf_same, List.toList_toArray, Bool.not_true, Bool.not_false]
      cases hb : d.burns with
      | true => exact ⟨_, ⟨by simp [D.writeE, hc, hnd, hb], by simp [D.writeD, hc, hnl, hb]; rfl⟩, hs⟩
      | false =>
        simp only [DI_int', DB_bool, DS_string, DP_pointer, DSl_slice, DM_map, DA_agg, DTup_tuple, DCons_cons, DNil_nil, NN_some, BIf_true, BIf_false, BIf_same, List.toList_toArray, Bool.not_true, Bool.not_false]
        have hbr := burnt_rd d
        obtain ⟨r1, r2, r3, hs⟩ := Dk.open hs
        refine hs.ld 0 rfl rfl ?_
        simp only [DI_int', DB_bool, DS_string, DP_pointer, DSl_slice, DM_map, DA_agg, DTup_tuple, DCons_cons, DNil_nil, NN_some, BIf_true, BIf_false, BIf_same, List.toList_toArray, Bool.not_true, Bool.not_false]
        refine hs.st 0 rfl (by show 4 < 10; omega) rfl fun H hs => ?_
        rw [hbr.2.1] at hs
        rw [i64w (x := (d.wr : Int) + 1) (by omega) (by omega)] at hs
        refine hs.ld 0 rfl rfl ?_
        simp only [DI_int', DB_bool, DS_string, DP_pointer, DSl_slice, DM_map, DA_agg, DTup_tuple, DCons_cons, DNil_nil, NN_some, BIf_true, BIf_false, BIf_same, List.toList_toArray, Bool.not_true, Bool.not_false]
        refine hs.upd u_int u_intm 2 rfl fun H hs => ?_
        rw [updT_M, hbr.2.2.2.2.2.2.2] at hs
        refine hs.ld 0 rfl rfl ?_
        simp only [DI_int', DB_bool, DS_string, DP_pointer, DSl_slice, DM_map, DA_agg, DTup_tuple, DCons_cons, DNil_nil, NN_some, BIf_true, BIf_false, BIf_same, List.toList_toArray, Bool.not_true, Bool.not_false]
        obtain ⟨H1, hR1, hle⟩ := hs.see 4 (A := R) rfl
        refine BsK_of ((hR H1 hR1).le hle) hn ?_
        refine hs.upd u_int u_strm 3 rfl fun H hs => ?_
        rw [show (Value.string ⟨bs.toArray⟩) = strV bs from rfl, updB_M, hbr.2.2.2.2.2.2.1] at hs
        refine ⟨_, ⟨by simp [D.writeE, hc, hnd, hb], by simp [D.writeD, hc, hnl, hb]; rfl⟩, ?_⟩
        exact Dk.shut (d := d.wrote i bs) (r1 := r1) (r2 := r2) (r3 := r3) hs
    · refine BIf_bnep (by omega) ?_
      have hnl : bs.length ≠ d.size := by omega
      exact ⟨_, ⟨by simp [D.writeE, hc, hnd], by simp [D.writeD, hc, hnl]⟩, hs⟩
  · refine BIf_bnep hc ?_
    exact ⟨_, ⟨by simp [D.writeE, hc], by simp [D.writeD, hc]⟩, hs⟩

theorem chk_in {d : D} {i : Int} (h : d.chk i = 0) : 0 ≤ i ∧ i < d.sec ∧ d.down = false := by
  unfold D.chk at h
  split at h
  · omega
  · split at h
    · omega
    · rename_i h1 h2
      exact ⟨by omega, by omega, by simpa using h1⟩

end Go.Proofs.YtlgpappgnndgiaaGreatDoor.Dsk

end
section
/-! Lay -/
/- The library's sort and keys of a map, laid at this program (printed by lay.py). -/
set_option maxRecDepth 100000
namespace Go.Proofs.YtlgpappgnndgiaaGreatDoor.Lib
open Go Go.Proofs Go.Shelf Go.RowKit Go.Maps Go.Sort
def sortedI_ren : Go.Shelf.Ren := ⟨fun | 6 => 81 | 8 => 133 | 9 => 134 | 11 => 175 | 13 => 126 | 12 => 176 | 23 => 172 | 24 => 173 | 14 => 209 | 15 => 210 | 16 => 211 | 17 => 212 | 18 => 213 | 19 => 214 | 20 => 215 | 21 => 216 | 22 => 217 | 25 => 242 | 26 => 205 | 27 => 206 | 28 => 243 | 29 => 244 | 30 => 245 | 31 => 270 | n => n, fun | 26 => 3 | 28 => 165 | 24 => 108 | 0 => 0 | 3 => 3 | 37 => 147 | 48 => 40 | 50 => 60 | 4 => 4 | 40 => 267 | 39 => 266 | 45 => 193 | 5 => 5 | 9 => 9 | 51 => 307 | 55 => 311 | 57 => 342 | 58 => 343 | 33 => 209 | n => n, fun | n => n⟩
theorem sortedI : Go.Proofs.SlLaysZI.n6 Tryz.prog sortedI_ren where
  mixed := by kernel_rfl
  f6 := ⟨"slices.Sorted[int]", by decide, Tryz.func81.trans (congrArg some (by kernel_rfl))⟩
  f8 := ⟨"slices.Collect[int]", by decide, Tryz.func133.trans (congrArg some (by kernel_rfl))⟩
  f11 := ⟨"slices.AppendSeq[[]int,int]", by decide, Tryz.func175.trans (congrArg some (by kernel_rfl))⟩
  t0 := Tryz.underlying0
  a0 := Tryz.isAgg0
  z0 := Tryz.sizeOf0
  v0 := Tryz.zeroValue0
  t24 := Tryz.underlying108
  a24 := Tryz.isAgg108
  z24 := Tryz.sizeOf108
  v24 := Tryz.zeroValue108
  t26 := Tryz.underlying3
  a26 := Tryz.isAgg3
  z26 := Tryz.sizeOf3
  v26 := Tryz.zeroValue3
  t28 := Tryz.underlying165
  a28 := Tryz.isAgg165
  z28 := Tryz.sizeOf165
  v28 := Tryz.zeroValue165
  i26 := by kernel_rfl
def sortI_ren : Go.Shelf.Ren := ⟨fun | 5 => 134 | 8 => 126 | 7 => 176 | 19 => 172 | 20 => 173 | 10 => 209 | 11 => 210 | 12 => 211 | 13 => 212 | 14 => 213 | 15 => 214 | 16 => 215 | 17 => 216 | 18 => 217 | 30 => 242 | 31 => 205 | 32 => 206 | 33 => 243 | 34 => 244 | 35 => 245 | 40 => 270 | n => n, fun | 23 => 108 | 25 => 3 | 3 => 3 | 32 => 147 | 22 => 108 | 0 => 0 | 44 => 40 | 46 => 60 | 4 => 4 | 36 => 267 | 35 => 266 | 41 => 193 | 5 => 5 | 9 => 9 | 53 => 307 | 57 => 311 | 63 => 342 | 64 => 343 | n => n, fun | n => n⟩
theorem sortI : Go.Proofs.SlLaysM.n5 Tryz.prog sortI_ren where
  mixed := by kernel_rfl
  f5 := ⟨"slices.Sort[[]int,int]", by decide, Tryz.func134.trans (congrArg some (by kernel_rfl))⟩
  f7 := ⟨"slices.pdqsortOrdered[int]", by decide, Tryz.func176.trans (congrArg some (by kernel_rfl))⟩
  f8 := Tryz.func126.trans (congrArg some (by kernel_rfl))
  f10 := ⟨"slices.insertionSortOrdered[int]", by decide, Tryz.func209.trans (congrArg some (by kernel_rfl))⟩
  f11 := ⟨"slices.heapSortOrdered[int]", by decide, Tryz.func210.trans (congrArg some (by kernel_rfl))⟩
  f12 := ⟨"slices.breakPatternsOrdered[int]", by decide, Tryz.func211.trans (congrArg some (by kernel_rfl))⟩
  f13 := ⟨"slices.choosePivotOrdered[int]", by decide, Tryz.func212.trans (congrArg some (by kernel_rfl))⟩
  f14 := ⟨"slices.reverseRangeOrdered[int]", by decide, Tryz.func213.trans (congrArg some (by kernel_rfl))⟩
  f15 := ⟨"slices.partialInsertionSortOrdered[int]", by decide, Tryz.func214.trans (congrArg some (by kernel_rfl))⟩
  f16 := ⟨"cmp.Less[int]", by decide, Tryz.func215.trans (congrArg some (by kernel_rfl))⟩
  f17 := ⟨"slices.partitionEqualOrdered[int]", by decide, Tryz.func216.trans (congrArg some (by kernel_rfl))⟩
  f18 := ⟨"slices.partitionOrdered[int]", by decide, Tryz.func217.trans (congrArg some (by kernel_rfl))⟩
  f19 := Tryz.func172.trans (congrArg some (by kernel_rfl))
  f20 := Tryz.func173.trans (congrArg some (by kernel_rfl))
  f30 := ⟨"slices.siftDownOrdered[int]", by decide, Tryz.func242.trans (congrArg some (by kernel_rfl))⟩
  f31 := Tryz.func205.trans (congrArg some (by kernel_rfl))
  f32 := Tryz.func206.trans (congrArg some (by kernel_rfl))
  f33 := ⟨"slices.medianAdjacentOrdered[int]", by decide, Tryz.func243.trans (congrArg some (by kernel_rfl))⟩
  f34 := ⟨"slices.medianOrdered[int]", by decide, Tryz.func244.trans (congrArg some (by kernel_rfl))⟩
  f35 := ⟨"cmp.isNaN[int]", by decide, Tryz.func245.trans (congrArg some (by kernel_rfl))⟩
  f40 := ⟨"slices.order2Ordered[int]", by decide, Tryz.func270.trans (congrArg some (by kernel_rfl))⟩
  t0 := Tryz.underlying0
  a0 := Tryz.isAgg0
  z0 := Tryz.sizeOf0
  v0 := Tryz.zeroValue0
  t3 := Tryz.underlying3
  a3 := Tryz.isAgg3
  z3 := Tryz.sizeOf3
  v3 := Tryz.zeroValue3
  t4 := Tryz.underlying4
  a4 := Tryz.isAgg4
  z4 := Tryz.sizeOf4
  v4 := Tryz.zeroValue4
  t5 := Tryz.underlying5
  a5 := Tryz.isAgg5
  z5 := Tryz.sizeOf5
  v5 := Tryz.zeroValue5
  t9 := Tryz.underlying9
  a9 := Tryz.isAgg9
  z9 := Tryz.sizeOf9
  v9 := Tryz.zeroValue9
  t22 := Tryz.underlying108
  a22 := Tryz.isAgg108
  z22 := Tryz.sizeOf108
  v22 := Tryz.zeroValue108
  t23 := Tryz.underlying108
  a23 := Tryz.isAgg108
  z23 := Tryz.sizeOf108
  v23 := Tryz.zeroValue108
  t25 := Tryz.underlying3
  a25 := Tryz.isAgg3
  z25 := Tryz.sizeOf3
  v25 := Tryz.zeroValue3
  t32 := Tryz.underlying147
  a32 := Tryz.isAgg147
  z32 := Tryz.sizeOf147
  v32 := Tryz.zeroValue147
  t35 := Tryz.underlying266
  a35 := Tryz.isAgg266
  z35 := Tryz.sizeOf266
  v35 := Tryz.zeroValue266
  t36 := Tryz.underlying267
  a36 := Tryz.isAgg267
  z36 := Tryz.sizeOf267
  v36 := Tryz.zeroValue267
  t41 := Tryz.underlying193
  a41 := Tryz.isAgg193
  z41 := Tryz.sizeOf193
  v41 := Tryz.zeroValue193
  t44 := Tryz.underlying40
  a44 := Tryz.isAgg40
  z44 := Tryz.sizeOf40
  v44 := Tryz.zeroValue40
  t46 := Tryz.underlying60
  a46 := Tryz.isAgg60
  z46 := Tryz.sizeOf60
  v46 := Tryz.zeroValue60
  t53 := Tryz.underlying307
  a53 := Tryz.isAgg307
  z53 := Tryz.sizeOf307
  v53 := Tryz.zeroValue307
  t57 := Tryz.underlying311
  a57 := Tryz.isAgg311
  z57 := Tryz.sizeOf311
  v57 := Tryz.zeroValue311
  t63 := Tryz.underlying342
  a63 := Tryz.isAgg342
  z63 := Tryz.sizeOf342
  v63 := Tryz.zeroValue342
  t64 := Tryz.underlying343
  a64 := Tryz.isAgg343
  z64 := Tryz.sizeOf343
  v64 := Tryz.zeroValue343
def keys_string_ren : Go.Shelf.Ren := ⟨fun | 7 => 82 | 10 => 135 | n => n, fun | 23 => 45 | 26 => 3 | 3 => 9 | 28 => 165 | 0 => 0 | 27 => 164 | 33 => 209 | 4 => 4 | n => n, fun | n => n⟩
theorem keys_string : Go.Proofs.SlLaysZI.n7 Tryz.prog keys_string_ren where
  mixed := by kernel_rfl
  f7 := ⟨"maps.Keys[map[int]string,int,string]", by decide, Tryz.func82.trans (congrArg some (by kernel_rfl))⟩
  f10 := ⟨"maps.Keys[map[int]string,int,string]$1", by decide, Tryz.func135.trans (congrArg some (by kernel_rfl))⟩
  t0 := Tryz.underlying0
  a0 := Tryz.isAgg0
  z0 := Tryz.sizeOf0
  v0 := Tryz.zeroValue0
  t4 := Tryz.underlying4
  a4 := Tryz.isAgg4
  z4 := Tryz.sizeOf4
  v4 := Tryz.zeroValue4
  t23 := Tryz.underlying45
  a23 := Tryz.isAgg45
  z23 := Tryz.sizeOf45
  v23 := Tryz.zeroValue45
  t26 := Tryz.underlying3
  a26 := Tryz.isAgg3
  z26 := Tryz.sizeOf3
  v26 := Tryz.zeroValue3
  t27 := Tryz.underlying164
  a27 := Tryz.isAgg164
  z27 := Tryz.sizeOf164
  v27 := Tryz.zeroValue164
  t28 := Tryz.underlying165
  a28 := Tryz.isAgg165
  z28 := Tryz.sizeOf165
  v28 := Tryz.zeroValue165
  t33 := Tryz.underlying209
  a33 := Tryz.isAgg209
  z33 := Tryz.sizeOf209
  v33 := Tryz.zeroValue209
-- maps.Keys[map[int]string,int,string]
end Go.Proofs.YtlgpappgnndgiaaGreatDoor.Lib

end
section
/-! HwX -/
/- The frame of the proofs: the library's sorted keys of a map whose keys are ints. -/
set_option maxRecDepth 100000
set_option linter.unusedSimpArgs false
set_option linter.unusedVariables false
set_option linter.unnecessarySimpa false
set_option linter.unusedSectionVars false
namespace Go.Hw
open Go Go.Proofs Go.Proofs.YtlgpappgnndgiaaGreatDoor.Lib Go.RowKit Go.Maps Go.Sort Go.Shelf
open Go.WideElems (Fit rd rg)

theorem nodup_len : ∀ (N : Nat) (l : List Nat), l.Nodup → (∀ x ∈ l, x < N) → l.length ≤ N
  | 0, [], _, _ => by simp
  | 0, x :: _, _, h => absurd (h x (by simp)) (by omega)
  | N + 1, l, hn, h => by
    have := nodup_len N (l.erase N) (hn.erase N) fun x hx => by
      rw [hn.mem_erase_iff] at hx
      have := h x hx.2
      have := hx.1
      omega
    rw [List.length_erase] at this
    split at this <;> omega

/-- The keys of a map, sorted. -/
structure KeysOf (m : Int → Option Value) (ks : List Int) : Prop where
  up : ks.Pairwise (fun a b => a < b)
  mem : ∀ k, k ∈ ks ↔ (m k).isSome = true

theorem okk_len {l : List (Int × Value × Nat)} {clock : Nat} {m : Int → Option Value} (h : OkK l clock m) {N : Nat} (hd : ∀ k, (m k).isSome = true → 0 ≤ k ∧ k < N) : l.length ≤ N ∧ ∀ x ∈ l, 0 ≤ x.1 ∧ x.1 < N := by
  have hmem : ∀ x ∈ l, 0 ≤ x.1 ∧ x.1 < N := fun x hx => by
    apply hd
    rw [← h.get, getK_mem h.nd hx]; rfl
  refine ⟨?_, hmem⟩
  have hn : ((l.map (·.1)).map Int.toNat).Nodup := by
    rw [List.nodup_iff_pairwise_ne, List.pairwise_map]
    have := h.nd
    rw [List.nodup_iff_pairwise_ne] at this
    refine this.imp_of_mem ?_
    intro a b ha hb hne e
    obtain ⟨x, hx, rfl⟩ := List.mem_map.1 ha
    obtain ⟨y, hy, rfl⟩ := List.mem_map.1 hb
    have := hmem x hx
    have := hmem y hy
    omega
  have := nodup_len N _ hn fun x hx => by
    obtain ⟨y, hy, rfl⟩ := List.mem_map.1 hx
    obtain ⟨z, hz, rfl⟩ := List.mem_map.1 hy
    have := hmem z hz
    omega
  simpa using this

def rNo : Value → Option (DataW Unit × List MemPlace) := fun _ => some (.lit (.bool true), [])

theorem okk_fit {P : Program} {k : TypeId} (hk : P.underlying k = some (.int .i64)) {l : List (Int × Value × Nat)} {clock : Nat} {m : Int → Option Value} (h : OkK l clock m) {N : Nat} (hN : N ≤ 1048576) (hd : ∀ k, (m k).isSome = true → 0 ≤ k ∧ k < N) :
    Fit P k rNo (l.map entK).toArray clock ∧ (l.map entK).map (rg P k rNo) = l.map fun x => (Lit.int .i64 x.1, DataW.lit (.bool true)) := by
  obtain ⟨h1, h2⟩ := okk_len h hd
  have hrd : ∀ x ∈ l, rd P k rNo (entK x) = some (Lit.int .i64 x.1, DataW.lit (.bool true)) := fun x hx => by
    have := h2 x hx
    have hw : (Lit.int .i64 x.1).wf = true := by
      have e : (Lit.int .i64 x.1).wf = decide (-9223372036854775808 ≤ x.1 ∧ x.1 ≤ 9223372036854775807) := by
        simp [Lit.wf, IntKind.min, IntKind.max, IntKind.bits, IntKind.signed]
      rw [e, decide_eq_true_eq]; omega
    refine Go.WideElems.rd_mk (yv := (DataW.lit (.bool true), [])) (kl := Lit.int .i64 x.1) ?_ rfl
    simp [keyOf, mapKey, hk, hw]
  refine ⟨⟨?_, ⟨fun x hx => ?_, ?_, ?_⟩, fun x hx => ?_⟩, ?_⟩
  · simp only [List.size_toArray, List.length_map]
    exact Nat.le_trans h1 (Nat.le_trans hN (by decide))
  · obtain ⟨y, hy, rfl⟩ := List.mem_map.1 hx
    exact h.bl y hy
  · have := h.bn
    simpa [List.map_map, Function.comp_def, entK] using this
  · rw [List.map_map]
    have := h.nd
    rw [List.nodup_iff_pairwise_ne, List.pairwise_map] at this ⊢
    exact this.imp fun hne e => hne (by simpa [entK] using e)
  · obtain ⟨y, hy, rfl⟩ := List.mem_map.1 hx
    exact ⟨_, hrd y hy⟩
  · rw [List.map_map]
    exact List.map_congr_left fun x hx => Go.WideElems.rg_of (hrd x hx)

theorem sorts (m : Nat) : AnyZI.SortsIn Tryz.prog sortedI_ren Fence.wide m :=
  ⟨fun blk off cap ss W hH hblk hsz => callsIn_wide.2 (AnyM.slices_Sort_int sortI blk off cap ss W hH hblk hsz), fun p cap W => callsIn_wide.2 (AnyM.slices_Sort_int_none sortI p cap W)⟩

/-- A map's keys, as something to go through. -/
theorem Keys_string (r : Nat) (H : Hp) : HCalls Tryz.prog 82 #[.map (some r)] H fun v H' =>
    ∃ b, H b = none ∧ v = .func (.func 135) #[] #[.pointer (some ⟨b, 0, none⟩)] ∧ H' = H.set b (.obj (.cells #[.map (some r)] 45)) := fun w hw => by
  have c : CallsIn Fence.wide 5 Tryz.prog 82 #[.map (some r)] w fun e w' => e = .returned (.func (.func 135) #[] #[.pointer (some ⟨w.heap.size, 0, none⟩)]) ∧ w' = w.alloc (.cells #[.map (some r)] 45) :=
    AnyZI.keys_in keys_string Fence.wide 5 trivial rfl (some r) w
  refine (callsIn_wide.1 c).mono ?_
  rintro e w' ⟨rfl, rfl⟩
  obtain ⟨hn, hA⟩ := (At.refl hw).new (o := .obj (.cells #[.map (some r)] 45)) (x := .cells #[.map (some r)] 45) rfl
  exact ⟨_, _, rfl, ⟨w.heap.size, hn, rfl, rfl⟩, hA⟩

theorem Sorted_string {r b clock : Nat} {l : List (Int × Value × Nat)} {m : Int → Option Value} (hok : OkK l clock m) {N : Nat} (hN : N ≤ 1048576) (hd : ∀ k, (m k).isSome = true → 0 ≤ k ∧ k < N) (H : Hp) (hr : H r = some (kmap l clock)) (hb : H b = some (.obj (.cells #[.map (some r)] 45))) :
    HCalls Tryz.prog 81 #[.func (.func 135) #[] #[.pointer (some ⟨b, 0, none⟩)]] H fun v H' =>
      ∃ ks, KeysOf m ks ∧ ks.length ≤ N ∧ ((ks = [] ∧ v = .slice none 0 0 ∧ H' = H) ∨ ∃ b' cap, v = .slice (some ⟨b', 0, none⟩) ks.length cap ∧ ks.length ≤ cap ∧ H b' = none ∧ H' = H.set b' (.row (ks.map (Value.int .i64)) 3 cap)) := fun w hw => by
  have hu : Tryz.prog.underlying 3 = some (.int .i64) := by kernel_rfl
  obtain ⟨hfit, hrg⟩ := okk_fit (P := Tryz.prog) (k := 3) hu hok hN hd
  obtain ⟨hlen, hmem⟩ := okk_len hok hd
  have hheap := kmap.heap hr hw
  have hbh : w.heap[b]? = some (.cells #[.map (some r)] 45 (0, 0)) := by
    obtain ⟨o, ho, hh⟩ := hw _ _ hb
    cases hh
    exact ho
  have hown : w.ownsMap Tryz.prog 3 rNo r l.length (.map ((((l.map entK).toArray.toList).map (rg Tryz.prog 3 rNo)).foldr DataW.insert [])) := ⟨_, clock, hheap, hfit, by simp, rfl⟩
  rw [List.toList_toArray, hrg] at hown
  have hperm := Go.WideShapes.sorted_perm (l.map fun x => (Lit.int .i64 x.1, (DataW.lit (.bool true) : DataW Unit)))
  have hik : (intKeys (.map ((l.map fun x => (Lit.int .i64 x.1, (DataW.lit (.bool true) : DataW Unit))).foldr DataW.insert []))).Perm (l.map (·.1)) := by
    have := hperm.map fun p => intOf p.1
    rw [List.map_map] at this
    exact this
  have hsize : Maps.size (DataW.map ((l.map fun x => (Lit.int .i64 x.1, (DataW.lit (.bool true) : DataW Unit))).foldr DataW.insert [])) = l.length := by
    have := hperm.length_eq
    rw [List.length_map] at this
    exact this
  have hseq : SeqGives Fence.wide 2 Tryz.prog 135 #[.pointer (some ⟨b, 0, none⟩)] encZ (fun ss => ss.Perm (intKeys _)) (Maps.size _) w :=
    AnyZI.keys_gives (ρ := keys_string_ren) { keys_string with } Fence.wide _ trivial rfl (by omega) b r l.length _ w (Array.getElem?_eq_some_iff.1 hbh).1 (by simp [World.cell?, hbh]) hown
  have cS := AnyZI.sorted_in sortedI Fence.wide 5 trivial trivial trivial trivial rfl (by omega) (sorts _) (enters_of Tryz.func134 (by kernel_rfl) rfl) 135 #[.pointer (some ⟨b, 0, none⟩)] trivial (enters_of Tryz.func135 (by kernel_rfl) rfl) _ _ (by rw [hsize]; exact Nat.le_trans hlen (Nat.le_trans hN (by decide))) (by rw [hsize]; omega) w hseq
  change CallsIn _ _ Tryz.prog 81 _ _ _ at cS
  refine (callsIn_wide.1 cS).mono ?_
  rintro e w' ⟨v, ss, rfl, hS, hrow, hnil, hbel⟩
  have hp : (ss.mergeSort fun x y => decide (x ≤ y)).Perm (l.map (·.1)) := (List.mergeSort_perm _ _).trans (hS.trans hik)
  have hks : KeysOf m (ss.mergeSort fun x y => decide (x ≤ y)) := by
    refine ⟨?_, fun k => ?_⟩
    · have h1 := List.pairwise_mergeSort (le := fun x y : Int => decide (x ≤ y)) (fun a b c h1 h2 => by simp only [decide_eq_true_eq] at *; omega) (fun a b => by simp only [Bool.or_eq_true, decide_eq_true_eq]; omega) ss
      have h2 : (ss.mergeSort fun x y => decide (x ≤ y)).Nodup := hp.nodup_iff.2 hok.nd
      rw [List.nodup_iff_pairwise_ne] at h2
      refine (h1.and h2).imp ?_
      rintro a b ⟨h3, h4⟩
      simp only [decide_eq_true_eq] at h3
      omega
    · rw [hp.mem_iff, ← hok.get]
      constructor
      · intro hk
        obtain ⟨x, hx, rfl⟩ := List.mem_map.1 hk
        rw [getK_mem hok.nd hx]; rfl
      · intro hk
        cases hg : getK l k with
        | none => rw [hg] at hk; cases hk
        | some v =>
          obtain ⟨b, hb⟩ := getK_some hg
          exact List.mem_map.2 ⟨_, hb, rfl⟩
  have hkl : (ss.mergeSort fun x y => decide (x ≤ y)).length = ss.length := List.length_mergeSort _
  have hsl : ss.length ≤ N := by
    rw [← hkl, hp.length_eq, List.length_map]; exact hlen
  obtain ⟨hxl, hcase⟩ := hrow
  rcases hcase with ⟨rfl, h0⟩ | ⟨g, cap, cur, rfl, hg, hgh, hnc, hcm, hcs, htk⟩
  · have hss : ss = [] := hnil.1 rfl
    refine ⟨_, H, rfl, ⟨_, hks, by omega, .inl ⟨List.length_eq_zero_iff.1 (by rw [hkl, hss]; rfl), rfl, rfl⟩⟩, ?_⟩
    exact ⟨fun i o hi => by
      obtain ⟨o', h1, h2⟩ := hw i o hi
      exact ⟨o', (hbel.block i (Array.getElem?_eq_some_iff.1 h1).1).trans h1, h2⟩, hbel.size, hbel.os, hbel.tape, hbel.output, fun i hi h0 => ⟨h0, hbel.block i hi⟩⟩
  · have hgn : H g = none := by
      cases hx : H g with
      | none => rfl
      | some o =>
        obtain ⟨o', h1, _⟩ := hw g o hx
        have := (Array.getElem?_eq_some_iff.1 h1).1
        omega
    rw [Nat.mul_one] at hcs htk
    refine ⟨_, H.set g (.row ((ss.mergeSort fun x y => decide (x ≤ y)).map (Value.int .i64)) 3 cap), rfl, ⟨_, hks, by omega, .inr ⟨g, cap, by rw [hkl], by omega, hgn, rfl⟩⟩, ?_⟩
    refine ⟨fun i o hi => ?_, hbel.size, hbel.os, hbel.tape, hbel.output, fun i hi h0 => ⟨?_, hbel.block i hi⟩⟩
    · by_cases hig : i = g
      · subst hig
        rw [Hp.set_same] at hi
        cases hi
        refine ⟨_, hgh, cur.toList.drop ss.length, 0, 0, ?_, ?_, .inl rfl⟩
        · rw [← htk, List.take_append_drop, Array.toArray_toList]; rfl
        · rw [← htk, List.take_append_drop, Array.length_toList]; exact hcs
      · rw [Hp.set_other _ _ hig] at hi
        obtain ⟨o', h1, h2⟩ := hw i o hi
        exact ⟨o', (hbel.block i (Array.getElem?_eq_some_iff.1 h1).1).trans h1, h2⟩
    · rw [Hp.set_other _ _ (by omega)]; exact h0

end Go.Hw

end
section
/-! DskC -/
/- disk: Dirty, Boot, Crash, Fuse. -/
set_option maxRecDepth 100000
set_option linter.unusedSimpArgs false
set_option linter.unusedVariables false
set_option linter.unnecessarySimpa false
set_option linter.unusedSectionVars false
namespace Go.Proofs.YtlgpappgnndgiaaGreatDoor.Dsk
open Go Go.Hw Go.Form Go.Proofs.YtlgpappgnndgiaaGreatDoor.W

/-- Just sectors are in the cache. -/
def Dom (d : D) : Prop := ∀ k, (d.cache k).isSome = true → 0 ≤ k ∧ k < d.sec

theorem strM_some (m : Int → Option (List UInt8)) (k : Int) : (strM m k).isSome = (m k).isSome := by unfold strM; cases m k <;> rfl

theorem Dirty_tr {p : Nat} {d : D} (hok : Ok d) (hd : Dom d) : Tr Tryz.prog 40 #[.pointer (some ⟨p, 0, none⟩)] [Dk p d] fun v M =>
    ∃ ks A cap, KeysOf (strM d.cache) ks ∧ ks.length ≤ d.sec ∧ v = .slice A ks.length cap ∧ M = [Dk p d, Own 3 1 A ks.length cap (ks.map (Value.int .i64))] := fun H hs => by
  have hsec := hok.sec
  obtain ⟨r1, r2, r3, hs⟩ := Dk.open hs
  apply W_disk_Disk_Dirty.ok
  unfold W_disk_Disk_Dirty
  simp only [NN_some, Addr.add_lit', Addr.add_zero, Nat.zero_add, Nat.add_zero]
  refine hs.ld 0 rfl rfl ?_
  simp only [DI_int', DB_bool, DS_string, DP_pointer, DSl_slice, DM_map, DA_agg, DTup_tuple, DCons_cons, DNil_nil, NN_some, BIf_true, BIf_false, BIf_same, List.toList_toArray, Bool.not_true, Bool.not_false]
  refine (Keys_string r3 H).mono ?_
  rintro _ _ ⟨b, hb, rfl, rfl⟩
  have hs := hs.new hb (.obj (.cells #[.map (some r3)] 45))
  obtain ⟨H1, ⟨l, clock, hr1, hgk⟩, hle⟩ := hs.see 3 rfl
  refine (Sorted_string hgk (N := d.sec) (by omega) (fun k hk => hd k (by rw [strM_some] at hk; exact hk)) _ (hle _ _ hr1) (hs.get 4 rfl)).mono ?_
  rintro _ _ ⟨ks, hks, hkl, ⟨h0, rfl, rfl⟩ | ⟨b', cap, rfl, hcap, hn, rfl⟩⟩
  · simp only [DI_int', DB_bool, DS_string, DP_pointer, DSl_slice, DM_map, DA_agg, DTup_tuple, DCons_cons, DNil_nil, NN_some, BIf_true, BIf_false, BIf_same, List.toList_toArray, Bool.not_true, Bool.not_false]
    subst h0
    refine ⟨_, ⟨[], .none, 0, hks, hkl, rfl, rfl⟩, ?_⟩
    have hs2 : Sep (Own 3 1 .none 0 0 [] :: [pts p (dskO d r1 r2 r3), Mp r1 (strM d.safe), Mp r2 (tchM d.tch), Mp r3 (strM d.cache)]) _ := ⟨fun _ => none, _, fun _ _ h => (nomatch h), Hp.le_refl _, fun _ => .inl rfl, Own.none _ _ _, hs.re [0, 1, 2, 3] rfl⟩
    exact Dk.shut (hs2.re [1, 2, 3, 4, 0] rfl)
  · simp only [DI_int', DB_bool, DS_string, DP_pointer, DSl_slice, DM_map, DA_agg, DTup_tuple, DCons_cons, DNil_nil, NN_some, BIf_true, BIf_false, BIf_same, List.toList_toArray, Bool.not_true, Bool.not_false]
    have hs2 := hs.new hn (.row (ks.map (Value.int .i64)) 3 cap)
    have hs3 := hs2.turn 5 (B := Own 3 1 (some ⟨b', 0, none⟩) ks.length cap (ks.map (Value.int .i64))) rfl fun H1 hH => ⟨by simp, .inr ⟨b', cap, rfl, hH, by omega⟩⟩
    exact ⟨_, ⟨ks, some ⟨b', 0, none⟩, cap, hks, hkl, rfl, rfl⟩, Dk.shut (hs3.re [0, 1, 2, 3, 5] rfl)⟩

theorem Crash_tr {p : Nat} {d : D} : Tr Tryz.prog 30 #[.pointer (some ⟨p, 7, none⟩)] [Dk p d] fun v M => v = .tuple #[] ∧ M = [Dk p { d with down := true, fuse := 0 }] := fun H hs => by
  obtain ⟨r1, r2, r3, hs⟩ := Dk.open hs
  apply W_disk_power_Crash.ok
  unfold W_disk_power_Crash
  simp only [NN_some, Addr.add_lit', Addr.add_zero, Nat.zero_add, Nat.add_zero]
  refine hs.st 0 rfl (by show 7 < 10; omega) rfl fun H hs => ?_
  refine hs.st 0 rfl (by show 8 < 10; omega) rfl fun H hs => ?_
  exact ⟨_, ⟨trivial, rfl⟩, Dk.shut (d := { d with down := true, fuse := 0 }) hs⟩

theorem Fuse_tr {p : Nat} {d : D} (n : Int) : Tr Tryz.prog 27 #[.pointer (some ⟨p, 7, none⟩), .int .i64 n] [Dk p d] fun v M => v = .tuple #[] ∧ M = [Dk p { d with fuse := n.toNat }] := fun H hs => by
  obtain ⟨r1, r2, r3, hs⟩ := Dk.open hs
  apply W_disk_power_Fuse.ok
  unfold W_disk_power_Fuse
  simp only [NN_some, Addr.add_lit', Addr.add_zero, Nat.zero_add, Nat.add_zero]
  rw [show (if (0 : Int) > n then (0 : Int) else n) = ((n.toNat : Nat) : Int) by split <;> omega]
  refine hs.st 0 rfl (by show 8 < 10; omega) rfl fun H hs => ?_
  exact ⟨_, ⟨trivial, rfl⟩, Dk.shut (d := { d with fuse := n.toNat }) hs⟩

/-- What is safe behind a boot. -/
def bootS (c : Int → Option (List UInt8)) : (Int → Option (List UInt8)) → List Int → List Bool → (Int → Option (List UInt8))
  | s, k :: ks, b :: bs => bootS c (if b then updB s k ((c k).getD []) else s) ks bs
  | s, _, _ => s
def D.boot (d : D) (ks : List Int) (keep : List Bool) : D := { d with safe := bootS d.cache d.safe ks keep, cache := fun _ => none, down := false }

def boolVals (l : List Bool) : List Value := l.map Value.bool

theorem bootS_nil (c s : Int → Option (List UInt8)) (ks : List Int) : bootS c s ks [] = s := by cases ks <;> rfl

theorem Boot_loop (K : Value → Hp → Prop) {p r1 r2 r3 : Nat} {d : D} {A A4 : Option Addr} {n4 m n m4 : Nat} {all : List Int} {keepAll : List Bool} {R : As} (hR : ∀ H, R H → Cells H A (boolVals keepAll)) (hn : n = keepAll.length) (hn4 : n4 = all.length) (hn40 : n4 ≤ 1048576) (hall : ∀ k ∈ all, (d.cache k).isSome = true) (sF : Int → Option (List UInt8))
    (hK : ∀ H, Sep [pts p (dskO { d with down := false } r1 r2 r3), Mp r1 (strM sF), Mp r2 (tchM d.tch), Mp r3 (strM fun _ => none), Own 3 1 A4 n4 m4 (all.map (Value.int .i64)), R] H → K (.int .i64 0) H) :
    ∀ (ks : List Int) (j : Nat) (s : Int → Option (List UInt8)) (H : Hp), all.drop j = ks → j ≤ n4 → bootS d.cache s ks (keepAll.drop j) = sF →
      Sep [pts p (dskO d r1 r2 r3), Mp r1 (strM s), Mp r2 (tchM d.tch), Mp r3 (strM d.cache), Own 3 1 A4 n4 m4 (all.map (Value.int .i64)), R] H →
      W_disk_Disk_Boot.l4 K (ks.length + 1) (some ⟨p, 0, none⟩) A n m A4 n4 m4 (n4 : Int) (j : Int) H
  | [], j, s, H, hd, hj, hb, hs => by
    have hjn : j = n4 := by
      have := congrArg List.length hd
      simp at this; omega
    subst hjn
    unfold W_disk_Disk_Boot.l4
    refine BIf_dneg (by omega) ?_
    simp only [NN_some, Addr.add_lit', Addr.add_zero, Nat.zero_add, Nat.add_zero]
    refine hs.ld 0 rfl rfl ?_
    simp only [DI_int', DB_bool, DS_string, DP_pointer, DSl_slice, DM_map, DA_agg, DTup_tuple, DCons_cons, DNil_nil, NN_some, BIf_true, BIf_false, BIf_same, List.toList_toArray, Bool.not_true, Bool.not_false]
    refine hs.clearK u_int u_strm 3 rfl fun H hs => ?_
    refine hs.st 0 rfl (by show 7 < 10; omega) rfl fun H hs => ?_
    have hb' : s = sF := hb
    rw [hb'] at hs
    exact hK H hs
  | k :: ks, j, s, H, hd, hj, hb, hs => by
    have hjl : j < all.length := by
      have := congrArg List.length hd
      simp at this; omega
    have hget : all[j] = k := by
      have := List.drop_eq_getElem_cons hjl
      rw [this] at hd
      exact (List.cons.inj hd).1
    have hrest : all.drop (j + 1) = ks := by
      have := List.drop_eq_getElem_cons hjl
      rw [this] at hd
      exact (List.cons.inj hd).2
    have hkc := hall k (by rw [← hget]; exact List.getElem_mem _)
    unfold W_disk_Disk_Boot.l4
    refine BIf_dpos (by omega) ?_
    refine (hs.own 4 rfl).rd1 (v := .int .i64 k) rfl (by rw [List.getElem?_map, List.getElem?_eq_getElem hjl, hget]; rfl) ?_
    simp only [DI_int', DB_bool, DS_string, DP_pointer, DSl_slice, DM_map, DA_agg, DTup_tuple, DCons_cons, DNil_nil, NN_some, BIf_true, BIf_false, BIf_same, List.toList_toArray, Bool.not_true, Bool.not_false]
    by_cases hjk : j < n
    · refine BIf_dpos (by omega) ?_
      have hkl : j < keepAll.length := by omega
      have hkd : keepAll.drop j = keepAll[j] :: keepAll.drop (j + 1) := List.drop_eq_getElem_cons hkl
      rw [hkd] at hb
      obtain ⟨H1, hR1, hle⟩ := hs.see 5 (A := R) rfl
      refine ((hR H1 hR1).le hle).read (v := .bool keepAll[j]) (by unfold boolVals; rw [List.getElem?_map, List.getElem?_eq_getElem hkl]; rfl) rfl (by unfold boolVals; rw [List.length_map]; omega) ?_
      simp only [DI_int', DB_bool, DS_string, DP_pointer, DSl_slice, DM_map, DA_agg, DTup_tuple, DCons_cons, DNil_nil, NN_some, BIf_true, BIf_false, BIf_same, List.toList_toArray, Bool.not_true, Bool.not_false]
      cases hbv : keepAll[j] with
      | true =>
        rw [hbv] at hb
        try simp only [DI_int', DB_bool, DS_string, DP_pointer, DSl_slice, DM_map, DA_agg, DTup_tuple, DCons_cons, DNil_nil, NN_some, BIf_true, BIf_false, BIf_same, List.toList_toArray, Bool.not_true, Bool.not_false]
        try simp only [NN_some, Addr.add_lit', Addr.add_zero, Nat.zero_add, Nat.add_zero]
        refine hs.ld 0 rfl rfl ?_
        simp only [DI_int', DB_bool, DS_string, DP_pointer, DSl_slice, DM_map, DA_agg, DTup_tuple, DCons_cons, DNil_nil, NN_some, BIf_true, BIf_false, BIf_same, List.toList_toArray, Bool.not_true, Bool.not_false]
        refine hs.ld 0 rfl rfl ?_
        simp only [DI_int', DB_bool, DS_string, DP_pointer, DSl_slice, DM_map, DA_agg, DTup_tuple, DCons_cons, DNil_nil, NN_some, BIf_true, BIf_false, BIf_same, List.toList_toArray, Bool.not_true, Bool.not_false]
        obtain ⟨jz, hz1, hz2⟩ := z_str
        obtain ⟨H1, ⟨l, clock, hr1, hgk⟩, hle⟩ := hs.see 3 rfl
        refine lookupK u_int u_strm hz1 hz2 (hle _ _ hr1) false ?_
        rw [hgk.get]
        cases hck : d.cache k with
        | none => rw [hck] at hkc; cases hkc
        | some bs =>
          rw [show strM d.cache k = some (strV bs) by unfold strM; rw [hck]; rfl]
          show DS (.string ⟨bs.toArray⟩) _
          simp only [DI_int', DB_bool, DS_string, DP_pointer, DSl_slice, DM_map, DA_agg, DTup_tuple, DCons_cons, DNil_nil, NN_some, BIf_true, BIf_false, BIf_same, List.toList_toArray, Bool.not_true, Bool.not_false]
          refine hs.upd u_int u_strm 1 rfl fun H hs => ?_
          rw [show (Value.string ⟨bs.toArray⟩) = strV bs from rfl, updB_M] at hs
          rw [i64w (x := (j : Int) + 1) (by omega) (by omega)]
          refine Boot_loop K hR hn hn4 hn40 hall sF hK ks (j + 1) (updB s k bs) H hrest (by omega) ?_ hs
          rw [← hb]
          show _ = bootS d.cache (if true then updB s k ((d.cache k).getD []) else s) ks _
          rw [hck]; rfl
      | false =>
        rw [hbv] at hb
        try simp only [DI_int', DB_bool, DS_string, DP_pointer, DSl_slice, DM_map, DA_agg, DTup_tuple, DCons_cons, DNil_nil, NN_some, BIf_true, BIf_false, BIf_same, List.toList_toArray, Bool.not_true, Bool.not_false]
        rw [i64w (x := (j : Int) + 1) (by omega) (by omega)]
        exact Boot_loop K hR hn hn4 hn40 hall sF hK ks (j + 1) s H hrest (by omega) hb hs
    · refine BIf_dneg (by omega) ?_
      rw [i64w (x := (j : Int) + 1) (by omega) (by omega)]
      rw [List.drop_eq_nil_of_le (by omega), bootS_nil] at hb
      refine Boot_loop K hR hn hn4 hn40 hall sF hK ks (j + 1) s H hrest (by omega) ?_ hs
      rw [List.drop_eq_nil_of_le (by omega), bootS_nil]
      exact hb

/-- The power comes again. -/
theorem Boot_tr {p : Nat} {d : D} (hok : Ok d) (hd : Dom d) (hdn : d.down = true) (A : Option Addr) (n m : Nat) (keep : List Bool) (hn : n = keep.length) (R : As) (hR : ∀ H, R H → Cells H A (boolVals keep)) :
    Tr Tryz.prog 31 #[.pointer (some ⟨p, 0, none⟩), .slice A n m] [Dk p d, R] fun v M => ∃ ks, KeysOf (strM d.cache) ks ∧ v = .int .i64 0 ∧ M = [Dk p (D.boot d ks keep), R] := fun H hs => by
  have hsec := hok.sec
  obtain ⟨r1, r2, r3, hp⟩ := Dk.see hs 0 rfl
  apply W_disk_Disk_Boot.ok
  unfold W_disk_Disk_Boot
  simp only [NN_some, Addr.add_lit', Addr.add_zero, Nat.zero_add, Nat.add_zero]
  refine Ld_obj hp (v := .bool d.down) rfl ?_
  rw [hdn]
  simp only [DI_int', DB_bool, DS_string, DP_pointer, DSl_slice, DM_map, DA_agg, DTup_tuple, DCons_cons, DNil_nil, NN_some, BIf_true, BIf_false, BIf_same, List.toList_toArray, Bool.not_true, Bool.not_false]
  refine (Dirty_tr hok hd).use hs [0] rfl rfl ?_
  rintro _ _ H ⟨ks, A4, cap, hks, hkl, rfl, rfl⟩ hs
  simp only [DI_int', DB_bool, DS_string, DP_pointer, DSl_slice, DM_map, DA_agg, DTup_tuple, DCons_cons, DNil_nil, NN_some, BIf_true, BIf_false, BIf_same, List.toList_toArray, Bool.not_true, Bool.not_false]
  obtain ⟨r1, r2, r3, hs⟩ := Dk.open hs
  refine ⟨ks.length + 1, ?_⟩
  refine Boot_loop _ (d := d) (A4 := A4) (m4 := cap) (all := ks) (keepAll := keep) (R := R) hR hn rfl (by omega) (fun k hk => by have := (hks.mem k).1 hk; rw [strM_some] at this; exact this) (bootS d.cache d.safe ks keep) (fun H hs => ⟨_, ⟨ks, hks, rfl, rfl⟩, ?_⟩) ks 0 d.safe H rfl (Nat.zero_le _) rfl hs
  exact Dk.shut (d := D.boot d ks keep) (hs.re [0, 1, 2, 3, 5] rfl)

theorem Boot_up {p : Nat} {d : D} (hdn : d.down = false) (A : Option Addr) (n m : Nat) {L : List As} {H : Hp} (hs : Sep L H) (i : Nat) (hi : L[i]? = some (Dk p d)) :
    HCalls Tryz.prog 31 #[.pointer (some ⟨p, 0, none⟩), .slice A n m] H (RetE (.int .i64 5) H) := by
  obtain ⟨r1, r2, r3, hp⟩ := Dk.see hs i hi
  apply W_disk_Disk_Boot.ok
  unfold W_disk_Disk_Boot
  simp only [NN_some, Addr.add_lit', Addr.add_zero, Nat.zero_add, Nat.add_zero]
  refine Ld_obj hp (v := .bool d.down) rfl ?_
  rw [hdn]
  simp only [DI_int', DB_bool, DS_string, DP_pointer, DSl_slice, DM_map, DA_agg, DTup_tuple, DCons_cons, DNil_nil, NN_some, BIf_true, BIf_false, BIf_same, List.toList_toArray, Bool.not_true, Bool.not_false]
  exact RetE.mk _ _

end Go.Proofs.YtlgpappgnndgiaaGreatDoor.Dsk

end
section
/-! DskD -/
/- disk: what stays; the law DiskMakes. -/
set_option maxRecDepth 100000
set_option linter.unusedSimpArgs false
set_option linter.unusedVariables false
set_option linter.unnecessarySimpa false
set_option linter.unusedSectionVars false

namespace Go.Proofs.YtlgpappgnndgiaaGreatDoor.Dsk
open Go Go.Hw Go.Form Go.Proofs.YtlgpappgnndgiaaGreatDoor.W

theorem p_ops : plain64 Tryz.prog 43 3 := ⟨by kernel_rfl, by kernel_rfl, by kernel_rfl, by kernel_rfl⟩

theorem bootS_or {c : Int → Option (List UInt8)} : ∀ (ks : List Int) (bs : List Bool) (s : Int → Option (List UInt8)), (∀ k ∈ ks, (c k).isSome = true) → ∀ i, bootS c s ks bs i = s i ∨ ((c i).isSome = true ∧ bootS c s ks bs i = c i)
  | [], bs, s, _, i => .inl rfl
  | k :: ks, [], s, _, i => .inl rfl
  | k :: ks, b :: bs, s, hk, i => by
    have ih := bootS_or ks bs (if b then updB s k ((c k).getD []) else s) (fun k hm => hk k (by simp [hm])) i
    show bootS c (if b then updB s k ((c k).getD []) else s) ks bs i = s i ∨ _ ∧ bootS c (if b then updB s k ((c k).getD []) else s) ks bs i = c i
    rcases ih with h | h
    · rw [h]
      cases b with
      | false => exact .inl rfl
      | true =>
        by_cases e : i = k
        · subst e
          refine .inr ⟨hk i (by simp), ?_⟩
          have := hk i (by simp)
          cases hc : c i with
          | none => rw [hc] at this; cases this
          | some x => simp [updB]
        · exact .inl (by simp [updB, e])
    · exact .inr h

theorem Ok.writeD {d : D} (h : Ok d) (i : Int) (bs : List UInt8) : Ok (d.writeD i bs) := by
  unfold D.writeD
  split
  · exact h
  · split
    · exact h
    · rename_i hl
      have hb := Ok.burnt h
      split
      · exact hb
      · unfold D.wrote
        refine ⟨hb.sec, hb.size, hb.big, hb.per, hb.safe, fun k b hk => ?_, hb.fz⟩
        have hk' : (if k = i then some bs else d.cache k) = some b := hk
        have hsz : d.burnt.size = d.size := (burnt_rd d).2.2.2.1
        split at hk'
        · cases hk'; show bs.length = d.burnt.size; rw [hsz]; omega
        · show b.length = d.burnt.size; rw [hsz]; exact h.cache k b hk'
theorem Dom.writeD {d : D} (h : Dom d) (i : Int) (bs : List UInt8) : Dom (d.writeD i bs) := by
  have hbr := burnt_rd d
  unfold D.writeD
  split
  · exact h
  · rename_i hc
    split
    · exact h
    · split
      · intro k hk
        rw [hbr.2.2.2.2.2.2.1] at hk
        rw [hbr.2.2.2.2.1]
        exact h k hk
      · intro k hk
        have hk' : (if k = i then some bs else d.cache k).isSome = true := hk
        show 0 ≤ k ∧ k < (d.burnt.sec : Int)
        rw [hbr.2.2.2.2.1]
        split at hk'
        · rename_i e; subst e
          have := chk_in (d := d) (i := k) (by simpa using hc)
          omega
        · exact h k hk'
theorem Ok.crash {d : D} (h : Ok d) : Ok { d with down := true, fuse := 0 } := ⟨h.sec, h.size, h.big, h.per, h.safe, h.cache, Nat.zero_le _⟩
theorem Ok.fused {d : D} (h : Ok d) (n : Nat) (hn : n ≤ 9223372036854775807) : Ok { d with fuse := n } := ⟨h.sec, h.size, h.big, h.per, h.safe, h.cache, hn⟩
theorem Ok.boot {d : D} (h : Ok d) {ks : List Int} (hk : KeysOf (strM d.cache) ks) (keep : List Bool) : Ok (D.boot d ks keep) := by
  refine ⟨h.sec, h.size, h.big, h.per, fun k b hb => ?_, fun k b hb => (by cases hb), h.fz⟩
  have hb' : bootS d.cache d.safe ks keep k = some b := hb
  rcases bootS_or ks keep d.safe (fun k hm => by have := (hk.mem k).1 hm; rw [strM_some] at this; exact this) k with e | ⟨_, e⟩
  · rw [e] at hb'; exact h.safe k b hb'
  · rw [e] at hb'; exact h.cache k b hb'
theorem Dom.boot (d : D) (ks : List Int) (keep : List Bool) : Dom (D.boot d ks keep) := fun k hk => by cases hk
theorem Dom.fresh (sec size : Nat) : Dom (D.fresh sec size) := fun k hk => by cases hk

def b32 : List UInt8 := 7 :: List.replicate 31 0

end Go.Proofs.YtlgpappgnndgiaaGreatDoor.Dsk

end
section
/-! Wlmaps -/
/- Formulas of functions, printed by wip/tools/hwp.py. -/
set_option maxRecDepth 100000
set_option linter.unusedVariables false
namespace Go.Proofs.YtlgpappgnndgiaaGreatDoor.W
open Go Go.Hw

theorem mixWlmaps : Tryz.prog.follows .mixedOrders = true := by kernel_rfl
-- maps.Keys[map[int]string,int,string]
def W_maps_Keys_map_int_string_int_string (r1 : Option Nat) (H : Hp) (K : Value → Hp → Prop) : Prop :=
  Nw H (.obj (.cells #[.map r1] 45)) fun b1 H1 => K (.func (.func 135) #[] #[.pointer (some (⟨b1, 0, none⟩ : Addr))]) H1
def W_maps_Keys_map_int_string_int_string.Λ (_ : Value → Hp → Prop) : Cuts := Cuts.none (fun _ => none)
theorem W_maps_Keys_map_int_string_int_string.ok (r1 : Option Nat) (H : Hp) (K : Value → Hp → Prop) (h : W_maps_Keys_map_int_string_int_string r1 H K) : HCalls Tryz.prog 82 #[.map r1] H K :=
  hcalls Tryz.func82 rfl (Nat.le_of_ble_eq_true rfl) (hw_safe (Λ := Cuts.none (fun _ => none)) mixWlmaps _ _ _ _ _ (Eq.mp (by kernel_rfl) h) (obs_none _ _ _ _ _))

-- maps.Copy[map[int]string,map[int]string,int,string]
def W_maps_Copy_map_int_string_map_int_string_int_string.l1 (K : Value → Hp → Prop) : Nat → Option Nat → Value → Hp → Prop
  | 0, _, _, _ => False
  | k + 1, r3, v2, H =>
    let R1 := W_maps_Copy_map_int_string_map_int_string_int_string.l1 K k
    SemK Tryz.prog (Instr.next (v2) false 0) H fun v3 H2 => Ex v3 0 fun v4 => DB v4 fun c1 => BIf c1 (SemK Tryz.prog (Instr.entry (v2)) H2 fun v5 H3 => Ex v5 0 fun v6 => DI .i64 v6 fun x1 => Ex v5 1 fun v7 => DS v7 fun s1 => SemK Tryz.prog (Instr.mapUpdate 45 (.map r3) (.int .i64 x1) (.string s1)) H3 fun _ H4 => R1 r3 v2 H4) (K (.tuple #[]) H2)
def W_maps_Copy_map_int_string_map_int_string_int_string (r1 : Option Nat) (r2 : Option Nat) (H : Hp) (K : Value → Hp → Prop) : Prop :=
  SemK Tryz.prog (Instr.range 45 (.map r2)) H fun v1 H1 => (∃ k, W_maps_Copy_map_int_string_map_int_string_int_string.l1 K k r1 v1 H1)
def W_maps_Copy_map_int_string_map_int_string_int_string.l1.L (K : Value → Hp → Prop) (k : Nat) : Mid := fun E D H =>
  DG (E.get? 0) fun w0 => DM w0 fun r3 => DG (E.get? 7) fun w7 => (fun v2 => DNilD D (W_maps_Copy_map_int_string_map_int_string_int_string.l1 K k r3 v2 H)) w7
def W_maps_Copy_map_int_string_map_int_string_int_string.Λ1 (_ : Value → Hp → Prop) (_R1 : Option Nat → Value → Hp → Prop) : Cuts := Cuts.none (fun _ => none)
def W_maps_Copy_map_int_string_map_int_string_int_string.Λ (K : Value → Hp → Prop) : Cuts := ⟨fun i => none, fun i => match Nat.beq i 1 with | true => some (fun E D H => ∃ k, W_maps_Copy_map_int_string_map_int_string_int_string.l1.L K k E D H) | false => none, (fun _ => none)⟩
theorem W_maps_Copy_map_int_string_map_int_string_int_string.ok (r1 : Option Nat) (r2 : Option Nat) (H : Hp) (K : Value → Hp → Prop) (h : W_maps_Copy_map_int_string_map_int_string_int_string r1 r2 H K) : HCalls Tryz.prog 99 #[.map r1, .map r2] H K :=
  hcalls Tryz.func99 rfl (Nat.le_of_ble_eq_true rfl) (hw_safe (Λ := (W_maps_Copy_map_int_string_map_int_string_int_string.Λ K)) mixWlmaps _ _ _ _ _ (Eq.mp (by kernel_rfl) h) (obs_seq obs_region rfl (obs_block (obs_loop rfl (fun E D H h => by
      refine Safe.loop' (W_maps_Copy_map_int_string_map_int_string_int_string.l1.L K) (fun E D H h => ?_) (fun k E D H h => ?_) E D H h
      · obtain ⟨w0, e0, g1⟩ := DG.out h; obtain ⟨r3, rfl, g2⟩ := DM.out g1; obtain ⟨w7, e7, g3⟩ := DG.out g2; obtain ⟨v2, rfl⟩ : ∃ q, q = w7 := ⟨_, rfl⟩; obtain ⟨rfl, h'⟩ := DNilD.out g3; exact h'
      · obtain ⟨w0, e0, g1⟩ := DG.out h
        obtain ⟨r3, rfl, g2⟩ := DM.out g1
        obtain ⟨w7, e7, g3⟩ := DG.out g2
        obtain ⟨v2, rfl⟩ : ∃ q, q = w7 := ⟨_, rfl⟩
        obtain ⟨rfl, h'⟩ := DNilD.out g3
        exact (hw_safe (Λ := (W_maps_Copy_map_int_string_map_int_string_int_string.Λ1 K (W_maps_Copy_map_int_string_map_int_string_int_string.l1 K k))) mixWlmaps _ _ [(0, .map r3), (7, v2)] [] H (Eq.mp (by kernel_rfl) h') (obs_seq obs_region rfl (obs_seq (obs_cond obs_skip obs_exit) rfl (obs_block (obs_seq obs_region rfl obs_region))))).weaken (EnvLe.cons e0 (EnvLe.cons e7 (EnvLe.nil _))) (Hp.le_refl _))))))

-- maps.Keys[map[int]string,int,string]$1
def W_maps_Keys_map_int_string_int_string_1.l1 (K : Value → Hp → Prop) : Nat → FuncId → Array Value → Array Value → Value → Hp → Prop
  | 0, _, _, _, _, _ => False
  | k + 1, fd2, F2, C2, v3, H =>
    let R1 := W_maps_Keys_map_int_string_int_string_1.l1 K k
    SemK Tryz.prog (Instr.next (v3) false 0) H fun v4 H2 => Ex v4 0 fun v5 => DB v5 fun c1 => BIf c1 (SemK Tryz.prog (Instr.entry (v3)) H2 fun v6 H3 => Ex v6 0 fun v7 => DI .i64 v7 fun x1 => CallK Tryz.prog fd2 ((F2 ++ #[.int .i64 x1]) ++ C2) H3 fun v8 H4 => DR Tryz.prog (resTypes Tryz.prog fd2) v8 fun v9 => DB v9 fun c2 => BIf (!c2) (K (.tuple #[]) H4) (R1 fd2 F2 C2 v3 H4)) (K (.tuple #[]) H2)
def W_maps_Keys_map_int_string_int_string_1 (fd1 : FuncId) (F1 : Array Value) (C1 : Array Value) (p1 : Option Addr) (H : Hp) (K : Value → Hp → Prop) : Prop :=
  NN p1 fun a1 => Ld H a1 fun v1 => DM v1 fun r1 => SemK Tryz.prog (Instr.range 45 (.map r1)) H fun v2 H1 => (∃ k, W_maps_Keys_map_int_string_int_string_1.l1 K k fd1 F1 C1 v2 H1)
def W_maps_Keys_map_int_string_int_string_1.l1.L (K : Value → Hp → Prop) (k : Nat) : Mid := fun E D H =>
  DG (E.get? 0) fun w0 => DFn w0 fun fd2 F2 C2 => DG (E.get? 5) fun w5 => (fun v3 => DNilD D (W_maps_Keys_map_int_string_int_string_1.l1 K k fd2 F2 C2 v3 H)) w5
def W_maps_Keys_map_int_string_int_string_1.Λ1 (_ : Value → Hp → Prop) (_R1 : FuncId → Array Value → Array Value → Value → Hp → Prop) : Cuts := Cuts.none (fun _ => none)
def W_maps_Keys_map_int_string_int_string_1.Λ (K : Value → Hp → Prop) : Cuts := ⟨fun i => none, fun i => match Nat.beq i 1 with | true => some (fun E D H => ∃ k, W_maps_Keys_map_int_string_int_string_1.l1.L K k E D H) | false => none, (fun _ => none)⟩
theorem W_maps_Keys_map_int_string_int_string_1.ok (fd1 : FuncId) (F1 : Array Value) (C1 : Array Value) (p1 : Option Addr) (H : Hp) (K : Value → Hp → Prop) (h : W_maps_Keys_map_int_string_int_string_1 fd1 F1 C1 p1 H K) : HCalls Tryz.prog 135 #[.func (.func fd1) F1 C1, .pointer p1] H K :=
  hcalls Tryz.func135 rfl (Nat.le_of_ble_eq_true rfl) (hw_safe (Λ := (W_maps_Keys_map_int_string_int_string_1.Λ K)) mixWlmaps _ _ _ _ _ (Eq.mp (by kernel_rfl) h) (obs_seq obs_region rfl (obs_block (obs_loop rfl (fun E D H h => by
      refine Safe.loop' (W_maps_Keys_map_int_string_int_string_1.l1.L K) (fun E D H h => ?_) (fun k E D H h => ?_) E D H h
      · obtain ⟨w0, e0, g1⟩ := DG.out h; obtain ⟨fd2, F2, C2, rfl, g2⟩ := DFn.out g1; obtain ⟨w5, e5, g3⟩ := DG.out g2; obtain ⟨v3, rfl⟩ : ∃ q, q = w5 := ⟨_, rfl⟩; obtain ⟨rfl, h'⟩ := DNilD.out g3; exact h'
      · obtain ⟨w0, e0, g1⟩ := DG.out h
        obtain ⟨fd2, F2, C2, rfl, g2⟩ := DFn.out g1
        obtain ⟨w5, e5, g3⟩ := DG.out g2
        obtain ⟨v3, rfl⟩ : ∃ q, q = w5 := ⟨_, rfl⟩
        obtain ⟨rfl, h'⟩ := DNilD.out g3
        exact (hw_safe (Λ := (W_maps_Keys_map_int_string_int_string_1.Λ1 K (W_maps_Keys_map_int_string_int_string_1.l1 K k))) mixWlmaps _ _ [(0, .func (.func fd2) F2 C2), (5, v3)] [] H (Eq.mp (by kernel_rfl) h') (obs_seq obs_region rfl (obs_seq (obs_cond obs_skip obs_exit) rfl (obs_block (obs_seq obs_region rfl (obs_seq obs_region rfl (obs_cond obs_ret obs_skip))))))).weaken (EnvLe.cons e0 (EnvLe.cons e5 (EnvLe.nil _))) (Hp.le_refl _))))))

end Go.Proofs.YtlgpappgnndgiaaGreatDoor.W

end
