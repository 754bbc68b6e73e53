/- disk: what the law DiskSafe does with a disk. -/
import Derived.Test.YtgkdkemhiglpdaaDskE
set_option maxRecDepth 100000
set_option linter.unusedSimpArgs false
set_option linter.unusedVariables false
set_option linter.unnecessarySimpa false
set_option linter.unusedSectionVars false
namespace Go.Proofs.Ytgkdkemhiglpdaa.Dsk
open Go Go.Hw Go.Form Go.Proofs.Ytgkdkemhiglpdaa.W

theorem CellsS.rdA {s : Nat} {H : Hp} {A : Option Addr} {rows : List (List Value)} (h : CellsS s H A rows) {i : Nat} {r : List Value} (hi : rows[i]? = some r) (hr : r.length = s) {x : Int} (hx : x = i) {n : Nat} (hn : rows.length ≤ n) {K : List Value → Prop} (k : K r) :
    ixI x n (NN A fun a => LdA H (a.add (x.toNat * s)) s K) := by
  obtain ⟨a, rfl, hc⟩ := h i r hi
  subst hx
  have := (List.getElem?_eq_some_iff.1 hi).1
  refine ⟨by omega, by omega, ?_⟩
  rw [Int.toNat_natCast]
  have hcells : Cells H (some (a.add (i * s))) r := fun j v hj => ⟨_, rfl, by rw [add_add]; exact hc j v hj⟩
  have := hcells.cells?
  rw [hr] at this
  show LdA H (a.add (i * s)) s K
  unfold LdA
  rw [this]
  exact k

/-- Something that is done. -/
structure Act where
  k : Int
  i : Int
  A : Option Addr
  n : Nat
  m : Nat
  b : List UInt8
  A' : Option Addr
  n' : Nat
  m' : Nat
  ks : List Bool
def actRow (a : Act) : List Value := [.int .i64 a.k, .int .i64 a.i, .slice a.A a.n a.m, .slice a.A' a.n' a.m']
structure OkA (H : Hp) (a : Act) : Prop where
  n : a.n = a.b.length
  b : Cells H a.A (byteVals a.b)
  n' : a.n' = a.ks.length
  ks : Cells H a.A' (boolVals a.ks)
  i : -9223372036854775808 ≤ a.i ∧ a.i ≤ 9223372036854775807

theorem few_loop (A : Option Addr) (n m : Nat) (l : List Act) (hl : l.length = n) (hn : n ≤ 1000000) (H : Hp) (hc : CellsS 4 H A (l.map actRow)) :
    ∀ (t j : Nat), j + t = n → W_abacistlaw15_few.l4 (fun v H' => H' = H ∧ ∃ c, v = .bool c) (t + 1) A n m (j : Int) H
  | 0, j, h => by
    unfold W_abacistlaw15_few.l4
    exact BIf_dneg (by omega) ⟨rfl, true, rfl⟩
  | t + 1, j, h => by
    unfold W_abacistlaw15_few.l4
    refine BIf_dpos (by omega) ?_
    have hi : (l.map actRow)[j]? = some (actRow (l[j]'(by omega))) := by rw [List.getElem?_map, List.getElem?_eq_getElem (by omega)]; rfl
    refine hc.rd hi rfl (by rw [List.length_map]; omega) (j := 2) rfl ?_
    simp only [DI_int', DB_bool, DS_string, DP_pointer, DSl_slice, DM_map, DA_agg, DTup_tuple, DCons_cons, DNil_nil, NN_some, BIf_true, BIf_false, BIf_same, List.toList_toArray, Bool.not_true, Bool.not_false]
    by_cases h1 : (l[j]'(by omega)).n > 100
    · exact BIf_dpos (by omega) ⟨trivial, false, rfl⟩
    refine BIf_dneg (by omega) ?_
    refine hc.rd hi rfl (by rw [List.length_map]; omega) (j := 3) rfl ?_
    simp only [DI_int', DB_bool, DS_string, DP_pointer, DSl_slice, DM_map, DA_agg, DTup_tuple, DCons_cons, DNil_nil, NN_some, BIf_true, BIf_false, BIf_same, List.toList_toArray, Bool.not_true, Bool.not_false]
    by_cases h2 : (l[j]'(by omega)).n' > 40
    · exact BIf_dpos (by omega) ⟨trivial, false, rfl⟩
    refine BIf_dneg (by omega) ?_
    rw [i64w (x := (j : Int) + 1) (by omega) (by omega)]
    exact few_loop A n m l hl hn H hc t (j + 1) (by omega)
/-- Few are no more than forty. -/
theorem few_ok (A : Option Addr) (n m : Nat) (l : List Act) (hl : l.length = n) (H : Hp) (hc : CellsS 4 H A (l.map actRow)) :
    HCalls Try.prog 33 #[.slice A n m] H fun v H' => H' = H ∧ ∃ c, v = .bool c ∧ (c = true → n ≤ 40) := by
  by_cases hn : n > 40
  · apply W_abacistlaw15_few.ok
    unfold W_abacistlaw15_few
    exact BIf_dpos (by omega) ⟨rfl, false, rfl, fun h => by cases h⟩
  · have : HCalls Try.prog 33 #[.slice A n m] H fun v H' => H' = H ∧ ∃ c, v = .bool c := by
      apply W_abacistlaw15_few.ok
      unfold W_abacistlaw15_few
      refine BIf_dneg (by omega) ⟨n + 1, ?_⟩
      exact few_loop A n m l hl (by omega) H hc n 0 (by omega)
    refine this.mono ?_
    rintro v H' ⟨rfl, c, rfl⟩
    exact ⟨rfl, c, rfl, fun _ => by omega⟩

/-- Bytes, as long as a sector. -/
def laidB (bs : List UInt8) : List UInt8 := bs.take 32 ++ List.replicate (32 - bs.length) 0
theorem laidB_len (bs : List UInt8) : (laidB bs).length = 32 := by
  unfold laidB
  rw [List.length_append, List.length_take, List.length_replicate]; omega

theorem laid_tr (A : Option Addr) (n m : Nat) (bs : List UInt8) (hn : n = bs.length) (R : As) (hR : ∀ H, R H → Cells H A (byteVals bs)) : Tr Try.prog 39 #[.slice A n m, .int .i64 32] [R] fun v M =>
    ∃ b, v = .slice (some ⟨b, 0, none⟩) 32 32 ∧ M = [R, pts b (.row (byteVals (laidB bs)) 5 32)] := fun H hs => by
  apply W_abacistlaw15_laid.ok
  unfold W_abacistlaw15_laid
  refine hs.mks c_u8 rfl (n := 32) (m := 32) rfl rfl (Nat.le_refl _) (by omega) (by omega) fun b H hs => ?_
  simp only [DI_int', DB_bool, DS_string, DP_pointer, DSl_slice, DM_map, DA_agg, DTup_tuple, DCons_cons, DNil_nil, NN_some, BIf_true, BIf_false, BIf_same, List.toList_toArray, Bool.not_true, Bool.not_false]
  have hmin : Nat.min n 32 = (bs.take 32).length := by rw [List.length_take, hn]; exact Nat.min_comm _ _
  have hz : zeroRow [Value.int .u8 0] 32 = byteVals (List.replicate 32 0) := by rw [zeroRow_one]; unfold byteVals; rw [List.map_replicate]; rfl
  refine hs.cp 1 (k := n) (ys := byteVals (bs.take 32)) rfl c_u8 rfl ?_ ?_ (fun y hy => ?_) fun H hs => ?_
  · rw [hmin]
    obtain ⟨H1, hR1, hle⟩ := hs.see 0 (A := R) rfl
    have h1 := ((hR H1 hR1).le hle).take 32
    rw [show (byteVals bs).take 32 = byteVals (bs.take 32) by unfold byteVals; rw [List.map_take]] at h1
    cases A <;> exact src_of (c := m) h1 (by rw [byteVals_length])
  · rw [byteVals_length, List.length_take, zeroRow_length]; simp; omega
  · obtain ⟨x, _, rfl⟩ := List.mem_map.1 hy; rfl
  · simp only [DI_int', DB_bool, DS_string, DP_pointer, DSl_slice, DM_map, DA_agg, DTup_tuple, DCons_cons, DNil_nil, NN_some, BIf_true, BIf_false, BIf_same, List.toList_toArray, Bool.not_true, Bool.not_false]
    refine ⟨_, ⟨b, rfl, rfl⟩, ?_⟩
    have e : setAt (zeroRow [Value.int .u8 0] 32) 0 (byteVals (bs.take 32)) = byteVals (laidB bs) := by
      rw [hz]
      unfold setAt laidB byteVals
      rw [List.take_zero, List.nil_append, List.map_append, ← List.map_drop]
      congr 2
      rw [List.drop_replicate, List.length_map, List.length_take]
      congr 1; omega
    rw [← e]
    exact hs

end Go.Proofs.Ytgkdkemhiglpdaa.Dsk
