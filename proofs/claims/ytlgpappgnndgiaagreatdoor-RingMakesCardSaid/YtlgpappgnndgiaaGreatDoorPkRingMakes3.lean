import Derived.Test.YtlgpappgnndgiaaGreatDoorProg
import Derived.Shelf.Strings.Trim
import Derived.Test.YtlgpappgnndgiaaGreatDoorPkRingMakes2
section
/-! SrtA -/
/- slices.SortFunc of at most 12 records by their numbers. -/
set_option maxRecDepth 100000
set_option linter.unusedSimpArgs false
set_option linter.unusedVariables false
set_option linter.unnecessarySimpa false
set_option linter.unusedSectionVars false
namespace Go.Proofs.YtlgpappgnndgiaaGreatDoor.Srt
open Go Go.Hw Go.Proofs.YtlgpappgnndgiaaGreatDoor.W Go.Proofs.YtlgpappgnndgiaaGreatDoor.Rec

/-- A row is written into a slice of one's own. -/
theorem Sep.wrR {L : List As} {H : Hp} (h : Hw.Sep L H) (i : Nat) {e : TypeId} {s : Nat} {A : Option Addr} {n m : Nat} {xs : List Value} (hi : L[i]? = some (Own e s A n m xs)) {x : Int} {j : Nat} (hx : x = j) (hj : j < n) {y : Array Value} (hy : y.size = s) (hv : y.toList.all (fun v => v.oneCell') = true) {K : Hp → Prop}
    (k : ∀ H', Hw.Sep (L.set i (Own e s A n m (setAt xs (j * s) y.toList))) H' → K H') : ixI x n (NN A fun a => StA H (a.add (x.toNat * s)) y s K) := by
  subst hx
  refine ⟨by omega, by omega, ?_⟩
  rcases h.unown i hi with ⟨_, h0, _⟩ | ⟨b, mm, rfl, hmm, hlx, hs⟩
  · omega
  rw [NN_some, Addr.add_lit', Int.toNat_natCast, Nat.zero_add]
  have hlt : i < L.length := (List.getElem?_eq_some_iff.1 hi).1
  have hb : H b = some (.row xs e mm) := hs.get i (by rw [List.getElem?_set_self hlt])
  have hjs : j * s + s ≤ n * s := by
    have := Nat.mul_le_mul_right s (show j + 1 ≤ n by omega)
    rwa [Nat.succ_mul] at this
  have hyl : y.toList.length = s := by rw [Array.length_toList]; exact hy
  refine ⟨hy, ?_⟩
  rw [puts_row y.toList 0 H xs hb (by omega) (fun v hq => List.all_eq_true.1 hv v hq)]
  refine k _ ?_
  have hs2 := hs.put i (.row (setAt xs (j * s + 0) y.toList) e mm) (by rw [List.getElem?_set_self hlt])
  have hs3 := hs2.turn i (by rw [List.getElem?_set_self (by rw [List.length_set]; exact hlt)]) (B := Own e s (some ⟨b, 0, none⟩) n m (setAt xs (j * s) y.toList)) (fun H1 h1 => ⟨by rw [setAt_length (by omega)]; exact hlx, .inr ⟨b, mm, rfl, by rw [Nat.add_zero] at h1; exact h1, hmm⟩⟩)
  rw [List.set_set, List.set_set] at hs3
  exact hs3

def recV (l : List R) : List Value := l.flatMap fun r => r.c.toList
theorem recV_len : ∀ l : List R, (recV l).length = l.length * 8
  | [] => rfl
  | r :: l => by
    have := recV_len l
    show (r.c.toList ++ recV l).length = _
    rw [List.length_append, this, List.length_cons]
    have : r.c.toList.length = 8 := rfl
    omega
theorem recV_get : ∀ (l : List R) (j : Nat) (h : j < l.length), ((recV l).drop (j * 8)).take 8 = l[j].c.toList
  | r :: l, 0, _ => by
    show ((r.c.toList ++ recV l).drop (0 * 8)).take 8 = _
    rw [Nat.zero_mul, List.drop_zero]
    exact List.take_left' rfl
  | r :: l, j + 1, h => by
    have ih := recV_get l j (by simpa using h)
    show ((r.c.toList ++ recV l).drop ((j + 1) * 8)).take 8 = _
    rw [show (j + 1) * 8 = r.c.toList.length + j * 8 by rw [show r.c.toList.length = 8 from rfl]; omega, ← List.drop_drop, List.drop_left]
    exact ih
theorem recV_set : ∀ (l : List R) (j : Nat) (q : R) (h : j < l.length), setAt (recV l) (j * 8) q.c.toList = recV (l.set j q)
  | r :: l, 0, q, _ => by
    show setAt (r.c.toList ++ recV l) (0 * 8) q.c.toList = q.c.toList ++ recV l
    unfold setAt
    rw [Nat.zero_mul, List.take_zero, List.nil_append, Nat.zero_add]
    congr 1
  | r :: l, j + 1, q, h => by
    have ih := recV_set l j q (by simpa using h)
    show setAt (r.c.toList ++ recV l) ((j + 1) * 8) q.c.toList = r.c.toList ++ recV (l.set j q)
    rw [← ih]
    unfold setAt
    have e : (j + 1) * 8 = r.c.toList.length + j * 8 := by rw [show r.c.toList.length = 8 from rfl]; omega
    rw [e, List.take_length_add_append, Nat.add_assoc, List.drop_length_add_append]
    simp
theorem recC_ok (r : R) : r.c.toList.all (fun v => v.oneCell') = true := rfl

def dR : R := ⟨0, 0, 0, 0, 0, 0, 0, 0⟩
/-- One record goes down as far as it is less. -/
def bub (l : List R) : Nat → List R
  | 0 => l
  | j + 1 => if (l.getD (j + 1) dR).s < (l.getD j dR).s then bub ((l.set (j + 1) (l.getD j dR)).set j (l.getD (j + 1) dR)) j else l
theorem bub_len (j : Nat) : ∀ l, (bub l j).length = l.length := by
  induction j with
  | zero => intro l; rfl
  | succ j ih =>
    intro l
    unfold bub
    split
    · rw [ih]; simp
    · rfl
def isort (l : List R) : Nat → List R
  | 0 => l
  | i + 1 => isort l i |> fun q => bub q (i + 1)

theorem isNaN_ok (x : Int) (H : Hp) : HCalls Tryz.prog 127 #[.int .u64 x] H (RetE (.bool false) H) := by
  apply W_cmp_isNaN_uint64.ok
  unfold W_cmp_isNaN_uint64
  simp only [bne_self_eq_false]
  exact RetE.mk _ _

def cmpI (a b : Nat) : Int := if a < b then -1 else if b < a then 1 else 0
theorem cmp_ok (a b : Nat) (H : Hp) : HCalls Tryz.prog 76 #[.int .u64 (a : Int), .int .u64 (b : Int)] H (RetE (.int .i64 (cmpI a b)) H) := by
  apply W_cmp_Compare_uint64.ok
  unfold W_cmp_Compare_uint64
  refine HCalls.use (isNaN_ok _ H) ?_
  simp only [DI_int', DB_bool, DS_string, DP_pointer, DSl_slice, DM_map, DA_agg, DTup_tuple, DCons_cons, DNil_nil, NN_some, BIf_true, BIf_false, BIf_same, List.toList_toArray, Bool.not_true, Bool.not_false]
  refine HCalls.use (isNaN_ok _ H) ?_
  simp only [DI_int', DB_bool, DS_string, DP_pointer, DSl_slice, DM_map, DA_agg, DTup_tuple, DCons_cons, DNil_nil, NN_some, BIf_true, BIf_false, BIf_same, List.toList_toArray, Bool.not_true, Bool.not_false]
  unfold cmpI
  by_cases h1 : a < b
  · rw [if_pos h1]
    exact BIf_dpos (by omega) (RetE.mk _ _)
  · rw [if_neg h1]
    refine BIf_dneg (by omega) ?_
    by_cases h2 : b < a
    · rw [if_pos h2]
      exact BIf_dpos (by omega) (RetE.mk _ _)
    · rw [if_neg h2]
      exact BIf_dneg (by omega) (RetE.mk _ _)

theorem less_ok (a b : R) (H : Hp) : HCalls Tryz.prog 75 #[.agg a.c, .agg b.c] H (RetE (.int .i64 (cmpI a.s b.s)) H) := HCalls.ret (by
  apply W_ring_Ring_Scan_1.ok
  unfold W_ring_Ring_Scan_1
  refine (Sep.start H).nw fun b1 H1 hs => ?_
  refine hs.nw fun b2 H1 hs => ?_
  refine hs.ldf 1 rfl rfl ?_
  simp only [DI_int', DB_bool, DS_string, DP_pointer, DSl_slice, DM_map, DA_agg, DTup_tuple, DCons_cons, DNil_nil, NN_some, BIf_true, BIf_false, BIf_same, List.toList_toArray, Bool.not_true, Bool.not_false]
  refine hs.ldf 2 rfl rfl ?_
  simp only [DI_int', DB_bool, DS_string, DP_pointer, DSl_slice, DM_map, DA_agg, DTup_tuple, DCons_cons, DNil_nil, NN_some, BIf_true, BIf_false, BIf_same, List.toList_toArray, Bool.not_true, Bool.not_false]
  refine HCalls.use (cmp_ok a.s b.s H1) ?_
  simp only [DI_int', DB_bool, DS_string, DP_pointer, DSl_slice, DM_map, DA_agg, DTup_tuple, DCons_cons, DNil_nil, NN_some, BIf_true, BIf_false, BIf_same, List.toList_toArray, Bool.not_true, Bool.not_false]
  exact hs.fin 0 rfl _)

end Go.Proofs.YtlgpappgnndgiaaGreatDoor.Srt

end
section
/-! SrtB -/
/- slices.SortFunc of at most 12 records by their numbers: the walk. -/
set_option maxRecDepth 100000
set_option linter.unusedSimpArgs false
set_option linter.unusedVariables false
set_option linter.unnecessarySimpa false
set_option linter.unusedSectionVars false
namespace Go.Proofs.YtlgpappgnndgiaaGreatDoor.Srt
open Go Go.Hw Go.Proofs.YtlgpappgnndgiaaGreatDoor.W Go.Proofs.YtlgpappgnndgiaaGreatDoor.Rec

theorem getD_at (l : List R) {j : Nat} (h : j < l.length) : l.getD j dR = l[j] := by
  rw [List.getD_eq_getElem?_getD, List.getElem?_eq_getElem h]; rfl

theorem ins_inner (A : Option Addr) (n m : Nat) (i : Nat) (hn : n ≤ 1000) (K : Value → Hp → Prop) (R1 : Option Addr → Nat → Nat → Int → Int → FuncId → Array Value → Array Value → Int → Hp → Prop) (fin : List R)
    (k : ∀ H', Hw.Sep [Own 91 8 A n m (recV fin)] H' → R1 A n m 0 (n : Int) 75 #[] #[] (IntKind.i64.wrap ((i : Int) + 1)) H') :
    ∀ (j : Nat) (l : List R) (H : Hp), l.length = n → j < n → bub l j = fin → Hw.Sep [Own 91 8 A n m (recV l)] H →
      W_slices_insertionSortCmpFunc_api_Record.l4 K R1 (j + 1) A n m 0 (n : Int) 75 #[] #[] (i : Int) (j : Int) H
  | 0, l, H, hl, hj, hf, hs => by
    unfold W_slices_insertionSortCmpFunc_api_Record.l4
    refine BIf_dneg (by omega) ?_
    have hf : l = fin := hf
    rw [hf] at hs
    exact k H hs
  | j + 1, l, H, hl, hj, hf, hs => by
    unfold W_slices_insertionSortCmpFunc_api_Record.l4
    refine BIf_dpos (by omega) ?_
    have hj1 : j + 1 < l.length := by omega
    have hj0 : j < l.length := by omega
    have ej : IntKind.i64.wrap (((j + 1 : Nat) : Int) - 1) = (j : Int) := by rw [i64w (by omega) (by omega)]; omega
    rw [ej]
    have ho := hs.own 0 rfl
    refine ho.rdA rfl hj (recV_get l (j + 1) hj1) ?_
    refine ho.rdA (j := j) rfl (by omega) (recV_get l j hj0) ?_
    refine BIf_pos (by kernel_rfl) ?_
    rw [Array.toArray_toList, Array.toArray_toList]
    refine HCalls.use (less_ok l[j + 1] l[j] H) ?_
    have hr : resTypes Tryz.prog 75 = [3] := by kernel_rfl
    rw [hr]
    have hdt : ∀ (x : Int) (K : Value → Prop), K (.int .i64 x) → DR Tryz.prog [3] (.int .i64 x) K := fun x K k => by
      show DT Tryz.prog 3 (.int .i64 x) K
      unfold DT
      rw [show Tryz.prog.underlying 3 = some (.int .i64) by kernel_rfl]
      exact k
    refine hdt _ _ ?_
    simp only [DI_int', DB_bool, DS_string, DP_pointer, DSl_slice, DM_map, DA_agg, DTup_tuple, DCons_cons, DNil_nil, NN_some, BIf_true, BIf_false, BIf_same, List.toList_toArray, Bool.not_true, Bool.not_false]
    unfold bub at hf
    rw [getD_at l hj1, getD_at l hj0] at hf
    unfold cmpI
    by_cases hlt : l[j + 1].s < l[j].s
    · rw [if_pos hlt] at hf ⊢
      refine BIf_dpos (by decide) ?_
      have ix : ∀ {x : Int} {q : Nat} {P : Addr → Prop}, x = q → q < n → (∀ b mm, A = some ⟨b, 0, none⟩ → P ⟨b, 0, none⟩) → ixI x n (NN A P) := fun {x q P} hx hq hp => by
        refine ⟨by omega, by omega, ?_⟩
        rcases hs.unown 0 rfl with ⟨_, h0, _⟩ | ⟨b, mm, rfl, _, _, _⟩
        · omega
        · rw [NN_some]; exact hp b mm rfl
      refine ix (q := j) rfl (by omega) fun b mm hA => ?_
      subst hA
      refine ⟨by omega, by omega, ?_⟩
      rw [NN_some]
      have hw1 := recV_set l (j + 1) l[j] hj1
      have hw2 := recV_set (l.set (j + 1) l[j]) j l[j + 1] (by rw [List.length_set]; exact hj0)
      have go : ∀ H1, Hw.Sep [Own 91 8 (some ⟨b, 0, none⟩) n m (recV l)] H1 →
          ixI ((j + 1 : Nat) : Int) n (NN (some (⟨b, 0, none⟩ : Addr)) fun a5 => StA H1 (a5.add (((j + 1 : Nat) : Int).toNat * 8)) l[j].c 8 fun H2 => ixI (j : Int) n (NN (some (⟨b, 0, none⟩ : Addr)) fun a6 => StA H2 (a6.add ((j : Int).toNat * 8)) l[j + 1].c 8 fun H3 =>
            W_slices_insertionSortCmpFunc_api_Record.l4 K R1 (j + 1) (some ⟨b, 0, none⟩) n m 0 (n : Int) 75 #[] #[] (i : Int) (j : Int) H3)) := fun H1 hs => by
        refine Sep.wrR hs 0 rfl rfl hj rfl (recC_ok _) fun H2 hs => ?_
        refine Sep.wrR hs 0 rfl rfl (show j < n by omega) rfl (recC_ok _) fun H3 hs => ?_
        simp only [List.set_cons_zero] at hs
        rw [hw1, hw2] at hs
        exact ins_inner (some ⟨b, 0, none⟩) n m i hn K R1 fin k j _ H3 (by simp; exact hl) (by omega) hf hs
      have rd : ∀ {q : Nat} (hq : q < l.length) {P : List Value → Prop}, P l[q].c.toList → LdA H ((⟨b, 0, none⟩ : Addr).add ((q : Int).toNat * 8)) 8 P := fun {q} hq {P} hp => by
        have := (hs.own 0 rfl).rdA (x := (q : Int)) (j := q) rfl (by omega) (recV_get l q hq) (K := P) hp
        exact this.2.2
      refine ⟨?_, ?_⟩
      · refine rd hj0 (rd hj1 ?_)
        rw [Array.toArray_toList, Array.toArray_toList]
        exact go H hs
      · refine rd hj1 (rd hj0 ?_)
        rw [Array.toArray_toList, Array.toArray_toList]
        exact go H hs
    · rw [if_neg hlt] at hf ⊢
      refine BIf_dneg (by split <;> decide) ?_
      rw [hf] at hs
      exact k H hs

end Go.Proofs.YtlgpappgnndgiaaGreatDoor.Srt

end
section
/-! Wlbits -/
/- Formulas of functions, printed by wip/tools/hwp.py. -/
set_option maxRecDepth 100000
set_option linter.unusedVariables false
namespace Go.Proofs.YtlgpappgnndgiaaGreatDoor.W
open Go Go.Hw

theorem mixWlbits : Tryz.prog.follows .mixedOrders = true := by kernel_rfl
-- math/bits.Len
def W_math_bits_Len (x1 : Int) (H : Hp) (K : Value → Hp → Prop) : Prop :=
  HCalls Tryz.prog 173 #[.int .u64 x1] H fun v1 H1 => DI .i64 v1 fun x2 => K (.int .i64 x2) H1
def W_math_bits_Len.Λ (_ : Value → Hp → Prop) : Cuts := Cuts.none (fun _ => none)
theorem W_math_bits_Len.ok (x1 : Int) (H : Hp) (K : Value → Hp → Prop) (h : W_math_bits_Len x1 H K) : HCalls Tryz.prog 126 #[.int .u64 x1] H K :=
  hcalls Tryz.func126 rfl (Nat.le_of_ble_eq_true rfl) (hw_safe (Λ := Cuts.none (fun _ => none)) mixWlbits _ _ _ _ _ (Eq.mp (by kernel_rfl) h) (obs_none _ _ _ _ _))

-- math/bits.TrailingZeros
def W_math_bits_TrailingZeros (x1 : Int) (H : Hp) (K : Value → Hp → Prop) : Prop :=
  HCalls Tryz.prog 191 #[.int .u64 x1] H fun v1 H1 => DI .i64 v1 fun x2 => K (.int .i64 x2) H1
def W_math_bits_TrailingZeros.Λ (_ : Value → Hp → Prop) : Cuts := Cuts.none (fun _ => none)
theorem W_math_bits_TrailingZeros.ok (x1 : Int) (H : Hp) (K : Value → Hp → Prop) (h : W_math_bits_TrailingZeros x1 H K) : HCalls Tryz.prog 153 #[.int .u64 x1] H K :=
  hcalls Tryz.func153 rfl (Nat.le_of_ble_eq_true rfl) (hw_safe (Λ := Cuts.none (fun _ => none)) mixWlbits _ _ _ _ _ (Eq.mp (by kernel_rfl) h) (obs_none _ _ _ _ _))

-- math/bits.Len32
def W_math_bits_Len32.j4 (K : Value → Hp → Prop) (x2 : Int) (x3 : Int) (H : Hp) : Prop :=
  BIf (decide (x2 ≥ (256 : Int))) ((0 ≤ (8 : Int) ∧ (0 ≤ (IntKind.u8.wrap (shrI .u32 x2 (8 : Int))) ∧ ixB ((⟨#[0, 1, 2, 2, 3, 3, 3, 3, 4, 4, 4, 4, 4, 4, 4, 4, 5, 5, 5, 5, 5, 5, 5, 5, 5, 5, 5, 5, 5, 5, 5, 5, 6, 6, 6, 6, 6, 6, 6, 6, 6, 6, 6, 6, 6, 6, 6, 6, 6, 6, 6, 6, 6, 6, 6, 6, 6, 6, 6, 6, 6, 6, 6, 6, 7, 7, 7, 7, 7, 7, 7, 7, 7, 7, 7, 7, 7, 7, 7, 7, 7, 7, 7, 7, 7, 7, 7, 7, 7, 7, 7, 7, 7, 7, 7, 7, 7, 7, 7, 7, 7, 7, 7, 7, 7, 7, 7, 7, 7, 7, 7, 7, 7, 7, 7, 7, 7, 7, 7, 7, 7, 7, 7, 7, 7, 7, 7, 7, 8, 8, 8, 8, 8, 8, 8, 8, 8, 8, 8, 8, 8, 8, 8, 8, 8, 8, 8, 8, 8, 8, 8, 8, 8, 8, 8, 8, 8, 8, 8, 8, 8, 8, 8, 8, 8, 8, 8, 8, 8, 8, 8, 8, 8, 8, 8, 8, 8, 8, 8, 8, 8, 8, 8, 8, 8, 8, 8, 8, 8, 8, 8, 8, 8, 8, 8, 8, 8, 8, 8, 8, 8, 8, 8, 8, 8, 8, 8, 8, 8, 8, 8, 8, 8, 8, 8, 8, 8, 8, 8, 8, 8, 8, 8, 8, 8, 8, 8, 8, 8, 8, 8, 8, 8, 8, 8, 8, 8, 8, 8, 8, 8, 8, 8, 8, 8, 8, 8, 8, 8, 8, 8, 8, 8, 8, 8, 8]⟩) : ByteArray) (IntKind.u8.wrap (shrI .u32 x2 (8 : Int))).toNat fun x4 => K (.int .i64 (IntKind.i64.wrap ((IntKind.i64.wrap (x3 + (8 : Int))) + (IntKind.i64.wrap x4)))) H))) ((0 ≤ (IntKind.u8.wrap x2) ∧ ixB ((⟨#[0, 1, 2, 2, 3, 3, 3, 3, 4, 4, 4, 4, 4, 4, 4, 4, 5, 5, 5, 5, 5, 5, 5, 5, 5, 5, 5, 5, 5, 5, 5, 5, 6, 6, 6, 6, 6, 6, 6, 6, 6, 6, 6, 6, 6, 6, 6, 6, 6, 6, 6, 6, 6, 6, 6, 6, 6, 6, 6, 6, 6, 6, 6, 6, 7, 7, 7, 7, 7, 7, 7, 7, 7, 7, 7, 7, 7, 7, 7, 7, 7, 7, 7, 7, 7, 7, 7, 7, 7, 7, 7, 7, 7, 7, 7, 7, 7, 7, 7, 7, 7, 7, 7, 7, 7, 7, 7, 7, 7, 7, 7, 7, 7, 7, 7, 7, 7, 7, 7, 7, 7, 7, 7, 7, 7, 7, 7, 7, 8, 8, 8, 8, 8, 8, 8, 8, 8, 8, 8, 8, 8, 8, 8, 8, 8, 8, 8, 8, 8, 8, 8, 8, 8, 8, 8, 8, 8, 8, 8, 8, 8, 8, 8, 8, 8, 8, 8, 8, 8, 8, 8, 8, 8, 8, 8, 8, 8, 8, 8, 8, 8, 8, 8, 8, 8, 8, 8, 8, 8, 8, 8, 8, 8, 8, 8, 8, 8, 8, 8, 8, 8, 8, 8, 8, 8, 8, 8, 8, 8, 8, 8, 8, 8, 8, 8, 8, 8, 8, 8, 8, 8, 8, 8, 8, 8, 8, 8, 8, 8, 8, 8, 8, 8, 8, 8, 8, 8, 8, 8, 8, 8, 8, 8, 8, 8, 8, 8, 8, 8, 8, 8, 8, 8, 8, 8, 8]⟩) : ByteArray) (IntKind.u8.wrap x2).toNat fun x5 => K (.int .i64 (IntKind.i64.wrap (x3 + (IntKind.i64.wrap x5)))) H))
def W_math_bits_Len32 (x1 : Int) (H : Hp) (K : Value → Hp → Prop) : Prop :=
  BIf (decide (x1 ≥ (65536 : Int))) ((0 ≤ (16 : Int) ∧ W_math_bits_Len32.j4 K (shrI .u32 x1 (16 : Int)) (16 : Int) H)) (W_math_bits_Len32.j4 K x1 (0 : Int) H)
def W_math_bits_Len32.Λ (K : Value → Hp → Prop) : Cuts := ⟨fun i => match Nat.beq i 4 with | true => some (fun E D H => DG (E.get? 0) fun w0 => DI .u32 w0 fun x2 => DG (E.get? 2) fun w2 => DI .i64 w2 fun x3 => DNilD D (W_math_bits_Len32.j4 K x2 x3 H)) | false => none, fun i => none, (fun _ => none)⟩
theorem W_math_bits_Len32.ok (x1 : Int) (H : Hp) (K : Value → Hp → Prop) (h : W_math_bits_Len32 x1 H K) : HCalls Tryz.prog 172 #[.int .u32 x1] H K :=
  hcalls Tryz.func172 rfl (Nat.le_of_ble_eq_true rfl) (hw_safe (Λ := (W_math_bits_Len32.Λ K)) mixWlbits _ _ _ _ _ (Eq.mp (by kernel_rfl) h) (obs_seq obs_region rfl (obs_seqc (obs_seq obs_region rfl (obs_cond (obs_seq obs_region rfl obs_region) obs_skip)) rfl (fun E D H h => by
      obtain ⟨w0, e0, g1⟩ := DG.out h
      obtain ⟨x2, rfl, g2⟩ := DI.out g1
      obtain ⟨w2, e2, g3⟩ := DG.out g2
      obtain ⟨x3, rfl, g4⟩ := DI.out g3
      obtain ⟨rfl, h'⟩ := DNilD.out g4
      exact (hw_safe (Λ := (W_math_bits_Len32.Λ K)) mixWlbits _ _ [(0, .int .u32 x2), (2, .int .i64 x3)] [] H (Eq.mp (by kernel_rfl) h') (obs_seq (obs_seq obs_region rfl (obs_cond (obs_seq obs_region rfl obs_region) obs_skip)) rfl (obs_seq obs_region rfl obs_ret))).weaken (EnvLe.cons e0 (EnvLe.cons e2 (EnvLe.nil _))) (Hp.le_refl _)))))

-- math/bits.Len64
def W_math_bits_Len64.j7 (K : Value → Hp → Prop) (x4 : Int) (x5 : Int) (H : Hp) : Prop :=
  BIf (decide (x4 ≥ (256 : Int))) ((0 ≤ (8 : Int) ∧ (0 ≤ (IntKind.u8.wrap (shrI .u64 x4 (8 : Int))) ∧ ixB ((⟨#[0, 1, 2, 2, 3, 3, 3, 3, 4, 4, 4, 4, 4, 4, 4, 4, 5, 5, 5, 5, 5, 5, 5, 5, 5, 5, 5, 5, 5, 5, 5, 5, 6, 6, 6, 6, 6, 6, 6, 6, 6, 6, 6, 6, 6, 6, 6, 6, 6, 6, 6, 6, 6, 6, 6, 6, 6, 6, 6, 6, 6, 6, 6, 6, 7, 7, 7, 7, 7, 7, 7, 7, 7, 7, 7, 7, 7, 7, 7, 7, 7, 7, 7, 7, 7, 7, 7, 7, 7, 7, 7, 7, 7, 7, 7, 7, 7, 7, 7, 7, 7, 7, 7, 7, 7, 7, 7, 7, 7, 7, 7, 7, 7, 7, 7, 7, 7, 7, 7, 7, 7, 7, 7, 7, 7, 7, 7, 7, 8, 8, 8, 8, 8, 8, 8, 8, 8, 8, 8, 8, 8, 8, 8, 8, 8, 8, 8, 8, 8, 8, 8, 8, 8, 8, 8, 8, 8, 8, 8, 8, 8, 8, 8, 8, 8, 8, 8, 8, 8, 8, 8, 8, 8, 8, 8, 8, 8, 8, 8, 8, 8, 8, 8, 8, 8, 8, 8, 8, 8, 8, 8, 8, 8, 8, 8, 8, 8, 8, 8, 8, 8, 8, 8, 8, 8, 8, 8, 8, 8, 8, 8, 8, 8, 8, 8, 8, 8, 8, 8, 8, 8, 8, 8, 8, 8, 8, 8, 8, 8, 8, 8, 8, 8, 8, 8, 8, 8, 8, 8, 8, 8, 8, 8, 8, 8, 8, 8, 8, 8, 8, 8, 8, 8, 8, 8, 8]⟩) : ByteArray) (IntKind.u8.wrap (shrI .u64 x4 (8 : Int))).toNat fun x6 => K (.int .i64 (IntKind.i64.wrap ((IntKind.i64.wrap (x5 + (8 : Int))) + (IntKind.i64.wrap x6)))) H))) ((0 ≤ (IntKind.u8.wrap x4) ∧ ixB ((⟨#[0, 1, 2, 2, 3, 3, 3, 3, 4, 4, 4, 4, 4, 4, 4, 4, 5, 5, 5, 5, 5, 5, 5, 5, 5, 5, 5, 5, 5, 5, 5, 5, 6, 6, 6, 6, 6, 6, 6, 6, 6, 6, 6, 6, 6, 6, 6, 6, 6, 6, 6, 6, 6, 6, 6, 6, 6, 6, 6, 6, 6, 6, 6, 6, 7, 7, 7, 7, 7, 7, 7, 7, 7, 7, 7, 7, 7, 7, 7, 7, 7, 7, 7, 7, 7, 7, 7, 7, 7, 7, 7, 7, 7, 7, 7, 7, 7, 7, 7, 7, 7, 7, 7, 7, 7, 7, 7, 7, 7, 7, 7, 7, 7, 7, 7, 7, 7, 7, 7, 7, 7, 7, 7, 7, 7, 7, 7, 7, 8, 8, 8, 8, 8, 8, 8, 8, 8, 8, 8, 8, 8, 8, 8, 8, 8, 8, 8, 8, 8, 8, 8, 8, 8, 8, 8, 8, 8, 8, 8, 8, 8, 8, 8, 8, 8, 8, 8, 8, 8, 8, 8, 8, 8, 8, 8, 8, 8, 8, 8, 8, 8, 8, 8, 8, 8, 8, 8, 8, 8, 8, 8, 8, 8, 8, 8, 8, 8, 8, 8, 8, 8, 8, 8, 8, 8, 8, 8, 8, 8, 8, 8, 8, 8, 8, 8, 8, 8, 8, 8, 8, 8, 8, 8, 8, 8, 8, 8, 8, 8, 8, 8, 8, 8, 8, 8, 8, 8, 8, 8, 8, 8, 8, 8, 8, 8, 8, 8, 8, 8, 8, 8, 8, 8, 8, 8, 8]⟩) : ByteArray) (IntKind.u8.wrap x4).toNat fun x7 => K (.int .i64 (IntKind.i64.wrap (x5 + (IntKind.i64.wrap x7)))) H))
def W_math_bits_Len64.j4 (K : Value → Hp → Prop) (x2 : Int) (x3 : Int) (H : Hp) : Prop :=
  BIf (decide (x2 ≥ (65536 : Int))) ((0 ≤ (16 : Int) ∧ W_math_bits_Len64.j7 K (shrI .u64 x2 (16 : Int)) (IntKind.i64.wrap (x3 + (16 : Int))) H)) (W_math_bits_Len64.j7 K x2 x3 H)
def W_math_bits_Len64 (x1 : Int) (H : Hp) (K : Value → Hp → Prop) : Prop :=
  BIf (decide (x1 ≥ (4294967296 : Int))) ((0 ≤ (32 : Int) ∧ W_math_bits_Len64.j4 K (shrI .u64 x1 (32 : Int)) (32 : Int) H)) (W_math_bits_Len64.j4 K x1 (0 : Int) H)
def W_math_bits_Len64.Λ (K : Value → Hp → Prop) : Cuts := ⟨fun i => match Nat.beq i 7 with | true => some (fun E D H => DG (E.get? 0) fun w0 => DI .u64 w0 fun x4 => DG (E.get? 2) fun w2 => DI .i64 w2 fun x5 => DNilD D (W_math_bits_Len64.j7 K x4 x5 H)) | false => match Nat.beq i 4 with | true => some (fun E D H => DG (E.get? 0) fun w0 => DI .u64 w0 fun x2 => DG (E.get? 2) fun w2 => DI .i64 w2 fun x3 => DNilD D (W_math_bits_Len64.j4 K x2 x3 H)) | false => none, fun i => none, (fun _ => none)⟩
theorem W_math_bits_Len64.ok (x1 : Int) (H : Hp) (K : Value → Hp → Prop) (h : W_math_bits_Len64 x1 H K) : HCalls Tryz.prog 173 #[.int .u64 x1] H K :=
  hcalls Tryz.func173 rfl (Nat.le_of_ble_eq_true rfl) (hw_safe (Λ := (W_math_bits_Len64.Λ K)) mixWlbits _ _ _ _ _ (Eq.mp (by kernel_rfl) h) (obs_seq obs_region rfl (obs_seqc (obs_seq obs_region rfl (obs_cond (obs_seq obs_region rfl obs_region) obs_skip)) rfl (fun E D H h => by
      obtain ⟨w0, e0, g1⟩ := DG.out h
      obtain ⟨x2, rfl, g2⟩ := DI.out g1
      obtain ⟨w2, e2, g3⟩ := DG.out g2
      obtain ⟨x3, rfl, g4⟩ := DI.out g3
      obtain ⟨rfl, h'⟩ := DNilD.out g4
      exact (hw_safe (Λ := (W_math_bits_Len64.Λ K)) mixWlbits _ _ [(0, .int .u64 x2), (2, .int .i64 x3)] [] H (Eq.mp (by kernel_rfl) h') (obs_seqc (obs_seq obs_region rfl (obs_cond (obs_seq obs_region rfl obs_region) obs_skip)) rfl (fun E D H h => by
          obtain ⟨w0, e0, g1⟩ := DG.out h
          obtain ⟨x4, rfl, g2⟩ := DI.out g1
          obtain ⟨w2, e2, g3⟩ := DG.out g2
          obtain ⟨x5, rfl, g4⟩ := DI.out g3
          obtain ⟨rfl, h'⟩ := DNilD.out g4
          exact (hw_safe (Λ := (W_math_bits_Len64.Λ K)) mixWlbits _ _ [(0, .int .u64 x4), (2, .int .i64 x5)] [] H (Eq.mp (by kernel_rfl) h') (obs_seq (obs_seq obs_region rfl (obs_cond (obs_seq obs_region rfl obs_region) obs_skip)) rfl (obs_seq obs_region rfl obs_ret))).weaken (EnvLe.cons e0 (EnvLe.cons e2 (EnvLe.nil _))) (Hp.le_refl _)))).weaken (EnvLe.cons e0 (EnvLe.cons e2 (EnvLe.nil _))) (Hp.le_refl _)))))

-- math/bits.TrailingZeros32
def W_math_bits_TrailingZeros32 (x1 : Int) (H : Hp) (K : Value → Hp → Prop) : Prop :=
  BIf (x1 == (0 : Int)) (K (.int .i64 (32 : Int)) H) ((0 ≤ (27 : Int) ∧ ixI (shrI .u32 (IntKind.u32.wrap ((bAnd .u32 x1 (IntKind.u32.wrap (0 - x1))) * (125613361 : Int))) (27 : Int)) 32 (Ld H ((⟨1, 0, none⟩ : Addr).add ((shrI .u32 (IntKind.u32.wrap ((bAnd .u32 x1 (IntKind.u32.wrap (0 - x1))) * (125613361 : Int))) (27 : Int)).toNat * 1)) fun v1 => DI .u8 v1 fun x2 => K (.int .i64 (IntKind.i64.wrap x2)) H)))
def W_math_bits_TrailingZeros32.Λ (_ : Value → Hp → Prop) : Cuts := Cuts.none (fun _ => none)
theorem W_math_bits_TrailingZeros32.ok (x1 : Int) (H : Hp) (K : Value → Hp → Prop) (h : W_math_bits_TrailingZeros32 x1 H K) : HCalls Tryz.prog 190 #[.int .u32 x1] H K :=
  hcalls Tryz.func190 rfl (Nat.le_of_ble_eq_true rfl) (hw_safe (Λ := Cuts.none (fun _ => none)) mixWlbits _ _ _ _ _ (Eq.mp (by kernel_rfl) h) (obs_none _ _ _ _ _))

-- math/bits.TrailingZeros64
def W_math_bits_TrailingZeros64 (x1 : Int) (H : Hp) (K : Value → Hp → Prop) : Prop :=
  BIf (x1 == (0 : Int)) (K (.int .i64 (64 : Int)) H) ((0 ≤ (58 : Int) ∧ ixI (shrI .u64 (IntKind.u64.wrap ((bAnd .u64 x1 (IntKind.u64.wrap (0 - x1))) * (285870213051353865 : Int))) (58 : Int)) 64 (Ld H ((⟨2, 0, none⟩ : Addr).add ((shrI .u64 (IntKind.u64.wrap ((bAnd .u64 x1 (IntKind.u64.wrap (0 - x1))) * (285870213051353865 : Int))) (58 : Int)).toNat * 1)) fun v1 => DI .u8 v1 fun x2 => K (.int .i64 (IntKind.i64.wrap x2)) H)))
def W_math_bits_TrailingZeros64.Λ (_ : Value → Hp → Prop) : Cuts := Cuts.none (fun _ => none)
theorem W_math_bits_TrailingZeros64.ok (x1 : Int) (H : Hp) (K : Value → Hp → Prop) (h : W_math_bits_TrailingZeros64 x1 H K) : HCalls Tryz.prog 191 #[.int .u64 x1] H K :=
  hcalls Tryz.func191 rfl (Nat.le_of_ble_eq_true rfl) (hw_safe (Λ := Cuts.none (fun _ => none)) mixWlbits _ _ _ _ _ (Eq.mp (by kernel_rfl) h) (obs_none _ _ _ _ _))

-- math/bits.Mul64
def W_math_bits_Mul64 (x1 : Int) (x2 : Int) (H : Hp) (K : Value → Hp → Prop) : Prop :=
  (0 ≤ (32 : Int) ∧ (0 ≤ (32 : Int) ∧ (0 ≤ (32 : Int) ∧ (0 ≤ (32 : Int) ∧ (0 ≤ (32 : Int) ∧ K (.tuple #[.int .u64 (IntKind.u64.wrap ((IntKind.u64.wrap ((IntKind.u64.wrap ((shrI .u64 x1 (32 : Int)) * (shrI .u64 x2 (32 : Int)))) + (shrI .u64 (IntKind.u64.wrap ((IntKind.u64.wrap ((shrI .u64 x1 (32 : Int)) * (bAnd .u64 x2 (4294967295 : Int)))) + (shrI .u64 (IntKind.u64.wrap ((bAnd .u64 x1 (4294967295 : Int)) * (bAnd .u64 x2 (4294967295 : Int)))) (32 : Int)))) (32 : Int)))) + (shrI .u64 (IntKind.u64.wrap ((bAnd .u64 (IntKind.u64.wrap ((IntKind.u64.wrap ((shrI .u64 x1 (32 : Int)) * (bAnd .u64 x2 (4294967295 : Int)))) + (shrI .u64 (IntKind.u64.wrap ((bAnd .u64 x1 (4294967295 : Int)) * (bAnd .u64 x2 (4294967295 : Int)))) (32 : Int)))) (4294967295 : Int)) + (IntKind.u64.wrap ((bAnd .u64 x1 (4294967295 : Int)) * (shrI .u64 x2 (32 : Int)))))) (32 : Int)))), .int .u64 (IntKind.u64.wrap (x1 * x2))]) H)))))
def W_math_bits_Mul64.Λ (_ : Value → Hp → Prop) : Cuts := Cuts.none (fun _ => none)
theorem W_math_bits_Mul64.ok (x1 : Int) (x2 : Int) (H : Hp) (K : Value → Hp → Prop) (h : W_math_bits_Mul64 x1 x2 H K) : HCalls Tryz.prog 289 #[.int .u64 x1, .int .u64 x2] H K :=
  hcalls Tryz.func289 rfl (Nat.le_of_ble_eq_true rfl) (hw_safe (Λ := Cuts.none (fun _ => none)) mixWlbits _ _ _ _ _ (Eq.mp (by kernel_rfl) h) (obs_none _ _ _ _ _))

-- math/bits.Reverse64
def W_math_bits_Reverse64 (x1 : Int) (H : Hp) (K : Value → Hp → Prop) : Prop :=
  (0 ≤ (1 : Int) ∧ (0 ≤ (1 : Int) ∧ (0 ≤ (2 : Int) ∧ (0 ≤ (2 : Int) ∧ (0 ≤ (4 : Int) ∧ (0 ≤ (4 : Int) ∧ HCalls Tryz.prog 294 #[.int .u64 (bOr .u64 (bAnd .u64 (shrI .u64 (bOr .u64 (bAnd .u64 (shrI .u64 (bOr .u64 (bAnd .u64 (shrI .u64 x1 (1 : Int)) (6148914691236517205 : Int)) (shlI .u64 (bAnd .u64 x1 (6148914691236517205 : Int)) (1 : Int))) (2 : Int)) (3689348814741910323 : Int)) (shlI .u64 (bAnd .u64 (bOr .u64 (bAnd .u64 (shrI .u64 x1 (1 : Int)) (6148914691236517205 : Int)) (shlI .u64 (bAnd .u64 x1 (6148914691236517205 : Int)) (1 : Int))) (3689348814741910323 : Int)) (2 : Int))) (4 : Int)) (1085102592571150095 : Int)) (shlI .u64 (bAnd .u64 (bOr .u64 (bAnd .u64 (shrI .u64 (bOr .u64 (bAnd .u64 (shrI .u64 x1 (1 : Int)) (6148914691236517205 : Int)) (shlI .u64 (bAnd .u64 x1 (6148914691236517205 : Int)) (1 : Int))) (2 : Int)) (3689348814741910323 : Int)) (shlI .u64 (bAnd .u64 (bOr .u64 (bAnd .u64 (shrI .u64 x1 (1 : Int)) (6148914691236517205 : Int)) (shlI .u64 (bAnd .u64 x1 (6148914691236517205 : Int)) (1 : Int))) (3689348814741910323 : Int)) (2 : Int))) (1085102592571150095 : Int)) (4 : Int)))] H fun v1 H1 => DI .u64 v1 fun x2 => K (.int .u64 x2) H1))))))
def W_math_bits_Reverse64.Λ (_ : Value → Hp → Prop) : Cuts := Cuts.none (fun _ => none)
theorem W_math_bits_Reverse64.ok (x1 : Int) (H : Hp) (K : Value → Hp → Prop) (h : W_math_bits_Reverse64 x1 H K) : HCalls Tryz.prog 290 #[.int .u64 x1] H K :=
  hcalls Tryz.func290 rfl (Nat.le_of_ble_eq_true rfl) (hw_safe (Λ := Cuts.none (fun _ => none)) mixWlbits _ _ _ _ _ (Eq.mp (by kernel_rfl) h) (obs_none _ _ _ _ _))

-- math/bits.ReverseBytes64
def W_math_bits_ReverseBytes64 (x1 : Int) (H : Hp) (K : Value → Hp → Prop) : Prop :=
  (0 ≤ (8 : Int) ∧ (0 ≤ (8 : Int) ∧ (0 ≤ (16 : Int) ∧ (0 ≤ (16 : Int) ∧ (0 ≤ (32 : Int) ∧ (0 ≤ (32 : Int) ∧ K (.int .u64 (bOr .u64 (shrI .u64 (bOr .u64 (bAnd .u64 (shrI .u64 (bOr .u64 (bAnd .u64 (shrI .u64 x1 (8 : Int)) (71777214294589695 : Int)) (shlI .u64 (bAnd .u64 x1 (71777214294589695 : Int)) (8 : Int))) (16 : Int)) (281470681808895 : Int)) (shlI .u64 (bAnd .u64 (bOr .u64 (bAnd .u64 (shrI .u64 x1 (8 : Int)) (71777214294589695 : Int)) (shlI .u64 (bAnd .u64 x1 (71777214294589695 : Int)) (8 : Int))) (281470681808895 : Int)) (16 : Int))) (32 : Int)) (shlI .u64 (bOr .u64 (bAnd .u64 (shrI .u64 (bOr .u64 (bAnd .u64 (shrI .u64 x1 (8 : Int)) (71777214294589695 : Int)) (shlI .u64 (bAnd .u64 x1 (71777214294589695 : Int)) (8 : Int))) (16 : Int)) (281470681808895 : Int)) (shlI .u64 (bAnd .u64 (bOr .u64 (bAnd .u64 (shrI .u64 x1 (8 : Int)) (71777214294589695 : Int)) (shlI .u64 (bAnd .u64 x1 (71777214294589695 : Int)) (8 : Int))) (281470681808895 : Int)) (16 : Int))) (32 : Int)))) H))))))
def W_math_bits_ReverseBytes64.Λ (_ : Value → Hp → Prop) : Cuts := Cuts.none (fun _ => none)
theorem W_math_bits_ReverseBytes64.ok (x1 : Int) (H : Hp) (K : Value → Hp → Prop) (h : W_math_bits_ReverseBytes64 x1 H K) : HCalls Tryz.prog 294 #[.int .u64 x1] H K :=
  hcalls Tryz.func294 rfl (Nat.le_of_ble_eq_true rfl) (hw_safe (Λ := Cuts.none (fun _ => none)) mixWlbits _ _ _ _ _ (Eq.mp (by kernel_rfl) h) (obs_none _ _ _ _ _))

end Go.Proofs.YtlgpappgnndgiaaGreatDoor.W

end
section
/-! SrtC -/
/- slices.SortFunc of at most 12 records by their numbers: the contract; what it leaves. -/
set_option maxRecDepth 100000
set_option linter.unusedSimpArgs false
set_option linter.unusedVariables false
set_option linter.unnecessarySimpa false
set_option linter.unusedSectionVars false
namespace Go.Proofs.YtlgpappgnndgiaaGreatDoor.Srt
open Go Go.Hw Go.Proofs.YtlgpappgnndgiaaGreatDoor.W Go.Proofs.YtlgpappgnndgiaaGreatDoor.Rec

theorem isort_len : ∀ (i : Nat) (l : List R), (isort l i).length = l.length
  | 0, _ => rfl
  | i + 1, l => by
    show (bub (isort l i) (i + 1)).length = _
    rw [bub_len, isort_len i l]

theorem ins_outer (A : Option Addr) (n m : Nat) (hn : n ≤ 1000) (l : List R) (hl : l.length = n) (K : Value → Hp → Prop) (k : ∀ H', Hw.Sep [Own 91 8 A n m (recV (isort l (n - 1)))] H' → K (.tuple #[]) H') :
    ∀ (t i : Nat) (H : Hp), i + t = n - 1 → Hw.Sep [Own 91 8 A n m (recV (isort l i))] H →
      W_slices_insertionSortCmpFunc_api_Record.l1 K (t + 1) A n m 0 (n : Int) 75 #[] #[] ((i + 1 : Nat) : Int) H
  | 0, i, H, hi, hs => by
    unfold W_slices_insertionSortCmpFunc_api_Record.l1
    refine BIf_dneg (by omega) ?_
    obtain rfl : i = n - 1 := by omega
    exact k H hs
  | t + 1, i, H, hi, hs => by
    unfold W_slices_insertionSortCmpFunc_api_Record.l1
    refine BIf_dpos (by omega) ⟨i + 1 + 1, ?_⟩
    refine ins_inner A n m (i + 1) hn K _ (isort l (i + 1)) (fun H' hs' => ?_) (i + 1) (isort l i) H (by rw [isort_len]; exact hl) (by omega) rfl hs
    rw [i64w (by omega) (by omega), show ((i + 1 : Nat) : Int) + 1 = ((i + 1 + 1 : Nat) : Int) by omega]
    exact ins_outer A n m hn l hl K k t (i + 1) H' (by omega) hs'

theorem Len_ok (x : Nat) (hx : x < 18446744073709551616) (H : Hp) : HCalls Tryz.prog 126 #[.int .u64 (x : Int)] H (RetE (.int .i64 (Go.Lib.bitLen x : Int)) H) := by
  apply W_math_bits_Len.ok
  unfold W_math_bits_Len
  refine HCalls.use (Len64_hc x hx H) ?_
  simp only [DI_int', DB_bool, DS_string, DP_pointer, DSl_slice, DM_map, DA_agg, DTup_tuple, DCons_cons, DNil_nil, NN_some, BIf_true, BIf_false, BIf_same, List.toList_toArray, Bool.not_true, Bool.not_false]
  exact RetE.mk _ _

/-- slices.SortFunc by the numbers. -/
theorem SortFunc_tr (A : Option Addr) (n m : Nat) (hn : n ≤ 12) (l : List R) (hl : l.length = n) : Tr Tryz.prog 74 #[.slice A n m, .func (.func 75) #[] #[]]
    [Own 91 8 A n m (recV l)] fun v M => v = .tuple #[] ∧ M = [Own 91 8 A n m (recV (isort l (n - 1)))] := fun H hs => by
  apply W_slices_SortFunc_api_Record_api_Record.ok
  unfold W_slices_SortFunc_api_Record_api_Record
  rw [u64n (by omega)]
  refine HCalls.use (Len_ok n (by omega) H) ?_
  simp only [DI_int', DB_bool, DS_string, DP_pointer, DSl_slice, DM_map, DA_agg, DTup_tuple, DCons_cons, DNil_nil, NN_some, BIf_true, BIf_false, BIf_same, List.toList_toArray, Bool.not_true, Bool.not_false]
  have hI : HCalls Tryz.prog 164 #[.slice A n m, .int .i64 0, .int .i64 (n : Int), .func (.func 75) #[] #[]] H (fun v H' => v = .tuple #[] ∧ Hw.Sep [Own 91 8 A n m (recV (isort l (n - 1)))] H') := by
    apply W_slices_insertionSortCmpFunc_api_Record.ok
    unfold W_slices_insertionSortCmpFunc_api_Record
    rw [show IntKind.i64.wrap ((0 : Int) + 1) = ((0 + 1 : Nat) : Int) by decide]
    exact ⟨n - 1 + 1, ins_outer A n m (by omega) l hl _ (fun H' hs' => ⟨rfl, hs'⟩) (n - 1) 0 H (by omega) hs⟩
  have hP : HCalls Tryz.prog 125 #[.slice A n m, .int .i64 0, .int .i64 (n : Int), .int .i64 (Go.Lib.bitLen n : Int), .func (.func 75) #[] #[]] H (fun v H' => v = .tuple #[] ∧ Hw.Sep [Own 91 8 A n m (recV (isort l (n - 1)))] H') := by
    apply W_slices_pdqsortCmpFunc_api_Record.ok
    unfold W_slices_pdqsortCmpFunc_api_Record
    refine ⟨1, ?_⟩
    unfold W_slices_pdqsortCmpFunc_api_Record.l2
    refine BIf_dpos (by rw [i64w (by omega) (by omega)]; omega) ?_
    refine HCalls.mono hI ?_
    rintro v H' ⟨rfl, h⟩
    exact ⟨rfl, h⟩
  refine HCalls.mono hP ?_
  rintro v H' ⟨rfl, h⟩
  exact ⟨_, ⟨by first | trivial | rfl, rfl⟩, h⟩

/-! ## What it leaves -/

def upTo (l : List R) (i : Nat) : Prop := ∀ p q, p < q → q < i → q < l.length → (l.getD p dR).s ≤ (l.getD q dR).s

theorem swap_perm (l : List R) {j : Nat} (h : j + 1 < l.length) : ((l.set (j + 1) (l.getD j dR)).set j (l.getD (j + 1) dR)).Perm l := by
  induction l generalizing j with
  | nil => simp at h
  | cons x l ih =>
    cases j with
    | zero =>
      cases l with
      | nil => simp at h
      | cons y t => exact List.Perm.swap x y t
    | succ j =>
      exact (ih (j := j) (by simpa using h)).cons x
theorem bub_perm (j : Nat) : ∀ (l : List R), j < l.length → (bub l j).Perm l := by
  induction j with
  | zero => intro l _; exact List.Perm.refl _
  | succ j ih =>
    intro l h
    unfold bub
    split
    · refine (ih _ (by simp; omega)).trans (swap_perm l h)
    · exact List.Perm.refl _
theorem isort_perm (l : List R) : ∀ i, i < l.length ∨ i = 0 → (isort l i).Perm l
  | 0, _ => List.Perm.refl _
  | i + 1, h => by
    have ih := isort_perm l i (by omega)
    show (bub (isort l i) (i + 1)).Perm l
    refine (bub_perm (i + 1) _ (by rw [isort_len]; omega)).trans ih

end Go.Proofs.YtlgpappgnndgiaaGreatDoor.Srt

end
section
/-! SrtD -/
/- what slices.SortFunc leaves: the same records, by rising numbers. -/
set_option maxRecDepth 100000
set_option linter.unusedSimpArgs false
set_option linter.unusedVariables false
set_option linter.unnecessarySimpa false
set_option linter.unusedSectionVars false
namespace Go.Proofs.YtlgpappgnndgiaaGreatDoor.Srt
open Go Go.Hw Go.Proofs.YtlgpappgnndgiaaGreatDoor.Rec

def leR (a b : R) : Prop := a.s ≤ b.s

theorem bub_ins : ∀ (j : Nat) (p r : List R) (x : R), p.length = j → ∃ p', bub (p ++ x :: r) j = p' ++ r ∧ p'.length = j + 1 ∧ (p.Pairwise leR → p'.Pairwise leR) ∧ p'.Perm (x :: p)
  | 0, p, r, x, h => by
    rw [List.length_eq_zero_iff.1 h]
    exact ⟨[x], rfl, rfl, fun _ => by simp, List.Perm.refl _⟩
  | j + 1, p, r, x, h => by
    obtain ⟨q, y, rfl⟩ : ∃ q y, p = q ++ [y] := ⟨_, _, (List.dropLast_concat_getLast (by intro e; rw [e] at h; cases h)).symm⟩
    have hq : q.length = j := by simpa using h
    have e0 : q ++ [y] ++ x :: r = q ++ y :: x :: r := by simp
    rw [e0]
    unfold bub
    have g1 : (q ++ y :: x :: r).getD (j + 1) dR = x := by rw [List.getD_eq_getElem?_getD, List.getElem?_append_right (by omega), hq, show j + 1 - j = 1 by omega]; rfl
    have g0 : (q ++ y :: x :: r).getD j dR = y := by rw [List.getD_eq_getElem?_getD, List.getElem?_append_right (by omega), hq, Nat.sub_self]; rfl
    rw [g1, g0]
    by_cases hxy : x.s < y.s
    · rw [if_pos hxy]
      have es : ((q ++ y :: x :: r).set (j + 1) y).set j x = q ++ x :: y :: r := by
        rw [List.set_append_right _ _ (by omega), hq, show j + 1 - j = 1 by omega, List.set_append_right _ _ (by omega), hq, Nat.sub_self]
        rfl
      rw [es]
      obtain ⟨p'', h1, h2, h3, h4⟩ := bub_ins j q (y :: r) x hq
      refine ⟨p'' ++ [y], by rw [h1]; simp, by simp [h2], fun hs => ?_, ?_⟩
      · rw [List.pairwise_append] at hs ⊢
        obtain ⟨s1, _, s3⟩ := hs
        refine ⟨h3 s1, by simp, fun a ha b hb => ?_⟩
        have hb' : b = y := by simpa using hb
        subst hb'
        rcases List.mem_cons.1 (h4.mem_iff.1 ha) with rfl | ha
        · exact Nat.le_of_lt hxy
        · exact s3 a ha b (by simp)
      · have : (p'' ++ [y]).Perm ((x :: q) ++ [y]) := h4.append_right [y]
        simpa using this
    · rw [if_neg hxy]
      refine ⟨q ++ [y, x], by simp, by simp [hq], fun hs => ?_, ?_⟩
      · rw [List.pairwise_append] at hs ⊢
        obtain ⟨s1, _, s3⟩ := hs
        have hyx : leR y x := Nat.not_lt.1 hxy
        refine ⟨s1, by simp [hyx], fun a ha b hb => ?_⟩
        have hay := s3 a ha y (by simp)
        have : b = y ∨ b = x := by simpa using hb
        rcases this with rfl | rfl
        · exact hay
        · exact Nat.le_trans hay hyx
      · have : (q ++ [y] ++ [x]).Perm (x :: (q ++ [y])) := List.perm_append_comm
        simpa using this

theorem isort_pre : ∀ (i : Nat) (l : List R), i < l.length → ∃ p r, isort l i = p ++ r ∧ p.length = i + 1 ∧ p.Pairwise leR
  | 0, l, h => by
    cases l with
    | nil => simp at h
    | cons x t => exact ⟨[x], t, rfl, rfl, by simp⟩
  | i + 1, l, h => by
    obtain ⟨p, r, h1, h2, h3⟩ := isort_pre i l (by omega)
    have hlen := isort_len i l
    cases r with
    | nil =>
      rw [h1, List.append_nil, h2] at hlen
      omega
    | cons x r =>
      obtain ⟨p', g1, g2, g3, _⟩ := bub_ins (i + 1) p r x h2
      refine ⟨p', r, ?_, g2, g3 h3⟩
      show bub (isort l i) (i + 1) = _
      rw [h1, g1]
theorem isort_sorted (l : List R) : (isort l (l.length - 1)).Pairwise leR := by
  by_cases h0 : l = []
  · subst h0; exact List.Pairwise.nil
  · have hp : 0 < l.length := List.length_pos_iff.2 h0
    obtain ⟨p, r, h1, h2, h3⟩ := isort_pre (l.length - 1) l (by omega)
    have hlen := isort_len (l.length - 1) l
    rw [h1] at hlen ⊢
    have : r = [] := by
      rw [List.length_append, h2] at hlen
      exact List.length_eq_zero_iff.1 (by omega)
    rw [this, List.append_nil]
    exact h3
theorem isort_all (l : List R) : (isort l (l.length - 1)).Perm l := by
  by_cases h0 : l = []
  · subst h0; exact List.Perm.refl _
  · have hp : 0 < l.length := List.length_pos_iff.2 h0
    exact isort_perm l _ (.inl (by omega))

/-- Two rows by strictly rising numbers with the same records are one. -/
theorem rise_uniq : ∀ (a b : List R), a.Pairwise (fun x y => x.s < y.s) → b.Pairwise (fun x y => x.s < y.s) → a.Perm b → a = b
  | [], b, _, _, h => (List.nil_perm.1 h).symm
  | x :: a, [], _, _, h => by have := h.length_eq; simp at this
  | x :: a, y :: b, ha, hb, h => by
    rw [List.pairwise_cons] at ha hb
    have hxy : x = y := by
      rcases List.mem_cons.1 (h.mem_iff.1 (List.mem_cons_self : x ∈ x :: a)) with e | hx
      · exact e
      · rcases List.mem_cons.1 (h.mem_iff.2 (List.mem_cons_self : y ∈ y :: b)) with e | hy
        · exact e.symm
        · have h1 := ha.1 y hy
          have h2 := hb.1 x hx
          omega
    subst hxy
    rw [rise_uniq a b ha.2 hb.2 (List.Perm.cons_inv h)]

end Go.Proofs.YtlgpappgnndgiaaGreatDoor.Srt

end
section
/-! RecB -/
/- record: which may stand behind which. -/
set_option maxRecDepth 100000
set_option linter.unusedSimpArgs false
set_option linter.unusedVariables false
set_option linter.unnecessarySimpa false
set_option linter.unusedSectionVars false
namespace Go.Proofs.YtlgpappgnndgiaaGreatDoor.Rec
open Go Go.Hw Go.Proofs.YtlgpappgnndgiaaGreatDoor.W

abbrev after (a b : R) : Prop := a.good ∧ b.good ∧ b.s = a.s + 1 ∧ (b.kd = 1 ∨ (b.kd = 2 ∧ a.kd = 1 ∧ a.ld = b.ld ∧ a.kk = b.kk) ∨ (b.kd = 3 ∧ a.kd ≠ 1 ∧ a.ld = b.ld ∧ a.kk = b.kk ∧ a.inp = b.inp ∧ b.out = 0) ∨
  (b.kd = 4 ∧ 3 ≤ a.kd ∧ a.ld = b.ld ∧ a.kk = b.kk ∧ a.inp = b.inp ∧ a.dir = b.dir ∧ b.ps = a.ps + 1))
abbrev same (a b : R) : Prop := a.ld = b.ld ∧ a.kk = b.kk ∧ a.inp = b.inp

theorem same_ok (a b : R) (H : Hp) : HCalls Tryz.prog 130 #[.agg a.c, .agg b.c] H (RetE (.bool (decide (same a b))) H) := HCalls.ret (by
  apply W_record_same.ok
  unfold W_record_same
  refine (Sep.start H).nw fun b1 H1 hs => ?_
  refine hs.nw fun b2 H1 hs => ?_
  have hs : Sep [own H, pts b1 (recO a), pts b2 (recO b)] H1 := hs
  refine hs.ldf 1 rfl rfl ?_
  simp only [DI_int', DB_bool, DS_string, DP_pointer, DSl_slice, DM_map, DA_agg, DTup_tuple, DCons_cons, DNil_nil, NN_some, BIf_true, BIf_false, BIf_same, List.toList_toArray, Bool.not_true, Bool.not_false]
  refine hs.ldf 2 rfl rfl ?_
  simp only [DI_int', DB_bool, DS_string, DP_pointer, DSl_slice, DM_map, DA_agg, DTup_tuple, DCons_cons, DNil_nil, NN_some, BIf_true, BIf_false, BIf_same, List.toList_toArray, Bool.not_true, Bool.not_false]
  by_cases h1 : (a.ld : Int) = (b.ld : Int)
  · refine BIf_beqp h1 ?_
    refine hs.ldf 1 rfl rfl ?_
    simp only [DI_int', DB_bool, DS_string, DP_pointer, DSl_slice, DM_map, DA_agg, DTup_tuple, DCons_cons, DNil_nil, NN_some, BIf_true, BIf_false, BIf_same, List.toList_toArray, Bool.not_true, Bool.not_false]
    refine hs.ldf 2 rfl rfl ?_
    simp only [DI_int', DB_bool, DS_string, DP_pointer, DSl_slice, DM_map, DA_agg, DTup_tuple, DCons_cons, DNil_nil, NN_some, BIf_true, BIf_false, BIf_same, List.toList_toArray, Bool.not_true, Bool.not_false]
    by_cases h2 : a.kk = b.kk
    · refine BIf_beqp h2 ?_
      refine hs.ldf 1 rfl rfl ?_
      simp only [DI_int', DB_bool, DS_string, DP_pointer, DSl_slice, DM_map, DA_agg, DTup_tuple, DCons_cons, DNil_nil, NN_some, BIf_true, BIf_false, BIf_same, List.toList_toArray, Bool.not_true, Bool.not_false]
      refine hs.ldf 2 rfl rfl ?_
      simp only [DI_int', DB_bool, DS_string, DP_pointer, DSl_slice, DM_map, DA_agg, DTup_tuple, DCons_cons, DNil_nil, NN_some, BIf_true, BIf_false, BIf_same, List.toList_toArray, Bool.not_true, Bool.not_false]
      have : decide (same a b) = ((a.inp : Int) == (b.inp : Int)) := by
        by_cases h3 : (a.inp : Int) = (b.inp : Int)
        · rw [decide_eq_true ⟨by omega, h2, by omega⟩, h3]; simp
        · rw [decide_eq_false (fun h => by have := h.2.2; omega), beq_eq_false_iff_ne.2 h3]
      rw [this]
      exact hs.fin 0 rfl _
    · rw [decide_eq_false (fun h => h2 h.2.1)]
      exact BIf_beqn h2 (hs.fin 0 rfl _)
  · rw [decide_eq_false (fun h => h1 (by have := h.1; omega))]
    exact BIf_beqn h1 (hs.fin 0 rfl _))

section
variable {a b : R} {H0 H : Hp} {b1 b2 : Nat}
theorem aft_no (hs : Sep [own H0, pts b1 (recO a), pts b2 (recO b)] H) (h : ¬ after a b) : Ret (.bool (decide (after a b))) H0 (.bool false) H := by
  rw [decide_eq_false h]; exact hs.fin 0 rfl _
theorem aft_b (hs : Sep [own H0, pts b1 (recO a), pts b2 (recO b)] H) {x : Bool} (h : x = true ↔ after a b) : Ret (.bool (decide (after a b))) H0 (.bool x) H := by
  have : decide (after a b) = x := by
    cases x with
    | true => exact decide_eq_true (h.1 rfl)
    | false => exact decide_eq_false fun g => by have := h.2 g; cases this
  rw [this]; exact hs.fin 0 rfl _
end

theorem After_ok (a b : R) (H : Hp) : HCalls Tryz.prog 79 #[.agg a.c, .agg b.c] H (RetE (.bool (decide (after a b))) H) := HCalls.ret (by
  apply W_record_After.ok
  unfold W_record_After
  refine (Sep.start H).nw fun b1 H1 hs => ?_
  refine hs.nw fun b2 H1 hs => ?_
  have hs : Sep [own H, pts b1 (recO a), pts b2 (recO b)] H1 := hs
  refine hs.ldw 1 rfl rfl ?_
  refine HCalls.use (Good_ok a H1) ?_
  simp only [DI_int', DB_bool, DS_string, DP_pointer, DSl_slice, DM_map, DA_agg, DTup_tuple, DCons_cons, DNil_nil, NN_some, BIf_true, BIf_false, BIf_same, List.toList_toArray, Bool.not_true, Bool.not_false]
  by_cases ga : a.good
  case neg =>
    rw [decide_eq_false ga]
    exact BIf_pos rfl (aft_no hs fun h => ga h.1)
  rw [decide_eq_true ga]
  refine BIf_neg rfl ?_
  refine hs.ldw 2 rfl rfl ?_
  refine HCalls.use (Good_ok b H1) ?_
  simp only [DI_int', DB_bool, DS_string, DP_pointer, DSl_slice, DM_map, DA_agg, DTup_tuple, DCons_cons, DNil_nil, NN_some, BIf_true, BIf_false, BIf_same, List.toList_toArray, Bool.not_true, Bool.not_false]
  by_cases gb : b.good
  case neg =>
    rw [decide_eq_false gb]
    exact BIf_pos rfl (aft_no hs fun h => gb h.2.1)
  rw [decide_eq_true gb]
  refine BIf_neg rfl ?_
  have ga' := ga
  have gb' := gb
  obtain ⟨a1, a2, a3, a4, a5, a6⟩ := ga'
  obtain ⟨c1, c2, c3, c4, c5, c6⟩ := gb'
  refine hs.ldf 2 rfl rfl ?_
  simp only [DI_int', DB_bool, DS_string, DP_pointer, DSl_slice, DM_map, DA_agg, DTup_tuple, DCons_cons, DNil_nil, NN_some, BIf_true, BIf_false, BIf_same, List.toList_toArray, Bool.not_true, Bool.not_false]
  refine hs.ldf 1 rfl rfl ?_
  simp only [DI_int', DB_bool, DS_string, DP_pointer, DSl_slice, DM_map, DA_agg, DTup_tuple, DCons_cons, DNil_nil, NN_some, BIf_true, BIf_false, BIf_same, List.toList_toArray, Bool.not_true, Bool.not_false]
  rw [u64w (x := (a.s : Int) + 1) (by omega) (by omega)]
  by_cases hsq : (b.s : Int) = (a.s : Int) + 1
  case neg => exact BIf_bnep hsq (aft_no hs fun h => hsq (by have := h.2.2.1; omega))
  refine BIf_bnen hsq ?_
  have hd : ∀ {P : Prop}, (P ↔ (b.kd = 1 ∨ (b.kd = 2 ∧ a.kd = 1 ∧ a.ld = b.ld ∧ a.kk = b.kk) ∨ (b.kd = 3 ∧ a.kd ≠ 1 ∧ a.ld = b.ld ∧ a.kk = b.kk ∧ a.inp = b.inp ∧ b.out = 0) ∨ (b.kd = 4 ∧ 3 ≤ a.kd ∧ a.ld = b.ld ∧ a.kk = b.kk ∧ a.inp = b.inp ∧ a.dir = b.dir ∧ b.ps = a.ps + 1))) → (P ↔ after a b) := fun h => by
    rw [h]
    exact ⟨fun g => ⟨ga, gb, by omega, g⟩, fun g => g.2.2.2⟩
  have hn : ¬ (b.kd = 1 ∨ (b.kd = 2 ∧ a.kd = 1 ∧ a.ld = b.ld ∧ a.kk = b.kk) ∨ (b.kd = 3 ∧ a.kd ≠ 1 ∧ a.ld = b.ld ∧ a.kk = b.kk ∧ a.inp = b.inp ∧ b.out = 0) ∨ (b.kd = 4 ∧ 3 ≤ a.kd ∧ a.ld = b.ld ∧ a.kk = b.kk ∧ a.inp = b.inp ∧ a.dir = b.dir ∧ b.ps = a.ps + 1)) → Ret (.bool (decide (after a b))) H (.bool false) H1 := fun h => aft_no hs fun g => h g.2.2.2
  refine hs.ldf 2 rfl rfl ?_
  simp only [DI_int', DB_bool, DS_string, DP_pointer, DSl_slice, DM_map, DA_agg, DTup_tuple, DCons_cons, DNil_nil, NN_some, BIf_true, BIf_false, BIf_same, List.toList_toArray, Bool.not_true, Bool.not_false]
  by_cases k1 : b.kd = 1
  · exact BIf_beqp k1 (aft_b hs (hd ⟨fun _ => .inl k1, fun _ => rfl⟩))
  refine BIf_beqn k1 ?_
  by_cases k2 : b.kd = 2
  · refine BIf_beqp k2 ?_
    refine hs.ldf 1 rfl rfl ?_
    simp only [DI_int', DB_bool, DS_string, DP_pointer, DSl_slice, DM_map, DA_agg, DTup_tuple, DCons_cons, DNil_nil, NN_some, BIf_true, BIf_false, BIf_same, List.toList_toArray, Bool.not_true, Bool.not_false]
    by_cases h1 : a.kd = 1
    · refine BIf_beqp h1 ?_
      refine hs.ldf 1 rfl rfl ?_
      simp only [DI_int', DB_bool, DS_string, DP_pointer, DSl_slice, DM_map, DA_agg, DTup_tuple, DCons_cons, DNil_nil, NN_some, BIf_true, BIf_false, BIf_same, List.toList_toArray, Bool.not_true, Bool.not_false]
      refine hs.ldf 2 rfl rfl ?_
      simp only [DI_int', DB_bool, DS_string, DP_pointer, DSl_slice, DM_map, DA_agg, DTup_tuple, DCons_cons, DNil_nil, NN_some, BIf_true, BIf_false, BIf_same, List.toList_toArray, Bool.not_true, Bool.not_false]
      by_cases h2 : (a.ld : Int) = (b.ld : Int)
      · refine BIf_beqp h2 ?_
        refine hs.ldf 1 rfl rfl ?_
        simp only [DI_int', DB_bool, DS_string, DP_pointer, DSl_slice, DM_map, DA_agg, DTup_tuple, DCons_cons, DNil_nil, NN_some, BIf_true, BIf_false, BIf_same, List.toList_toArray, Bool.not_true, Bool.not_false]
        refine hs.ldf 2 rfl rfl ?_
        simp only [DI_int', DB_bool, DS_string, DP_pointer, DSl_slice, DM_map, DA_agg, DTup_tuple, DCons_cons, DNil_nil, NN_some, BIf_true, BIf_false, BIf_same, List.toList_toArray, Bool.not_true, Bool.not_false]
        refine aft_b hs (hd ?_)
        rw [beq_iff_eq]; omega
      · exact BIf_beqn h2 (hn (by omega))
    · exact BIf_beqn h1 (hn (by omega))
  refine BIf_beqn k2 ?_
  by_cases k3 : b.kd = 3
  · refine BIf_beqp k3 ?_
    refine hs.ldf 1 rfl rfl ?_
    simp only [DI_int', DB_bool, DS_string, DP_pointer, DSl_slice, DM_map, DA_agg, DTup_tuple, DCons_cons, DNil_nil, NN_some, BIf_true, BIf_false, BIf_same, List.toList_toArray, Bool.not_true, Bool.not_false]
    by_cases h1 : a.kd = 1
    · exact BIf_bnen h1 (hn (by omega))
    · refine BIf_bnep h1 ?_
      refine hs.ldw 1 rfl rfl ?_
      refine hs.ldw 2 rfl rfl ?_
      refine HCalls.use (same_ok a b H1) ?_
      simp only [DI_int', DB_bool, DS_string, DP_pointer, DSl_slice, DM_map, DA_agg, DTup_tuple, DCons_cons, DNil_nil, NN_some, BIf_true, BIf_false, BIf_same, List.toList_toArray, Bool.not_true, Bool.not_false]
      by_cases h2 : same a b
      · rw [decide_eq_true h2]
        refine BIf_pos rfl ?_
        obtain ⟨e1, e2, e3⟩ := h2
        refine hs.ldf 2 rfl rfl ?_
        simp only [DI_int', DB_bool, DS_string, DP_pointer, DSl_slice, DM_map, DA_agg, DTup_tuple, DCons_cons, DNil_nil, NN_some, BIf_true, BIf_false, BIf_same, List.toList_toArray, Bool.not_true, Bool.not_false]
        refine aft_b hs (hd ?_)
        rw [beq_iff_eq]; omega
      · rw [decide_eq_false h2]
        refine BIf_neg rfl (hn fun g => h2 ?_)
        rcases g with g | g | g | g
        · omega
        · omega
        · exact ⟨g.2.2.1, g.2.2.2.1, g.2.2.2.2.1⟩
        · omega
  refine BIf_beqn k3 ?_
  refine hs.ldf 1 rfl rfl ?_
  simp only [DI_int', DB_bool, DS_string, DP_pointer, DSl_slice, DM_map, DA_agg, DTup_tuple, DCons_cons, DNil_nil, NN_some, BIf_true, BIf_false, BIf_same, List.toList_toArray, Bool.not_true, Bool.not_false]
  by_cases h1 : a.kd ≥ 3
  · refine BIf_dpos h1 ?_
    refine hs.ldw 1 rfl rfl ?_
    refine hs.ldw 2 rfl rfl ?_
    refine HCalls.use (same_ok a b H1) ?_
    simp only [DI_int', DB_bool, DS_string, DP_pointer, DSl_slice, DM_map, DA_agg, DTup_tuple, DCons_cons, DNil_nil, NN_some, BIf_true, BIf_false, BIf_same, List.toList_toArray, Bool.not_true, Bool.not_false]
    by_cases h2 : same a b
    · rw [decide_eq_true h2]
      refine BIf_pos rfl ?_
      obtain ⟨e1, e2, e3⟩ := h2
      refine hs.ldf 1 rfl rfl ?_
      simp only [DI_int', DB_bool, DS_string, DP_pointer, DSl_slice, DM_map, DA_agg, DTup_tuple, DCons_cons, DNil_nil, NN_some, BIf_true, BIf_false, BIf_same, List.toList_toArray, Bool.not_true, Bool.not_false]
      refine hs.ldf 2 rfl rfl ?_
      simp only [DI_int', DB_bool, DS_string, DP_pointer, DSl_slice, DM_map, DA_agg, DTup_tuple, DCons_cons, DNil_nil, NN_some, BIf_true, BIf_false, BIf_same, List.toList_toArray, Bool.not_true, Bool.not_false]
      by_cases h3 : a.dir = b.dir
      · refine BIf_beqp h3 ?_
        refine hs.ldf 2 rfl rfl ?_
        simp only [DI_int', DB_bool, DS_string, DP_pointer, DSl_slice, DM_map, DA_agg, DTup_tuple, DCons_cons, DNil_nil, NN_some, BIf_true, BIf_false, BIf_same, List.toList_toArray, Bool.not_true, Bool.not_false]
        refine hs.ldf 1 rfl rfl ?_
        simp only [DI_int', DB_bool, DS_string, DP_pointer, DSl_slice, DM_map, DA_agg, DTup_tuple, DCons_cons, DNil_nil, NN_some, BIf_true, BIf_false, BIf_same, List.toList_toArray, Bool.not_true, Bool.not_false]
        rw [i64w (x := a.ps + 1) (by omega) (by omega)]
        refine aft_b hs (hd ?_)
        rw [beq_iff_eq]; omega
      · exact BIf_beqn h3 (hn (by omega))
    · rw [decide_eq_false h2]
      refine BIf_neg rfl (hn fun g => h2 ?_)
      rcases g with g | g | g | g
      · omega
      · omega
      · omega
      · exact ⟨g.2.2.1, g.2.2.2.1, g.2.2.2.2.1⟩
  · exact BIf_dneg h1 (hn (by omega)))

theorem rAfter_ok (a b : R) (H : Hp) : HCalls Tryz.prog 33 #[.agg a.c, .agg b.c] H (RetE (.bool (decide (after a b))) H) := HCalls.ret (by
  apply W_abacistref20_After.ok
  unfold W_abacistref20_After
  refine (Sep.start H).nw fun b1 H1 hs => ?_
  refine hs.nw fun b2 H1 hs => ?_
  have hs : Sep [own H, pts b1 (recO a), pts b2 (recO b)] H1 := hs
  refine hs.ldw 1 rfl rfl ?_
  refine HCalls.use (rGood_ok a H1) ?_
  simp only [DI_int', DB_bool, DS_string, DP_pointer, DSl_slice, DM_map, DA_agg, DTup_tuple, DCons_cons, DNil_nil, NN_some, BIf_true, BIf_false, BIf_same, List.toList_toArray, Bool.not_true, Bool.not_false]
  by_cases ga : a.good
  case neg =>
    rw [decide_eq_false ga]
    exact BIf_pos rfl (aft_no hs fun h => ga h.1)
  rw [decide_eq_true ga]
  refine BIf_neg rfl ?_
  refine hs.ldw 2 rfl rfl ?_
  refine HCalls.use (rGood_ok b H1) ?_
  simp only [DI_int', DB_bool, DS_string, DP_pointer, DSl_slice, DM_map, DA_agg, DTup_tuple, DCons_cons, DNil_nil, NN_some, BIf_true, BIf_false, BIf_same, List.toList_toArray, Bool.not_true, Bool.not_false]
  by_cases gb : b.good
  case neg =>
    rw [decide_eq_false gb]
    exact BIf_pos rfl (aft_no hs fun h => gb h.2.1)
  rw [decide_eq_true gb]
  refine BIf_neg rfl ?_
  have ga' := ga
  have gb' := gb
  obtain ⟨a1, a2, a3, a4, a5, a6⟩ := ga'
  obtain ⟨c1, c2, c3, c4, c5, c6⟩ := gb'
  refine hs.ldf 2 rfl rfl ?_
  simp only [DI_int', DB_bool, DS_string, DP_pointer, DSl_slice, DM_map, DA_agg, DTup_tuple, DCons_cons, DNil_nil, NN_some, BIf_true, BIf_false, BIf_same, List.toList_toArray, Bool.not_true, Bool.not_false]
  refine hs.ldf 1 rfl rfl ?_
  simp only [DI_int', DB_bool, DS_string, DP_pointer, DSl_slice, DM_map, DA_agg, DTup_tuple, DCons_cons, DNil_nil, NN_some, BIf_true, BIf_false, BIf_same, List.toList_toArray, Bool.not_true, Bool.not_false]
  rw [u64w (x := (a.s : Int) + 1) (by omega) (by omega)]
  by_cases hsq : (b.s : Int) = (a.s : Int) + 1
  case neg => exact BIf_bnep hsq (aft_no hs fun h => hsq (by have := h.2.2.1; omega))
  refine BIf_bnen hsq ?_
  have hd : ∀ {P : Prop}, (P ↔ (b.kd = 1 ∨ (b.kd = 2 ∧ a.kd = 1 ∧ a.ld = b.ld ∧ a.kk = b.kk) ∨ (b.kd = 3 ∧ a.kd ≠ 1 ∧ a.ld = b.ld ∧ a.kk = b.kk ∧ a.inp = b.inp ∧ b.out = 0) ∨ (b.kd = 4 ∧ 3 ≤ a.kd ∧ a.ld = b.ld ∧ a.kk = b.kk ∧ a.inp = b.inp ∧ a.dir = b.dir ∧ b.ps = a.ps + 1))) → (P ↔ after a b) := fun h => by
    rw [h]
    exact ⟨fun g => ⟨ga, gb, by omega, g⟩, fun g => g.2.2.2⟩
  have hn : ¬ (b.kd = 1 ∨ (b.kd = 2 ∧ a.kd = 1 ∧ a.ld = b.ld ∧ a.kk = b.kk) ∨ (b.kd = 3 ∧ a.kd ≠ 1 ∧ a.ld = b.ld ∧ a.kk = b.kk ∧ a.inp = b.inp ∧ b.out = 0) ∨ (b.kd = 4 ∧ 3 ≤ a.kd ∧ a.ld = b.ld ∧ a.kk = b.kk ∧ a.inp = b.inp ∧ a.dir = b.dir ∧ b.ps = a.ps + 1)) → Ret (.bool (decide (after a b))) H (.bool false) H1 := fun h => aft_no hs fun g => h g.2.2.2
  refine hs.ldf 2 rfl rfl ?_
  simp only [DI_int', DB_bool, DS_string, DP_pointer, DSl_slice, DM_map, DA_agg, DTup_tuple, DCons_cons, DNil_nil, NN_some, BIf_true, BIf_false, BIf_same, List.toList_toArray, Bool.not_true, Bool.not_false]
  by_cases k1 : b.kd = 1
  · exact BIf_beqp k1 (aft_b hs (hd ⟨fun _ => .inl k1, fun _ => rfl⟩))
  refine BIf_beqn k1 ?_
  refine hs.ldf 1 rfl rfl ?_
  simp only [DI_int', DB_bool, DS_string, DP_pointer, DSl_slice, DM_map, DA_agg, DTup_tuple, DCons_cons, DNil_nil, NN_some, BIf_true, BIf_false, BIf_same, List.toList_toArray, Bool.not_true, Bool.not_false]
  refine hs.ldf 2 rfl rfl ?_
  simp only [DI_int', DB_bool, DS_string, DP_pointer, DSl_slice, DM_map, DA_agg, DTup_tuple, DCons_cons, DNil_nil, NN_some, BIf_true, BIf_false, BIf_same, List.toList_toArray, Bool.not_true, Bool.not_false]
  by_cases e1 : (a.ld : Int) = (b.ld : Int)
  case neg => exact BIf_bnep e1 (hn (by omega))
  refine BIf_bnen e1 ?_
  refine hs.ldf 1 rfl rfl ?_
  simp only [DI_int', DB_bool, DS_string, DP_pointer, DSl_slice, DM_map, DA_agg, DTup_tuple, DCons_cons, DNil_nil, NN_some, BIf_true, BIf_false, BIf_same, List.toList_toArray, Bool.not_true, Bool.not_false]
  refine hs.ldf 2 rfl rfl ?_
  simp only [DI_int', DB_bool, DS_string, DP_pointer, DSl_slice, DM_map, DA_agg, DTup_tuple, DCons_cons, DNil_nil, NN_some, BIf_true, BIf_false, BIf_same, List.toList_toArray, Bool.not_true, Bool.not_false]
  by_cases e2 : a.kk = b.kk
  case neg => exact BIf_bnep e2 (hn (by omega))
  refine BIf_bnen e2 ?_
  refine hs.ldf 2 rfl rfl ?_
  simp only [DI_int', DB_bool, DS_string, DP_pointer, DSl_slice, DM_map, DA_agg, DTup_tuple, DCons_cons, DNil_nil, NN_some, BIf_true, BIf_false, BIf_same, List.toList_toArray, Bool.not_true, Bool.not_false]
  by_cases k2 : b.kd = 2
  · refine BIf_beqp k2 ?_
    refine hs.ldf 1 rfl rfl ?_
    simp only [DI_int', DB_bool, DS_string, DP_pointer, DSl_slice, DM_map, DA_agg, DTup_tuple, DCons_cons, DNil_nil, NN_some, BIf_true, BIf_false, BIf_same, List.toList_toArray, Bool.not_true, Bool.not_false]
    refine aft_b hs (hd ?_)
    rw [beq_iff_eq]; omega
  refine BIf_beqn k2 ?_
  refine hs.ldf 1 rfl rfl ?_
  simp only [DI_int', DB_bool, DS_string, DP_pointer, DSl_slice, DM_map, DA_agg, DTup_tuple, DCons_cons, DNil_nil, NN_some, BIf_true, BIf_false, BIf_same, List.toList_toArray, Bool.not_true, Bool.not_false]
  by_cases h1 : a.kd = 1
  · exact BIf_beqp h1 (hn (by omega))
  refine BIf_beqn h1 ?_
  refine hs.ldf 1 rfl rfl ?_
  simp only [DI_int', DB_bool, DS_string, DP_pointer, DSl_slice, DM_map, DA_agg, DTup_tuple, DCons_cons, DNil_nil, NN_some, BIf_true, BIf_false, BIf_same, List.toList_toArray, Bool.not_true, Bool.not_false]
  refine hs.ldf 2 rfl rfl ?_
  simp only [DI_int', DB_bool, DS_string, DP_pointer, DSl_slice, DM_map, DA_agg, DTup_tuple, DCons_cons, DNil_nil, NN_some, BIf_true, BIf_false, BIf_same, List.toList_toArray, Bool.not_true, Bool.not_false]
  by_cases e3 : (a.inp : Int) = (b.inp : Int)
  case neg => exact BIf_bnep e3 (hn (by omega))
  refine BIf_bnen e3 ?_
  refine hs.ldf 2 rfl rfl ?_
  simp only [DI_int', DB_bool, DS_string, DP_pointer, DSl_slice, DM_map, DA_agg, DTup_tuple, DCons_cons, DNil_nil, NN_some, BIf_true, BIf_false, BIf_same, List.toList_toArray, Bool.not_true, Bool.not_false]
  by_cases k3 : b.kd = 3
  · refine BIf_beqp k3 ?_
    refine hs.ldf 2 rfl rfl ?_
    simp only [DI_int', DB_bool, DS_string, DP_pointer, DSl_slice, DM_map, DA_agg, DTup_tuple, DCons_cons, DNil_nil, NN_some, BIf_true, BIf_false, BIf_same, List.toList_toArray, Bool.not_true, Bool.not_false]
    refine aft_b hs (hd ?_)
    rw [beq_iff_eq]; omega
  refine BIf_beqn k3 ?_
  refine hs.ldf 1 rfl rfl ?_
  simp only [DI_int', DB_bool, DS_string, DP_pointer, DSl_slice, DM_map, DA_agg, DTup_tuple, DCons_cons, DNil_nil, NN_some, BIf_true, BIf_false, BIf_same, List.toList_toArray, Bool.not_true, Bool.not_false]
  by_cases h2 : a.kd = 2
  · exact BIf_beqp h2 (hn (by omega))
  refine BIf_beqn h2 ?_
  refine hs.ldf 1 rfl rfl ?_
  simp only [DI_int', DB_bool, DS_string, DP_pointer, DSl_slice, DM_map, DA_agg, DTup_tuple, DCons_cons, DNil_nil, NN_some, BIf_true, BIf_false, BIf_same, List.toList_toArray, Bool.not_true, Bool.not_false]
  refine hs.ldf 2 rfl rfl ?_
  simp only [DI_int', DB_bool, DS_string, DP_pointer, DSl_slice, DM_map, DA_agg, DTup_tuple, DCons_cons, DNil_nil, NN_some, BIf_true, BIf_false, BIf_same, List.toList_toArray, Bool.not_true, Bool.not_false]
  by_cases e4 : a.dir = b.dir
  case neg => exact BIf_bnep e4 (hn (by omega))
  refine BIf_bnen e4 ?_
  refine hs.ldf 1 rfl rfl ?_
  simp only [DI_int', DB_bool, DS_string, DP_pointer, DSl_slice, DM_map, DA_agg, DTup_tuple, DCons_cons, DNil_nil, NN_some, BIf_true, BIf_false, BIf_same, List.toList_toArray, Bool.not_true, Bool.not_false]
  by_cases h3 : a.kd = 3
  · refine BIf_beqp h3 ?_
    refine hs.ldf 2 rfl rfl ?_
    simp only [DI_int', DB_bool, DS_string, DP_pointer, DSl_slice, DM_map, DA_agg, DTup_tuple, DCons_cons, DNil_nil, NN_some, BIf_true, BIf_false, BIf_same, List.toList_toArray, Bool.not_true, Bool.not_false]
    refine aft_b hs (hd ?_)
    rw [beq_iff_eq]; omega
  · refine BIf_beqn h3 ?_
    refine hs.ldf 2 rfl rfl ?_
    simp only [DI_int', DB_bool, DS_string, DP_pointer, DSl_slice, DM_map, DA_agg, DTup_tuple, DCons_cons, DNil_nil, NN_some, BIf_true, BIf_false, BIf_same, List.toList_toArray, Bool.not_true, Bool.not_false]
    refine hs.ldf 1 rfl rfl ?_
    simp only [DI_int', DB_bool, DS_string, DP_pointer, DSl_slice, DM_map, DA_agg, DTup_tuple, DCons_cons, DNil_nil, NN_some, BIf_true, BIf_false, BIf_same, List.toList_toArray, Bool.not_true, Bool.not_false]
    rw [i64w (x := a.ps + 1) (by omega) (by omega)]
    refine aft_b hs (hd ?_)
    rw [beq_iff_eq]; omega)

end Go.Proofs.YtlgpappgnndgiaaGreatDoor.Rec

end
section
/-! CrcM -/
/- Sums of bits: the plain laws. -/
set_option maxRecDepth 100000
set_option linter.unusedSimpArgs false
set_option linter.unusedVariables false
set_option linter.unnecessarySimpa false
set_option linter.unusedSectionVars false
namespace Go.Crc
open Go

abbrev W32 := BitVec 32
def poly : W32 := 0x82f63b78#32

/-- What a nought bit makes. -/
def bit1 (v : W32) : W32 := (v >>> 1) ^^^ (if v.getLsbD 0 then poly else 0#32)

def it (f : W32 → W32) : Nat → W32 → W32
  | 0, v => v
  | n + 1, v => it f n (f v)

theorem it_add (f : W32 → W32) : ∀ a b v, it f (a + b) v = it f b (it f a v)
  | 0, b, v => by simp [it]
  | a + 1, b, v => by rw [Nat.add_right_comm]; simp only [it]; exact it_add f a b (f v)
theorem it_succ' (f : W32 → W32) (n : Nat) (v : W32) : it f (n + 1) v = f (it f n v) := it_add f n 1 v
theorem it_mul (f : W32 → W32) (a : Nat) : ∀ b v, it f (a * b) v = it (it f a) b v
  | 0, v => rfl
  | b + 1, v => by rw [Nat.mul_succ, Nat.add_comm, it_add, it_mul f a b]; rfl

def Lin (f : W32 → W32) : Prop := ∀ x y, f (x ^^^ y) = f x ^^^ f y

theorem Lin.zero {f : W32 → W32} (h : Lin f) : f 0#32 = 0#32 := by
  have := h 0#32 0#32
  simp only [BitVec.xor_self] at this
  exact this
theorem Lin.it {f : W32 → W32} (h : Lin f) : ∀ n, Lin (it f n)
  | 0 => fun _ _ => rfl
  | n + 1 => fun x y => by simp only [Crc.it]; rw [h, Lin.it h n]

theorem xor4 (a b c d : W32) : (a ^^^ b) ^^^ (c ^^^ d) = (a ^^^ c) ^^^ (b ^^^ d) := by
  rw [BitVec.xor_assoc, ← BitVec.xor_assoc b, BitVec.xor_comm b c, BitVec.xor_assoc c, ← BitVec.xor_assoc]

theorem lin_bit1 : Lin bit1 := fun x y => by
  unfold bit1
  rw [BitVec.ushiftRight_xor_distrib, BitVec.getLsbD_xor, xor4]
  congr 1
  cases x.getLsbD 0 <;> cases y.getLsbD 0 <;> simp

theorem bit1_inj {x : W32} (h : bit1 x = 0#32) : x = 0#32 := by
  unfold bit1 at h
  have hp : poly.getLsbD 31 = true := by decide
  have h31 := congrArg (fun v => v.getLsbD 31) h
  simp only [BitVec.getLsbD_xor, BitVec.getLsbD_ushiftRight] at h31
  have h0 : x.getLsbD 0 = false := by
    cases hx : x.getLsbD 0 with
    | false => rfl
    | true =>
      rw [hx] at h31
      simp only [if_true, hp] at h31
      simp at h31
  rw [h0] at h
  simp only [Bool.false_eq_true, if_false, BitVec.xor_zero] at h
  apply BitVec.eq_of_getLsbD_eq
  intro i hi
  cases i with
  | zero => rw [h0]; simp
  | succ i =>
    have := congrArg (fun v => v.getLsbD i) h
    simp only [BitVec.getLsbD_ushiftRight] at this
    rw [Nat.add_comm, this]; simp

theorem it_inj {x : W32} : ∀ n, it bit1 n x = 0#32 → x = 0#32
  | 0, h => h
  | n + 1, h => bit1_inj (it_inj n h)

theorem bit1_shift {v : W32} (h : v.getLsbD 0 = false) : bit1 v = v >>> 1 := by unfold bit1; rw [h]; simp

theorem it_shift : ∀ (n : Nat) {v : W32}, (∀ i, i < n → v.getLsbD i = false) → it bit1 n v = v >>> n
  | 0, v, _ => by simp [it]
  | n + 1, v, h => by
    simp only [it]
    rw [bit1_shift (h 0 (by omega)), it_shift n (fun i hi => by rw [BitVec.getLsbD_ushiftRight]; exact h _ (by omega))]
    rw [← BitVec.shiftRight_add, Nat.add_comm]

/-- Four bits at once: by the table of half bytes. -/
theorem nibble (v : W32) : it bit1 4 v = (v >>> 4) ^^^ it bit1 4 (v &&& 15#32) := by
  have h1 : v = (v &&& ~~~15#32) ^^^ (v &&& 15#32) := by
    apply BitVec.eq_of_getLsbD_eq
    intro i hi
    simp only [BitVec.getLsbD_xor, BitVec.getLsbD_and, BitVec.getLsbD_not, hi, decide_true, Bool.true_and]
    cases v.getLsbD i <;> cases (15#32).getLsbD i <;> rfl
  have h2 : it bit1 4 (v &&& ~~~15#32) = (v &&& ~~~15#32) >>> 4 := it_shift 4 (fun i hi => by
    rw [BitVec.getLsbD_and]
    have : (~~~15#32).getLsbD i = false := by
      rcases (by omega : i = 0 ∨ i = 1 ∨ i = 2 ∨ i = 3) with rfl | rfl | rfl | rfl <;> decide
    rw [this, Bool.and_false])
  have h3 : (v &&& ~~~15#32) >>> 4 = v >>> 4 := by
    apply BitVec.eq_of_getLsbD_eq
    intro i hi
    simp only [BitVec.getLsbD_ushiftRight, BitVec.getLsbD_and, BitVec.getLsbD_not]
    by_cases h : 4 + i < 32
    · have : (15#32).getLsbD (4 + i) = false := by
        rw [show (15#32 : W32) = BitVec.ofNat 32 15 from rfl, BitVec.getLsbD_ofNat]
        have : Nat.testBit 15 (4 + i) = false := Nat.testBit_lt_two_pow (Nat.lt_of_lt_of_le (by decide : 15 < 2 ^ 4) (Nat.pow_le_pow_right (by decide) (by omega)))
        rw [this, Bool.and_false]
      simp only [this, h, decide_true, Bool.true_and, Bool.not_false, Bool.and_true]
    · have := BitVec.getLsbD_of_ge v (4 + i) (by omega)
      rw [this]; simp
  conv => lhs; rw [h1]
  rw [Lin.it lin_bit1 4, h2, h3]

def low (c : UInt8) : W32 := c.toBitVec.setWidth 32
/-- A byte more. -/
def byte (v : W32) (c : UInt8) : W32 := it bit1 8 (v ^^^ low c)
def run (v : W32) (bs : List UInt8) : W32 := bs.foldl byte v
/-- The sum of bytes behind others. -/
def more (s : W32) (bs : List UInt8) : W32 := ~~~ run (~~~ s) bs
def sum (bs : List UInt8) : W32 := more 0#32 bs

theorem run_append (v : W32) (a b : List UInt8) : run v (a ++ b) = run (run v a) b := List.foldl_append
theorem more_append (s : W32) (a b : List UInt8) : more s (a ++ b) = more (more s a) b := by
  unfold more; rw [run_append, BitVec.not_not]

theorem byte_lin (x y : W32) (c : UInt8) : byte (x ^^^ y) c = it bit1 8 x ^^^ byte y c := by
  unfold byte; rw [BitVec.xor_assoc, Lin.it lin_bit1 8]

theorem run_lin : ∀ (bs : List UInt8) (x y : W32), run (x ^^^ y) bs = it bit1 (8 * bs.length) x ^^^ run y bs
  | [], x, y => rfl
  | c :: bs, x, y => by
    simp only [run, List.foldl_cons, List.length_cons]
    rw [byte_lin]
    have := run_lin bs (it bit1 8 x) (byte y c)
    unfold run at this
    rw [this, Nat.mul_succ, Nat.add_comm, it_add]

/-- The sum of bytes behind others, by both sums. -/
theorem more_join (s : W32) (bs : List UInt8) : more s bs = it bit1 (8 * bs.length) s ^^^ sum bs := by
  unfold sum more
  have h : ~~~ s = s ^^^ ~~~ 0#32 := by
    apply BitVec.eq_of_getLsbD_eq
    intro i hi
    simp only [BitVec.getLsbD_not, BitVec.getLsbD_xor, BitVec.getLsbD_zero, hi, decide_true, Bool.true_and, Bool.not_false]
    cases s.getLsbD i <;> rfl
  rw [h, run_lin]
  apply BitVec.eq_of_getLsbD_eq
  intro i hi
  simp only [BitVec.getLsbD_not, BitVec.getLsbD_xor, hi, decide_true, Bool.true_and]
  cases (it bit1 (8 * bs.length) s).getLsbD i <;> cases (run (~~~0#32) bs).getLsbD i <;> rfl

/-! ## Matrices -/

/-- What a matrix makes of a sum: the entries of its bits, from the i-th on. -/
def app (m : Nat → W32) : Nat → Nat → W32 → W32 → W32
  | 0, _, _, out => out
  | k + 1, i, v, out => app m k (i + 1) (v >>> 1) (if v.getLsbD 0 then out ^^^ m i else out)

theorem app_lin {f : W32 → W32} (hf : Lin f) {m : Nat → W32} (hm : ∀ i, i < 32 → m i = f (1#32 <<< i)) :
    ∀ k i (v out : W32), i + k = 32 → app m k i v out = out ^^^ f (v <<< i)
  | 0, i, v, out, h => by
    obtain rfl : i = 32 := by omega
    have : v <<< 32 = 0#32 := by rw [BitVec.shiftLeft_eq_zero (by omega)]
    rw [this, hf.zero, BitVec.xor_zero]; rfl
  | k + 1, i, v, out, h => by
    simp only [app]
    rw [app_lin hf hm k (i + 1) _ _ (by omega)]
    have hv : v <<< i = (if v.getLsbD 0 then 1#32 <<< i else 0#32) ^^^ ((v >>> 1) <<< (i + 1)) := by
      apply BitVec.eq_of_getLsbD_eq
      intro j hj
      rw [BitVec.getLsbD_xor, BitVec.getLsbD_shiftLeft, BitVec.getLsbD_shiftLeft, BitVec.getLsbD_ushiftRight]
      by_cases h1 : j < i
      · have h2 : j < i + 1 := by omega
        cases v.getLsbD 0 <;> simp [h1, h2, BitVec.getLsbD_shiftLeft]
      · by_cases h2 : j = i
        · subst h2
          have h4 : j < j + 1 := by omega
          cases h3 : v.getLsbD 0
          · simp only [Nat.lt_irrefl, Nat.sub_self, h3, h4, Bool.false_eq_true, if_false, BitVec.getLsbD_zero, decide_true, Bool.not_true, Bool.and_false, Bool.false_and, Bool.xor_false]
          · simp only [Nat.lt_irrefl, Nat.sub_self, h3, h4, if_true, hj, BitVec.getLsbD_shiftLeft, decide_true, decide_false, Bool.not_true, Bool.not_false, Bool.and_false, Bool.and_true, Bool.false_and, Bool.xor_false]
            decide
        · have h3 : ¬ j < i + 1 := by omega
          have h4 : 1 + (j - (i + 1)) = j - i := by omega
          have h5 : (1#32).getLsbD (j - i) = false := by
            rw [show (1#32 : W32) = BitVec.ofNat 32 1 from rfl, BitVec.getLsbD_ofNat]
            have : Nat.testBit 1 (j - i) = false := Nat.testBit_lt_two_pow (Nat.lt_of_lt_of_le (by decide : 1 < 2 ^ 1) (Nat.pow_le_pow_right (by decide) (by omega)))
            rw [this, Bool.and_false]
          have h6 : j - i ≠ 0 := by omega
          cases v.getLsbD 0 <;> simp [h1, h3, h4, hj, h6, BitVec.getLsbD_shiftLeft]
    rw [hv, hf]
    cases v.getLsbD 0
    · simp [hf.zero]
    · simp only [if_true]
      rw [hm i (by omega), BitVec.xor_assoc]

/-- What a matrix makes of a sum. -/
def mul (m : Nat → W32) (v : W32) : W32 := app m 32 0 v 0#32

theorem mul_lin {f : W32 → W32} (hf : Lin f) {m : Nat → W32} (hm : ∀ i, i < 32 → m i = f (1#32 <<< i)) (v : W32) : mul m v = f v := by
  unfold mul; rw [app_lin hf hm 32 0 v 0#32 rfl]; simp

end Go.Crc

end
section
/-! Wcrc -/
/- Formulas of functions, printed by wip/tools/hwp.py. -/
set_option maxRecDepth 100000
set_option linter.unusedVariables false
namespace Go.Proofs.YtlgpappgnndgiaaGreatDoor.W
open Go Go.Hw

theorem mixWcrc : Tryz.prog.follows .mixedOrders = true := by kernel_rfl
-- (*crc.Counter).AddWords
def W_crc_Counter_AddWords (p1 : Option Addr) (A1 : Option Addr) (n1 : Nat) (m1 : Nat) (H : Hp) (K : Value → Hp → Prop) : Prop :=
  HCalls Tryz.prog 129 #[.slice A1 n1 m1] H fun v1 H1 => DSl v1 fun A2 n2 m2 => HCalls Tryz.prog 147 #[.pointer p1, .slice A2 n2 m2] H1 fun v2 H2 => K (.tuple #[]) H2
def W_crc_Counter_AddWords.Λ (_ : Value → Hp → Prop) : Cuts := Cuts.none (fun _ => none)
theorem W_crc_Counter_AddWords.ok (p1 : Option Addr) (A1 : Option Addr) (n1 : Nat) (m1 : Nat) (H : Hp) (K : Value → Hp → Prop) (h : W_crc_Counter_AddWords p1 A1 n1 m1 H K) : HCalls Tryz.prog 106 #[.pointer p1, .slice A1 n1 m1] H K :=
  hcalls Tryz.func106 rfl (Nat.le_of_ble_eq_true rfl) (hw_safe (Λ := Cuts.none (fun _ => none)) mixWcrc _ _ _ _ _ (Eq.mp (by kernel_rfl) h) (obs_none _ _ _ _ _))

-- (*crc.Counter).Sum
def W_crc_Counter_Sum (p1 : Option Addr) (H : Hp) (K : Value → Hp → Prop) : Prop :=
  NN p1 fun a1 => Ld H (a1.add 0) fun v1 => DI .u32 v1 fun x1 => K (.int .u32 x1) H
def W_crc_Counter_Sum.Λ (_ : Value → Hp → Prop) : Cuts := Cuts.none (fun _ => none)
theorem W_crc_Counter_Sum.ok (p1 : Option Addr) (H : Hp) (K : Value → Hp → Prop) (h : W_crc_Counter_Sum p1 H K) : HCalls Tryz.prog 107 #[.pointer p1] H K :=
  hcalls Tryz.func107 rfl (Nat.le_of_ble_eq_true rfl) (hw_safe (Λ := Cuts.none (fun _ => none)) mixWcrc _ _ _ _ _ (Eq.mp (by kernel_rfl) h) (obs_none _ _ _ _ _))

-- (*crc.Counter).Add
def W_crc_Counter_Add (p1 : Option Addr) (A1 : Option Addr) (n1 : Nat) (m1 : Nat) (H : Hp) (K : Value → Hp → Prop) : Prop :=
  NN p1 fun a1 => Ld H (a1.add 0) fun v1 => DI .u32 v1 fun x1 => HCalls Tryz.prog 188 #[.int .u32 x1, .slice A1 n1 m1] H fun v2 H1 => DI .u32 v2 fun x2 => NN p1 fun a2 => St H1 ((a2.add 0).add 0) (.int .u32 x2) fun H2 => NN p1 fun a3 => Ld H2 (a3.add 1) fun v3 => DI .i64 v3 fun x3 => NN p1 fun a4 => St H2 ((a4.add 1).add 0) (.int .i64 (IntKind.i64.wrap (x3 + ((n1 : Nat) : Int)))) fun H3 => K (.tuple #[]) H3
def W_crc_Counter_Add.Λ (_ : Value → Hp → Prop) : Cuts := Cuts.none (fun _ => none)
theorem W_crc_Counter_Add.ok (p1 : Option Addr) (A1 : Option Addr) (n1 : Nat) (m1 : Nat) (H : Hp) (K : Value → Hp → Prop) (h : W_crc_Counter_Add p1 A1 n1 m1 H K) : HCalls Tryz.prog 147 #[.pointer p1, .slice A1 n1 m1] H K :=
  hcalls Tryz.func147 rfl (Nat.le_of_ble_eq_true rfl) (hw_safe (Λ := Cuts.none (fun _ => none)) mixWcrc _ _ _ _ _ (Eq.mp (by kernel_rfl) h) (obs_none _ _ _ _ _))

-- crc.OfWords
def W_crc_OfWords (A1 : Option Addr) (n1 : Nat) (m1 : Nat) (H : Hp) (K : Value → Hp → Prop) : Prop :=
  HCalls Tryz.prog 129 #[.slice A1 n1 m1] H fun v1 H1 => DSl v1 fun A2 n2 m2 => HCalls Tryz.prog 203 #[.slice A2 n2 m2] H1 fun v2 H2 => DI .u32 v2 fun x1 => K (.int .u32 x1) H2
def W_crc_OfWords.Λ (_ : Value → Hp → Prop) : Cuts := Cuts.none (fun _ => none)
theorem W_crc_OfWords.ok (A1 : Option Addr) (n1 : Nat) (m1 : Nat) (H : Hp) (K : Value → Hp → Prop) (h : W_crc_OfWords A1 n1 m1 H K) : HCalls Tryz.prog 161 #[.slice A1 n1 m1] H K :=
  hcalls Tryz.func161 rfl (Nat.le_of_ble_eq_true rfl) (hw_safe (Λ := Cuts.none (fun _ => none)) mixWcrc _ _ _ _ _ (Eq.mp (by kernel_rfl) h) (obs_none _ _ _ _ _))

-- crc.More
def W_crc_More.l4 (K : Value → Hp → Prop) : Nat → Addr → Int → Option Addr → Nat → Nat → Int → Int → Hp → Prop
  | 0, _, _, _, _, _, _, _, _ => False
  | k + 1, a1, x2, A2, n2, m2, x3, x4, H =>
    let R4 := W_crc_More.l4 K k
    BIf (decide (x4 < x3)) (ixI x4 n2 (NN A2 fun a2 => Ld H (a2.add (x4.toNat * 1)) fun v2 => DI .u8 v2 fun x5 => (0 ≤ (4 : Int) ∧ ixI (bAnd .u32 (bXor .u32 x2 (IntKind.u32.wrap x5)) (15 : Int)) 16 (Ld H (a1.add ((bAnd .u32 (bXor .u32 x2 (IntKind.u32.wrap x5)) (15 : Int)).toNat * 1)) fun v3 => DI .u32 v3 fun x6 => (0 ≤ (4 : Int) ∧ ixI (bAnd .u32 (bXor .u32 (shrI .u32 (bXor .u32 x2 (IntKind.u32.wrap x5)) (4 : Int)) x6) (15 : Int)) 16 (Ld H (a1.add ((bAnd .u32 (bXor .u32 (shrI .u32 (bXor .u32 x2 (IntKind.u32.wrap x5)) (4 : Int)) x6) (15 : Int)).toNat * 1)) fun v4 => DI .u32 v4 fun x7 => R4 a1 (bXor .u32 (shrI .u32 (bXor .u32 (shrI .u32 (bXor .u32 x2 (IntKind.u32.wrap x5)) (4 : Int)) x6) (4 : Int)) x7) A2 n2 m2 x3 (IntKind.i64.wrap (x4 + (1 : Int))) H)))))) (K (.int .u32 (bXor .u32 IntKind.u32.max x2)) H)
def W_crc_More (x1 : Int) (A1 : Option Addr) (n1 : Nat) (m1 : Nat) (H : Hp) (K : Value → Hp → Prop) : Prop :=
  HCalls Tryz.prog 229 #[] H fun v1 H1 => DA v1 fun y1 => Nw H1 (.obj (.cells #[.int .u32 (0 : Int), .int .u32 (0 : Int), .int .u32 (0 : Int), .int .u32 (0 : Int), .int .u32 (0 : Int), .int .u32 (0 : Int), .int .u32 (0 : Int), .int .u32 (0 : Int), .int .u32 (0 : Int), .int .u32 (0 : Int), .int .u32 (0 : Int), .int .u32 (0 : Int), .int .u32 (0 : Int), .int .u32 (0 : Int), .int .u32 (0 : Int), .int .u32 (0 : Int)] 328)) fun b1 H2 => StA H2 (⟨b1, 0, none⟩ : Addr) y1 16 fun H3 => (∃ k, W_crc_More.l4 K k (⟨b1, 0, none⟩ : Addr) (bXor .u32 IntKind.u32.max x1) A1 n1 m1 ((n1 : Nat) : Int) (0 : Int) H3)
def W_crc_More.l4.L (K : Value → Hp → Prop) (k : Nat) : Mid := fun E D H =>
  DG (E.get? 5) fun w5 => DP w5 fun pw5 => NN pw5 fun a1 => DG (E.get? 6) fun w6 => DI .u32 w6 fun x2 => DG (E.get? 12) fun w12 => DSl w12 fun A2 n2 m2 => DG (E.get? 13) fun w13 => DI .i64 w13 fun x3 => DG (E.get? 14) fun w14 => DI .i64 w14 fun x4 => DNilD D (W_crc_More.l4 K k a1 x2 A2 n2 m2 x3 x4 H)
def W_crc_More.Λ4 (_ : Value → Hp → Prop) (_R4 : Addr → Int → Option Addr → Nat → Nat → Int → Int → Hp → Prop) : Cuts := Cuts.none (fun _ => none)
def W_crc_More.Λ (K : Value → Hp → Prop) : Cuts := ⟨fun i => none, fun i => match Nat.beq i 4 with | true => some (fun E D H => ∃ k, W_crc_More.l4.L K k E D H) | false => none, (fun _ => none)⟩
theorem W_crc_More.ok (x1 : Int) (A1 : Option Addr) (n1 : Nat) (m1 : Nat) (H : Hp) (K : Value → Hp → Prop) (h : W_crc_More x1 A1 n1 m1 H K) : HCalls Tryz.prog 188 #[.int .u32 x1, .slice A1 n1 m1] H K :=
  hcalls Tryz.func188 rfl (Nat.le_of_ble_eq_true rfl) (hw_safe (Λ := (W_crc_More.Λ K)) mixWcrc _ _ _ _ _ (Eq.mp (by kernel_rfl) h) (obs_seq obs_region rfl (obs_seq obs_region rfl (obs_seq obs_region rfl (obs_seq (obs_seq obs_region rfl (obs_block (obs_loop rfl (fun E D H h => by
      refine Safe.loop' (W_crc_More.l4.L K) (fun E D H h => ?_) (fun k E D H h => ?_) E D H h
      · obtain ⟨w5, e5, g1⟩ := DG.out h; obtain ⟨pw5, rfl, g2⟩ := DP.out g1; obtain ⟨a1, rfl, g3⟩ := NN.out g2; obtain ⟨w6, e6, g4⟩ := DG.out g3; obtain ⟨x2, rfl, g5⟩ := DI.out g4; obtain ⟨w12, e12, g6⟩ := DG.out g5; obtain ⟨A2, n2, m2, rfl, g7⟩ := DSl.out g6; obtain ⟨w13, e13, g8⟩ := DG.out g7; obtain ⟨x3, rfl, g9⟩ := DI.out g8; obtain ⟨w14, e14, g10⟩ := DG.out g9; obtain ⟨x4, rfl, g11⟩ := DI.out g10; obtain ⟨rfl, h'⟩ := DNilD.out g11; exact h'
      · obtain ⟨w5, e5, g1⟩ := DG.out h
        obtain ⟨pw5, rfl, g2⟩ := DP.out g1
        obtain ⟨a1, rfl, g3⟩ := NN.out g2
        obtain ⟨w6, e6, g4⟩ := DG.out g3
        obtain ⟨x2, rfl, g5⟩ := DI.out g4
        obtain ⟨w12, e12, g6⟩ := DG.out g5
        obtain ⟨A2, n2, m2, rfl, g7⟩ := DSl.out g6
        obtain ⟨w13, e13, g8⟩ := DG.out g7
        obtain ⟨x3, rfl, g9⟩ := DI.out g8
        obtain ⟨w14, e14, g10⟩ := DG.out g9
        obtain ⟨x4, rfl, g11⟩ := DI.out g10
        obtain ⟨rfl, h'⟩ := DNilD.out g11
        exact (hw_safe (Λ := (W_crc_More.Λ4 K (W_crc_More.l4 K k))) mixWcrc _ _ [(5, .pointer (some a1)), (6, .int .u32 x2), (12, .slice A2 n2 m2), (13, .int .i64 x3), (14, .int .i64 x4)] [] H (Eq.mp (by kernel_rfl) h') (obs_seq obs_region rfl (obs_seq (obs_cond obs_skip obs_exit) rfl (obs_seq (obs_block (obs_seq obs_region rfl (obs_seq obs_region rfl (obs_seq obs_region rfl obs_region)))) rfl obs_region)))).weaken (EnvLe.cons e5 (EnvLe.cons e6 (EnvLe.cons e12 (EnvLe.cons e13 (EnvLe.cons e14 (EnvLe.nil _)))))) (Hp.le_refl _))))) rfl (obs_seq obs_region rfl obs_ret))))))

-- crc.Of
def W_crc_Of (A1 : Option Addr) (n1 : Nat) (m1 : Nat) (H : Hp) (K : Value → Hp → Prop) : Prop :=
  HCalls Tryz.prog 188 #[.int .u32 (0 : Int), .slice A1 n1 m1] H fun v1 H1 => DI .u32 v1 fun x1 => K (.int .u32 x1) H1
def W_crc_Of.Λ (_ : Value → Hp → Prop) : Cuts := Cuts.none (fun _ => none)
theorem W_crc_Of.ok (A1 : Option Addr) (n1 : Nat) (m1 : Nat) (H : Hp) (K : Value → Hp → Prop) (h : W_crc_Of A1 n1 m1 H K) : HCalls Tryz.prog 203 #[.slice A1 n1 m1] H K :=
  hcalls Tryz.func203 rfl (Nat.le_of_ble_eq_true rfl) (hw_safe (Λ := Cuts.none (fun _ => none)) mixWcrc _ _ _ _ _ (Eq.mp (by kernel_rfl) h) (obs_none _ _ _ _ _))

-- crc.nibbles
def W_crc_nibbles.l6 (K : Value → Hp → Prop) (R2 : Addr → Int → Hp → Prop) : Nat → Addr → Int → Int → Int → Int → Hp → Prop
  | 0, _, _, _, _, _, _ => False
  | k + 1, a2, x2, x3, x4, x5, H =>
    let R6 := W_crc_nibbles.l6 K R2 k
    BIf (decide (x5 < (4 : Int))) ((0 ≤ (1 : Int) ∧ R6 a2 x2 (bXor .u32 (shrI .u32 x3 (1 : Int)) (IntKind.u32.wrap ((2197175160 : Int) * (bAnd .u32 x3 (1 : Int))))) x4 (IntKind.i64.wrap (x5 + (1 : Int))) H)) (ixI x2 16 (St H ((a2.add (x2.toNat * 1)).add 0) (.int .u32 x3) fun H2 => R2 a2 (IntKind.i64.wrap (x4 + (1 : Int))) H2))
def W_crc_nibbles.l2 (K : Value → Hp → Prop) : Nat → Addr → Int → Hp → Prop
  | 0, _, _, _ => False
  | k + 1, a1, x1, H =>
    let R2 := W_crc_nibbles.l2 K k
    BIf (decide (x1 < (16 : Int))) ((∃ k, W_crc_nibbles.l6 K R2 k a1 x1 (IntKind.u32.wrap x1) x1 (0 : Int) H)) (LdA H a1 16 fun l1 => StA H a1 l1.toArray 16 fun H3 => LdA H3 a1 16 fun l2 => K (.agg l2.toArray) H3)
def W_crc_nibbles (H : Hp) (K : Value → Hp → Prop) : Prop :=
  Nw H (.obj (.cells #[.int .u32 (0 : Int), .int .u32 (0 : Int), .int .u32 (0 : Int), .int .u32 (0 : Int), .int .u32 (0 : Int), .int .u32 (0 : Int), .int .u32 (0 : Int), .int .u32 (0 : Int), .int .u32 (0 : Int), .int .u32 (0 : Int), .int .u32 (0 : Int), .int .u32 (0 : Int), .int .u32 (0 : Int), .int .u32 (0 : Int), .int .u32 (0 : Int), .int .u32 (0 : Int)] 328)) fun b1 H1 => (∃ k, W_crc_nibbles.l2 K k (⟨b1, 0, none⟩ : Addr) (0 : Int) H1)
def W_crc_nibbles.l2.L (K : Value → Hp → Prop) (k : Nat) : Mid := fun E D H =>
  DG (E.get? 0) fun w0 => DP w0 fun pw0 => NN pw0 fun a1 => DG (E.get? 3) fun w3 => DI .i64 w3 fun x1 => DNilD D (W_crc_nibbles.l2 K k a1 x1 H)
def W_crc_nibbles.l6.L (K : Value → Hp → Prop) (R2 : Addr → Int → Hp → Prop) (k : Nat) : Mid := fun E D H =>
  DG (E.get? 0) fun w0 => DP w0 fun pw0 => NN pw0 fun a2 => DG (E.get? 1) fun w1 => DI .i64 w1 fun x2 => DG (E.get? 2) fun w2 => DI .u32 w2 fun x3 => DG (E.get? 3) fun w3 => DI .i64 w3 fun x4 => DG (E.get? 8) fun w8 => DI .i64 w8 fun x5 => DNilD D (W_crc_nibbles.l6 K R2 k a2 x2 x3 x4 x5 H)
def W_crc_nibbles.Λ6 (_ : Value → Hp → Prop) (_R2 : Addr → Int → Hp → Prop) (_R6 : Addr → Int → Int → Int → Int → Hp → Prop) : Cuts := Cuts.none (fun _ => none)
def W_crc_nibbles.Λ2 (K : Value → Hp → Prop) (R2 : Addr → Int → Hp → Prop) : Cuts := ⟨fun i => none, fun i => match Nat.beq i 6 with | true => some (fun E D H => ∃ k, W_crc_nibbles.l6.L K R2 k E D H) | false => none, (fun _ => none)⟩
def W_crc_nibbles.Λ (K : Value → Hp → Prop) : Cuts := ⟨fun i => none, fun i => match Nat.beq i 2 with | true => some (fun E D H => ∃ k, W_crc_nibbles.l2.L K k E D H) | false => none, (fun _ => none)⟩
theorem W_crc_nibbles.ok (H : Hp) (K : Value → Hp → Prop) (h : W_crc_nibbles H K) : HCalls Tryz.prog 229 #[] H K :=
  hcalls Tryz.func229 rfl (Nat.le_of_ble_eq_true rfl) (hw_safe (Λ := (W_crc_nibbles.Λ K)) mixWcrc _ _ _ _ _ (Eq.mp (by kernel_rfl) h) (obs_seq obs_region rfl (obs_seq (obs_seq obs_region rfl (obs_block (obs_loop rfl (fun E D H h => by
      refine Safe.loop' (W_crc_nibbles.l2.L K) (fun E D H h => ?_) (fun k E D H h => ?_) E D H h
      · obtain ⟨w0, e0, g1⟩ := DG.out h; obtain ⟨pw0, rfl, g2⟩ := DP.out g1; obtain ⟨a1, rfl, g3⟩ := NN.out g2; obtain ⟨w3, e3, g4⟩ := DG.out g3; obtain ⟨x1, rfl, g5⟩ := DI.out g4; obtain ⟨rfl, h'⟩ := DNilD.out g5; exact h'
      · obtain ⟨w0, e0, g1⟩ := DG.out h
        obtain ⟨pw0, rfl, g2⟩ := DP.out g1
        obtain ⟨a1, rfl, g3⟩ := NN.out g2
        obtain ⟨w3, e3, g4⟩ := DG.out g3
        obtain ⟨x1, rfl, g5⟩ := DI.out g4
        obtain ⟨rfl, h'⟩ := DNilD.out g5
        exact (hw_safe (Λ := (W_crc_nibbles.Λ2 K (W_crc_nibbles.l2 K k))) mixWcrc _ _ [(0, .pointer (some a1)), (3, .int .i64 x1)] [] H (Eq.mp (by kernel_rfl) h') (obs_seq obs_region rfl (obs_seq (obs_cond obs_skip obs_exit) rfl (obs_seq (obs_block (obs_seq obs_region rfl (obs_seq obs_region rfl (obs_seq (obs_seq obs_region rfl (obs_block (obs_loop rfl (fun E D H h => by
            refine Safe.loop' (W_crc_nibbles.l6.L K (W_crc_nibbles.l2 K k)) (fun E D H h => ?_) (fun k E D H h => ?_) E D H h
            · obtain ⟨w0, e0, g1⟩ := DG.out h; obtain ⟨pw0, rfl, g2⟩ := DP.out g1; obtain ⟨a2, rfl, g3⟩ := NN.out g2; obtain ⟨w1, e1, g4⟩ := DG.out g3; obtain ⟨x2, rfl, g5⟩ := DI.out g4; obtain ⟨w2, e2, g6⟩ := DG.out g5; obtain ⟨x3, rfl, g7⟩ := DI.out g6; obtain ⟨w3, e3, g8⟩ := DG.out g7; obtain ⟨x4, rfl, g9⟩ := DI.out g8; obtain ⟨w8, e8, g10⟩ := DG.out g9; obtain ⟨x5, rfl, g11⟩ := DI.out g10; obtain ⟨rfl, h'⟩ := DNilD.out g11; exact h'
            · obtain ⟨w0, e0, g1⟩ := DG.out h
              obtain ⟨pw0, rfl, g2⟩ := DP.out g1
              obtain ⟨a2, rfl, g3⟩ := NN.out g2
              obtain ⟨w1, e1, g4⟩ := DG.out g3
              obtain ⟨x2, rfl, g5⟩ := DI.out g4
              obtain ⟨w2, e2, g6⟩ := DG.out g5
              obtain ⟨x3, rfl, g7⟩ := DI.out g6
              obtain ⟨w3, e3, g8⟩ := DG.out g7
              obtain ⟨x4, rfl, g9⟩ := DI.out g8
              obtain ⟨w8, e8, g10⟩ := DG.out g9
              obtain ⟨x5, rfl, g11⟩ := DI.out g10
              obtain ⟨rfl, h'⟩ := DNilD.out g11
              exact (hw_safe (Λ := (W_crc_nibbles.Λ6 K (W_crc_nibbles.l2 K k) (W_crc_nibbles.l6 K (W_crc_nibbles.l2 K k) k))) mixWcrc _ _ [(0, .pointer (some a2)), (1, .int .i64 x2), (2, .int .u32 x3), (3, .int .i64 x4), (8, .int .i64 x5)] [] H (Eq.mp (by kernel_rfl) h') (obs_seq obs_region rfl (obs_seq (obs_cond obs_skip obs_exit) rfl (obs_seq (obs_block obs_region) rfl obs_region)))).weaken (EnvLe.cons e0 (EnvLe.cons e1 (EnvLe.cons e2 (EnvLe.cons e3 (EnvLe.cons e8 (EnvLe.nil _)))))) (Hp.le_refl _))))) rfl obs_region)))) rfl obs_region)))).weaken (EnvLe.cons e0 (EnvLe.cons e3 (EnvLe.nil _))) (Hp.le_refl _))))) rfl (obs_seq obs_region rfl obs_ret))))

end Go.Proofs.YtlgpappgnndgiaaGreatDoor.W

end
section
/-! Wcodec -/
/- Formulas of functions, printed by wip/tools/hwp.py. -/
set_option maxRecDepth 100000
set_option linter.unusedVariables false
namespace Go.Proofs.YtlgpappgnndgiaaGreatDoor.W
open Go Go.Hw

theorem mixWcodec : Tryz.prog.follows .mixedOrders = true := by kernel_rfl
-- codec.Put
def W_codec_Put.l3 (K : Value → Hp → Prop) : Nat → Option Addr → Nat → Nat → Option Addr → Nat → Nat → Int → Int → Hp → Prop
  | 0, _, _, _, _, _, _, _, _, _ => False
  | k + 1, A3, n3, m3, A4, n4, m4, x1, x2, H =>
    let R3 := W_codec_Put.l3 K k
    BIf (decide (x2 < x1)) (ixI x2 n4 (NN A4 fun a1 => Ld H (a1.add (x2.toNat * 1)) fun v2 => DI .u64 v2 fun x3 => slB n3 m3 (some (IntKind.i64.wrap ((8 : Int) * x2))) none fun n5 n6 => HCalls Tryz.prog 174 #[.slice (slA A3 m3 n5 1) (n6 - n5) (m3 - n5), .int .u64 x3] H fun v3 H2 => R3 A3 n3 m3 A4 n4 m4 x1 (IntKind.i64.wrap (x2 + (1 : Int))) H2)) (K (.slice A3 n3 m3) H)
def W_codec_Put (A1 : Option Addr) (n1 : Nat) (m1 : Nat) (H : Hp) (K : Value → Hp → Prop) : Prop :=
  MkS Tryz.prog 5 (IntKind.i64.wrap ((8 : Int) * ((n1 : Nat) : Int))) (IntKind.i64.wrap ((8 : Int) * ((n1 : Nat) : Int))) H fun v1 H1 => DSl v1 fun A2 n2 m2 => (∃ k, W_codec_Put.l3 K k A2 n2 m2 A1 n1 m1 ((n1 : Nat) : Int) (0 : Int) H1)
def W_codec_Put.l3.L (K : Value → Hp → Prop) (k : Nat) : Mid := fun E D H =>
  DG (E.get? 3) fun w3 => DSl w3 fun A3 n3 m3 => DG (E.get? 10) fun w10 => DSl w10 fun A4 n4 m4 => DG (E.get? 11) fun w11 => DI .i64 w11 fun x1 => DG (E.get? 12) fun w12 => DI .i64 w12 fun x2 => DNilD D (W_codec_Put.l3 K k A3 n3 m3 A4 n4 m4 x1 x2 H)
def W_codec_Put.Λ3 (_ : Value → Hp → Prop) (_R3 : Option Addr → Nat → Nat → Option Addr → Nat → Nat → Int → Int → Hp → Prop) : Cuts := Cuts.none (fun _ => none)
def W_codec_Put.Λ (K : Value → Hp → Prop) : Cuts := ⟨fun i => none, fun i => match Nat.beq i 3 with | true => some (fun E D H => ∃ k, W_codec_Put.l3.L K k E D H) | false => none, (fun _ => none)⟩
theorem W_codec_Put.ok (A1 : Option Addr) (n1 : Nat) (m1 : Nat) (H : Hp) (K : Value → Hp → Prop) (h : W_codec_Put A1 n1 m1 H K) : HCalls Tryz.prog 129 #[.slice A1 n1 m1] H K :=
  hcalls Tryz.func129 rfl (Nat.le_of_ble_eq_true rfl) (hw_safe (Λ := (W_codec_Put.Λ K)) mixWcodec _ _ _ _ _ (Eq.mp (by kernel_rfl) h) (obs_seq obs_region rfl (obs_seq obs_region rfl (obs_seq (obs_seq obs_region rfl (obs_block (obs_loop rfl (fun E D H h => by
      refine Safe.loop' (W_codec_Put.l3.L K) (fun E D H h => ?_) (fun k E D H h => ?_) E D H h
      · obtain ⟨w3, e3, g1⟩ := DG.out h; obtain ⟨A3, n3, m3, rfl, g2⟩ := DSl.out g1; obtain ⟨w10, e10, g3⟩ := DG.out g2; obtain ⟨A4, n4, m4, rfl, g4⟩ := DSl.out g3; obtain ⟨w11, e11, g5⟩ := DG.out g4; obtain ⟨x1, rfl, g6⟩ := DI.out g5; obtain ⟨w12, e12, g7⟩ := DG.out g6; obtain ⟨x2, rfl, g8⟩ := DI.out g7; obtain ⟨rfl, h'⟩ := DNilD.out g8; exact h'
      · obtain ⟨w3, e3, g1⟩ := DG.out h
        obtain ⟨A3, n3, m3, rfl, g2⟩ := DSl.out g1
        obtain ⟨w10, e10, g3⟩ := DG.out g2
        obtain ⟨A4, n4, m4, rfl, g4⟩ := DSl.out g3
        obtain ⟨w11, e11, g5⟩ := DG.out g4
        obtain ⟨x1, rfl, g6⟩ := DI.out g5
        obtain ⟨w12, e12, g7⟩ := DG.out g6
        obtain ⟨x2, rfl, g8⟩ := DI.out g7
        obtain ⟨rfl, h'⟩ := DNilD.out g8
        exact (hw_safe (Λ := (W_codec_Put.Λ3 K (W_codec_Put.l3 K k))) mixWcodec _ _ [(3, .slice A3 n3 m3), (10, .slice A4 n4 m4), (11, .int .i64 x1), (12, .int .i64 x2)] [] H (Eq.mp (by kernel_rfl) h') (obs_seq obs_region rfl (obs_seq (obs_cond obs_skip obs_exit) rfl (obs_seq (obs_block (obs_seq obs_region rfl obs_region)) rfl obs_region)))).weaken (EnvLe.cons e3 (EnvLe.cons e10 (EnvLe.cons e11 (EnvLe.cons e12 (EnvLe.nil _))))) (Hp.le_refl _))))) rfl (obs_seq obs_region rfl obs_ret)))))

-- codec.Word
def W_codec_Word (A1 : Option Addr) (n1 : Nat) (m1 : Nat) (x1 : Int) (H : Hp) (K : Value → Hp → Prop) : Prop :=
  HCalls Tryz.prog 185 #[.slice A1 n1 m1, .int .i64 x1] H fun v1 H1 => DB v1 fun c1 => BIf (!c1) (K (.tuple #[.int .u64 (0 : Int), .int .i64 (2 : Int)]) H1) (slB n1 m1 (some (IntKind.i64.wrap ((8 : Int) * x1))) none fun n2 n3 => HCalls Tryz.prog 186 #[.slice (slA A1 m1 n2 1) (n3 - n2) (m1 - n2)] H1 fun v2 H2 => DI .u64 v2 fun x2 => K (.tuple #[.int .u64 x2, .int .i64 (0 : Int)]) H2)
def W_codec_Word.Λ (_ : Value → Hp → Prop) : Cuts := Cuts.none (fun _ => none)
theorem W_codec_Word.ok (A1 : Option Addr) (n1 : Nat) (m1 : Nat) (x1 : Int) (H : Hp) (K : Value → Hp → Prop) (h : W_codec_Word A1 n1 m1 x1 H K) : HCalls Tryz.prog 144 #[.slice A1 n1 m1, .int .i64 x1] H K :=
  hcalls Tryz.func144 rfl (Nat.le_of_ble_eq_true rfl) (hw_safe (Λ := Cuts.none (fun _ => none)) mixWcodec _ _ _ _ _ (Eq.mp (by kernel_rfl) h) (obs_none _ _ _ _ _))

-- codec.set
def W_codec_set.l1 (K : Value → Hp → Prop) : Nat → Option Addr → Nat → Nat → Int → Int → Hp → Prop
  | 0, _, _, _, _, _, _ => False
  | k + 1, A2, n2, m2, x2, x3, H =>
    let R1 := W_codec_set.l1 K k
    BIf (decide (x3 < (8 : Int))) ((0 ≤ (IntKind.u64.wrap (IntKind.i64.wrap ((8 : Int) * x3))) ∧ ixI x3 n2 (NN A2 fun a1 => St H ((a1.add (x3.toNat * 1)).add 0) (.int .u8 (IntKind.u8.wrap (shrI .u64 x2 (IntKind.u64.wrap (IntKind.i64.wrap ((8 : Int) * x3)))))) fun H1 => R1 A2 n2 m2 x2 (IntKind.i64.wrap (x3 + (1 : Int))) H1))) (K (.tuple #[]) H)
def W_codec_set (A1 : Option Addr) (n1 : Nat) (m1 : Nat) (x1 : Int) (H : Hp) (K : Value → Hp → Prop) : Prop :=
  (∃ k, W_codec_set.l1 K k A1 n1 m1 x1 (0 : Int) H)
def W_codec_set.l1.L (K : Value → Hp → Prop) (k : Nat) : Mid := fun E D H =>
  DG (E.get? 0) fun w0 => DSl w0 fun A2 n2 m2 => DG (E.get? 1) fun w1 => DI .u64 w1 fun x2 => DG (E.get? 5) fun w5 => DI .i64 w5 fun x3 => DNilD D (W_codec_set.l1 K k A2 n2 m2 x2 x3 H)
def W_codec_set.Λ1 (_ : Value → Hp → Prop) (_R1 : Option Addr → Nat → Nat → Int → Int → Hp → Prop) : Cuts := Cuts.none (fun _ => none)
def W_codec_set.Λ (K : Value → Hp → Prop) : Cuts := ⟨fun i => none, fun i => match Nat.beq i 1 with | true => some (fun E D H => ∃ k, W_codec_set.l1.L K k E D H) | false => none, (fun _ => none)⟩
theorem W_codec_set.ok (A1 : Option Addr) (n1 : Nat) (m1 : Nat) (x1 : Int) (H : Hp) (K : Value → Hp → Prop) (h : W_codec_set A1 n1 m1 x1 H K) : HCalls Tryz.prog 174 #[.slice A1 n1 m1, .int .u64 x1] H K :=
  hcalls Tryz.func174 rfl (Nat.le_of_ble_eq_true rfl) (hw_safe (Λ := (W_codec_set.Λ K)) mixWcodec _ _ _ _ _ (Eq.mp (by kernel_rfl) h) (obs_seq obs_region rfl (obs_block (obs_loop rfl (fun E D H h => by
      refine Safe.loop' (W_codec_set.l1.L K) (fun E D H h => ?_) (fun k E D H h => ?_) E D H h
      · obtain ⟨w0, e0, g1⟩ := DG.out h; obtain ⟨A2, n2, m2, rfl, g2⟩ := DSl.out g1; obtain ⟨w1, e1, g3⟩ := DG.out g2; obtain ⟨x2, rfl, g4⟩ := DI.out g3; obtain ⟨w5, e5, g5⟩ := DG.out g4; obtain ⟨x3, rfl, g6⟩ := DI.out g5; obtain ⟨rfl, h'⟩ := DNilD.out g6; exact h'
      · obtain ⟨w0, e0, g1⟩ := DG.out h
        obtain ⟨A2, n2, m2, rfl, g2⟩ := DSl.out g1
        obtain ⟨w1, e1, g3⟩ := DG.out g2
        obtain ⟨x2, rfl, g4⟩ := DI.out g3
        obtain ⟨w5, e5, g5⟩ := DG.out g4
        obtain ⟨x3, rfl, g6⟩ := DI.out g5
        obtain ⟨rfl, h'⟩ := DNilD.out g6
        exact (hw_safe (Λ := (W_codec_set.Λ1 K (W_codec_set.l1 K k))) mixWcodec _ _ [(0, .slice A2 n2 m2), (1, .int .u64 x2), (5, .int .i64 x3)] [] H (Eq.mp (by kernel_rfl) h') (obs_seq obs_region rfl (obs_seq (obs_cond obs_skip obs_exit) rfl (obs_seq (obs_block (obs_seq obs_region rfl obs_region)) rfl obs_region)))).weaken (EnvLe.cons e0 (EnvLe.cons e1 (EnvLe.cons e5 (EnvLe.nil _)))) (Hp.le_refl _))))))

-- codec.inside
def W_codec_inside (A1 : Option Addr) (n1 : Nat) (m1 : Nat) (x1 : Int) (H : Hp) (K : Value → Hp → Prop) : Prop :=
  BIf (decide (x1 ≥ (0 : Int))) (((8 : Int) ≠ 0 ∧ IntKind.i64 = IntKind.i64 ∧ K (.bool (decide (x1 < (IntKind.i64.wrap (Int.tdiv ((n1 : Nat) : Int) (8 : Int)))))) H)) (K (.bool false) H)
def W_codec_inside.Λ (_ : Value → Hp → Prop) : Cuts := Cuts.none (fun _ => none)
theorem W_codec_inside.ok (A1 : Option Addr) (n1 : Nat) (m1 : Nat) (x1 : Int) (H : Hp) (K : Value → Hp → Prop) (h : W_codec_inside A1 n1 m1 x1 H K) : HCalls Tryz.prog 185 #[.slice A1 n1 m1, .int .i64 x1] H K :=
  hcalls Tryz.func185 rfl (Nat.le_of_ble_eq_true rfl) (hw_safe (Λ := Cuts.none (fun _ => none)) mixWcodec _ _ _ _ _ (Eq.mp (by kernel_rfl) h) (obs_none _ _ _ _ _))

-- codec.word
def W_codec_word.l3 (K : Value → Hp → Prop) : Nat → Option Addr → Nat → Nat → Int → Int → Hp → Prop
  | 0, _, _, _, _, _, _ => False
  | k + 1, A2, n2, m2, x1, x2, H =>
    let R3 := W_codec_word.l3 K k
    BIf (decide (x2 ≥ (0 : Int))) ((0 ≤ (8 : Int) ∧ ixI x2 n2 (NN A2 fun a1 => Ld H (a1.add (x2.toNat * 1)) fun v1 => DI .u8 v1 fun x3 => R3 A2 n2 m2 (bOr .u64 (shlI .u64 x1 (8 : Int)) (IntKind.u64.wrap x3)) (IntKind.i64.wrap (x2 - (1 : Int))) H))) (K (.int .u64 x1) H)
def W_codec_word (A1 : Option Addr) (n1 : Nat) (m1 : Nat) (H : Hp) (K : Value → Hp → Prop) : Prop :=
  (∃ k, W_codec_word.l3 K k A1 n1 m1 (0 : Int) (7 : Int) H)
def W_codec_word.l3.L (K : Value → Hp → Prop) (k : Nat) : Mid := fun E D H =>
  DG (E.get? 0) fun w0 => DSl w0 fun A2 n2 m2 => DG (E.get? 3) fun w3 => DI .u64 w3 fun x1 => DG (E.get? 4) fun w4 => DI .i64 w4 fun x2 => DNilD D (W_codec_word.l3 K k A2 n2 m2 x1 x2 H)
def W_codec_word.Λ3 (_ : Value → Hp → Prop) (_R3 : Option Addr → Nat → Nat → Int → Int → Hp → Prop) : Cuts := Cuts.none (fun _ => none)
def W_codec_word.Λ (K : Value → Hp → Prop) : Cuts := ⟨fun i => none, fun i => match Nat.beq i 3 with | true => some (fun E D H => ∃ k, W_codec_word.l3.L K k E D H) | false => none, (fun _ => none)⟩
theorem W_codec_word.ok (A1 : Option Addr) (n1 : Nat) (m1 : Nat) (H : Hp) (K : Value → Hp → Prop) (h : W_codec_word A1 n1 m1 H K) : HCalls Tryz.prog 186 #[.slice A1 n1 m1] H K :=
  hcalls Tryz.func186 rfl (Nat.le_of_ble_eq_true rfl) (hw_safe (Λ := (W_codec_word.Λ K)) mixWcodec _ _ _ _ _ (Eq.mp (by kernel_rfl) h) (obs_seq obs_region rfl (obs_seq obs_region rfl (obs_seq (obs_seq obs_region rfl (obs_block (obs_loop rfl (fun E D H h => by
      refine Safe.loop' (W_codec_word.l3.L K) (fun E D H h => ?_) (fun k E D H h => ?_) E D H h
      · obtain ⟨w0, e0, g1⟩ := DG.out h; obtain ⟨A2, n2, m2, rfl, g2⟩ := DSl.out g1; obtain ⟨w3, e3, g3⟩ := DG.out g2; obtain ⟨x1, rfl, g4⟩ := DI.out g3; obtain ⟨w4, e4, g5⟩ := DG.out g4; obtain ⟨x2, rfl, g6⟩ := DI.out g5; obtain ⟨rfl, h'⟩ := DNilD.out g6; exact h'
      · obtain ⟨w0, e0, g1⟩ := DG.out h
        obtain ⟨A2, n2, m2, rfl, g2⟩ := DSl.out g1
        obtain ⟨w3, e3, g3⟩ := DG.out g2
        obtain ⟨x1, rfl, g4⟩ := DI.out g3
        obtain ⟨w4, e4, g5⟩ := DG.out g4
        obtain ⟨x2, rfl, g6⟩ := DI.out g5
        obtain ⟨rfl, h'⟩ := DNilD.out g6
        exact (hw_safe (Λ := (W_codec_word.Λ3 K (W_codec_word.l3 K k))) mixWcodec _ _ [(0, .slice A2 n2 m2), (3, .int .u64 x1), (4, .int .i64 x2)] [] H (Eq.mp (by kernel_rfl) h') (obs_seq (obs_seq obs_region rfl (obs_cond obs_skip obs_exit)) rfl (obs_seq (obs_block obs_region) rfl obs_region))).weaken (EnvLe.cons e0 (EnvLe.cons e3 (EnvLe.cons e4 (EnvLe.nil _)))) (Hp.le_refl _))))) rfl (obs_seq obs_region rfl obs_ret)))))

end Go.Proofs.YtlgpappgnndgiaaGreatDoor.W

end
section
/-! Wabacistref04 -/
/- Formulas of functions, printed by wip/tools/hwp.py. -/
set_option maxRecDepth 100000
set_option linter.unusedVariables false
namespace Go.Proofs.YtlgpappgnndgiaaGreatDoor.W
open Go Go.Hw

theorem mixWabacistref04 : Tryz.prog.follows .mixedOrders = true := by kernel_rfl
-- abacistref04.Same
def W_abacistref04_Same.l4 (K : Value → Hp → Prop) : Nat → Option Addr → Nat → Nat → Option Addr → Nat → Nat → Int → Hp → Prop
  | 0, _, _, _, _, _, _, _, _ => False
  | k + 1, A3, n3, m3, A4, n4, m4, x1, H =>
    let R4 := W_abacistref04_Same.l4 K k
    BIf (decide (x1 < ((n3 : Nat) : Int))) (ixI x1 n3 (NN A3 fun a1 => Ld H (a1.add (x1.toNat * 1)) fun v1 => DI .u64 v1 fun x2 => ixI x1 n4 (NN A4 fun a2 => Ld H (a2.add (x1.toNat * 1)) fun v2 => DI .u64 v2 fun x3 => BIf (x2 != x3) (K (.bool false) H) (R4 A3 n3 m3 A4 n4 m4 (IntKind.i64.wrap (x1 + (1 : Int))) H)))) (K (.bool true) H)
def W_abacistref04_Same (A1 : Option Addr) (n1 : Nat) (m1 : Nat) (A2 : Option Addr) (n2 : Nat) (m2 : Nat) (H : Hp) (K : Value → Hp → Prop) : Prop :=
  BIf (((n1 : Nat) : Int) != ((n2 : Nat) : Int)) (K (.bool false) H) ((∃ k, W_abacistref04_Same.l4 K k A1 n1 m1 A2 n2 m2 (0 : Int) H))
def W_abacistref04_Same.l4.L (K : Value → Hp → Prop) (k : Nat) : Mid := fun E D H =>
  DG (E.get? 0) fun w0 => DSl w0 fun A3 n3 m3 => DG (E.get? 1) fun w1 => DSl w1 fun A4 n4 m4 => DG (E.get? 5) fun w5 => DI .i64 w5 fun x1 => DNilD D (W_abacistref04_Same.l4 K k A3 n3 m3 A4 n4 m4 x1 H)
def W_abacistref04_Same.Λ4 (_ : Value → Hp → Prop) (_R4 : Option Addr → Nat → Nat → Option Addr → Nat → Nat → Int → Hp → Prop) : Cuts := Cuts.none (fun _ => none)
def W_abacistref04_Same.Λ (K : Value → Hp → Prop) : Cuts := ⟨fun i => none, fun i => match Nat.beq i 4 with | true => some (fun E D H => ∃ k, W_abacistref04_Same.l4.L K k E D H) | false => none, (fun _ => none)⟩
theorem W_abacistref04_Same.ok (A1 : Option Addr) (n1 : Nat) (m1 : Nat) (A2 : Option Addr) (n2 : Nat) (m2 : Nat) (H : Hp) (K : Value → Hp → Prop) (h : W_abacistref04_Same A1 n1 m1 A2 n2 m2 H K) : HCalls Tryz.prog 20 #[.slice A1 n1 m1, .slice A2 n2 m2] H K :=
  hcalls Tryz.func20 rfl (Nat.le_of_ble_eq_true rfl) (hw_safe (Λ := (W_abacistref04_Same.Λ K)) mixWabacistref04 _ _ _ _ _ (Eq.mp (by kernel_rfl) h) (obs_seq obs_region rfl (obs_seq (obs_seq obs_region rfl (obs_cond (obs_seq obs_region rfl obs_ret) obs_skip)) rfl (obs_seq (obs_seq obs_region rfl (obs_block (obs_loop rfl (fun E D H h => by
      refine Safe.loop' (W_abacistref04_Same.l4.L K) (fun E D H h => ?_) (fun k E D H h => ?_) E D H h
      · obtain ⟨w0, e0, g1⟩ := DG.out h; obtain ⟨A3, n3, m3, rfl, g2⟩ := DSl.out g1; obtain ⟨w1, e1, g3⟩ := DG.out g2; obtain ⟨A4, n4, m4, rfl, g4⟩ := DSl.out g3; obtain ⟨w5, e5, g5⟩ := DG.out g4; obtain ⟨x1, rfl, g6⟩ := DI.out g5; obtain ⟨rfl, h'⟩ := DNilD.out g6; exact h'
      · obtain ⟨w0, e0, g1⟩ := DG.out h
        obtain ⟨A3, n3, m3, rfl, g2⟩ := DSl.out g1
        obtain ⟨w1, e1, g3⟩ := DG.out g2
        obtain ⟨A4, n4, m4, rfl, g4⟩ := DSl.out g3
        obtain ⟨w5, e5, g5⟩ := DG.out g4
        obtain ⟨x1, rfl, g6⟩ := DI.out g5
        obtain ⟨rfl, h'⟩ := DNilD.out g6
        exact (hw_safe (Λ := (W_abacistref04_Same.Λ4 K (W_abacistref04_Same.l4 K k))) mixWabacistref04 _ _ [(0, .slice A3 n3 m3), (1, .slice A4 n4 m4), (5, .int .i64 x1)] [] H (Eq.mp (by kernel_rfl) h') (obs_seq (obs_seq obs_region rfl (obs_cond obs_skip obs_exit)) rfl (obs_seq (obs_block (obs_seq obs_region rfl (obs_cond (obs_seq obs_region rfl obs_ret) obs_skip))) rfl obs_region))).weaken (EnvLe.cons e0 (EnvLe.cons e1 (EnvLe.cons e5 (EnvLe.nil _)))) (Hp.le_refl _))))) rfl (obs_seq obs_region rfl obs_ret)))))

-- abacistref04.Digits
def W_abacistref04_Digits.l2 (K : Value → Hp → Prop) : Nat → Int → ByteArray → Hp → Prop
  | 0, _, _, _ => False
  | k + 1, x2, s1, H =>
    let R2 := W_abacistref04_Digits.l2 K k
    ((10 : Int) ≠ 0 ∧ IntKind.u64 = IntKind.u64 ∧ Nw H (.row [.int .u8 (IntKind.u8.wrap (IntKind.u64.wrap ((48 : Int) + (Int.tmod x2 (10 : Int)))))] 5 1) fun b1 H1 => BsK H1 (some ⟨b1, 0, none⟩) 1 fun s2 => (s2.size + s1.size ≤ 4611686018427387904 ∧ ((10 : Int) ≠ 0 ∧ IntKind.u64 = IntKind.u64 ∧ BIf ((IntKind.u64.wrap (Int.tdiv x2 (10 : Int))) == (0 : Int)) (K (.string (s2 ++ s1)) H1) (R2 (IntKind.u64.wrap (Int.tdiv x2 (10 : Int))) (s2 ++ s1) H1))))
def W_abacistref04_Digits (x1 : Int) (H : Hp) (K : Value → Hp → Prop) : Prop :=
  (∃ k, W_abacistref04_Digits.l2 K k x1 (⟨#[]⟩) H)
def W_abacistref04_Digits.l2.L (K : Value → Hp → Prop) (k : Nat) : Mid := fun E D H =>
  DG (E.get? 0) fun w0 => DI .u64 w0 fun x2 => DG (E.get? 3) fun w3 => DS w3 fun s1 => DNilD D (W_abacistref04_Digits.l2 K k x2 s1 H)
def W_abacistref04_Digits.Λ2 (_ : Value → Hp → Prop) (_R2 : Int → ByteArray → Hp → Prop) : Cuts := Cuts.none (fun _ => none)
def W_abacistref04_Digits.Λ (K : Value → Hp → Prop) : Cuts := ⟨fun i => none, fun i => match Nat.beq i 2 with | true => some (fun E D H => ∃ k, W_abacistref04_Digits.l2.L K k E D H) | false => none, (fun _ => none)⟩
theorem W_abacistref04_Digits.ok (x1 : Int) (H : Hp) (K : Value → Hp → Prop) (h : W_abacistref04_Digits x1 H K) : HCalls Tryz.prog 47 #[.int .u64 x1] H K :=
  hcalls Tryz.func47 rfl (Nat.le_of_ble_eq_true rfl) (hw_safe (Λ := (W_abacistref04_Digits.Λ K)) mixWabacistref04 _ _ _ _ _ (Eq.mp (by kernel_rfl) h) (obs_seq obs_region rfl (obs_seq obs_region rfl (obs_block (obs_loop rfl (fun E D H h => by
      refine Safe.loop' (W_abacistref04_Digits.l2.L K) (fun E D H h => ?_) (fun k E D H h => ?_) E D H h
      · obtain ⟨w0, e0, g1⟩ := DG.out h; obtain ⟨x2, rfl, g2⟩ := DI.out g1; obtain ⟨w3, e3, g3⟩ := DG.out g2; obtain ⟨s1, rfl, g4⟩ := DS.out g3; obtain ⟨rfl, h'⟩ := DNilD.out g4; exact h'
      · obtain ⟨w0, e0, g1⟩ := DG.out h
        obtain ⟨x2, rfl, g2⟩ := DI.out g1
        obtain ⟨w3, e3, g3⟩ := DG.out g2
        obtain ⟨s1, rfl, g4⟩ := DS.out g3
        obtain ⟨rfl, h'⟩ := DNilD.out g4
        exact (hw_safe (Λ := (W_abacistref04_Digits.Λ2 K (W_abacistref04_Digits.l2 K k))) mixWabacistref04 _ _ [(0, .int .u64 x2), (3, .string s1)] [] H (Eq.mp (by kernel_rfl) h') (obs_block (obs_seq obs_region rfl (obs_seq obs_region rfl (obs_seq obs_region rfl (obs_cond (obs_seq obs_region rfl obs_ret) obs_skip)))))).weaken (EnvLe.cons e0 (EnvLe.cons e3 (EnvLe.nil _))) (Hp.le_refl _)))))))

-- abacistref04.Put
def W_abacistref04_Put.l7 (K : Value → Hp → Prop) (R3 : Option Addr → Nat → Nat → ByteArray → Int → Hp → Prop) : Nat → Option Addr → Nat → Nat → ByteArray → Int → Int → Int → Hp → Prop
  | 0, _, _, _, _, _, _, _, _ => False
  | k + 1, A3, n3, m3, s2, x3, x4, x5, H =>
    let R7 := W_abacistref04_Put.l7 K R3 k
    BIf (decide (x5 < (8 : Int))) (((256 : Int) ≠ 0 ∧ IntKind.u64 = IntKind.u64 ∧ Nw H (.row [.int .u8 (IntKind.u8.wrap (Int.tmod x4 (256 : Int)))] 5 1) fun b1 H1 => BsK H1 (some ⟨b1, 0, none⟩) 1 fun s3 => (s2.size + s3.size ≤ 4611686018427387904 ∧ ((256 : Int) ≠ 0 ∧ IntKind.u64 = IntKind.u64 ∧ R7 A3 n3 m3 (s2 ++ s3) x3 (IntKind.u64.wrap (Int.tdiv x4 (256 : Int))) (IntKind.i64.wrap (x5 + (1 : Int))) H1)))) (R3 A3 n3 m3 s2 (IntKind.i64.wrap (x3 + (1 : Int))) H)
def W_abacistref04_Put.l3 (K : Value → Hp → Prop) : Nat → Option Addr → Nat → Nat → ByteArray → Int → Hp → Prop
  | 0, _, _, _, _, _, _ => False
  | k + 1, A2, n2, m2, s1, x1, H =>
    let R3 := W_abacistref04_Put.l3 K k
    BIf (decide (x1 < ((n2 : Nat) : Int))) (ixI x1 n2 (NN A2 fun a1 => Ld H (a1.add (x1.toNat * 1)) fun v1 => DI .u64 v1 fun x2 => (∃ k, W_abacistref04_Put.l7 K R3 k A2 n2 m2 s1 x1 x2 (0 : Int) H))) (K (.string s1) H)
def W_abacistref04_Put (A1 : Option Addr) (n1 : Nat) (m1 : Nat) (H : Hp) (K : Value → Hp → Prop) : Prop :=
  (∃ k, W_abacistref04_Put.l3 K k A1 n1 m1 (⟨#[]⟩) (0 : Int) H)
def W_abacistref04_Put.l3.L (K : Value → Hp → Prop) (k : Nat) : Mid := fun E D H =>
  DG (E.get? 0) fun w0 => DSl w0 fun A2 n2 m2 => DG (E.get? 3) fun w3 => DS w3 fun s1 => DG (E.get? 4) fun w4 => DI .i64 w4 fun x1 => DNilD D (W_abacistref04_Put.l3 K k A2 n2 m2 s1 x1 H)
def W_abacistref04_Put.l7.L (K : Value → Hp → Prop) (R3 : Option Addr → Nat → Nat → ByteArray → Int → Hp → Prop) (k : Nat) : Mid := fun E D H =>
  DG (E.get? 0) fun w0 => DSl w0 fun A3 n3 m3 => DG (E.get? 3) fun w3 => DS w3 fun s2 => DG (E.get? 4) fun w4 => DI .i64 w4 fun x3 => DG (E.get? 5) fun w5 => DI .u64 w5 fun x4 => DG (E.get? 6) fun w6 => DI .i64 w6 fun x5 => DNilD D (W_abacistref04_Put.l7 K R3 k A3 n3 m3 s2 x3 x4 x5 H)
def W_abacistref04_Put.Λ7 (_ : Value → Hp → Prop) (_R3 : Option Addr → Nat → Nat → ByteArray → Int → Hp → Prop) (_R7 : Option Addr → Nat → Nat → ByteArray → Int → Int → Int → Hp → Prop) : Cuts := Cuts.none (fun _ => none)
def W_abacistref04_Put.Λ3 (K : Value → Hp → Prop) (R3 : Option Addr → Nat → Nat → ByteArray → Int → Hp → Prop) : Cuts := ⟨fun i => none, fun i => match Nat.beq i 7 with | true => some (fun E D H => ∃ k, W_abacistref04_Put.l7.L K R3 k E D H) | false => none, (fun _ => none)⟩
def W_abacistref04_Put.Λ (K : Value → Hp → Prop) : Cuts := ⟨fun i => none, fun i => match Nat.beq i 3 with | true => some (fun E D H => ∃ k, W_abacistref04_Put.l3.L K k E D H) | false => none, (fun _ => none)⟩
theorem W_abacistref04_Put.ok (A1 : Option Addr) (n1 : Nat) (m1 : Nat) (H : Hp) (K : Value → Hp → Prop) (h : W_abacistref04_Put A1 n1 m1 H K) : HCalls Tryz.prog 59 #[.slice A1 n1 m1] H K :=
  hcalls Tryz.func59 rfl (Nat.le_of_ble_eq_true rfl) (hw_safe (Λ := (W_abacistref04_Put.Λ K)) mixWabacistref04 _ _ _ _ _ (Eq.mp (by kernel_rfl) h) (obs_seq obs_region rfl (obs_seq obs_region rfl (obs_seq (obs_seq obs_region rfl (obs_block (obs_loop rfl (fun E D H h => by
      refine Safe.loop' (W_abacistref04_Put.l3.L K) (fun E D H h => ?_) (fun k E D H h => ?_) E D H h
      · obtain ⟨w0, e0, g1⟩ := DG.out h; obtain ⟨A2, n2, m2, rfl, g2⟩ := DSl.out g1; obtain ⟨w3, e3, g3⟩ := DG.out g2; obtain ⟨s1, rfl, g4⟩ := DS.out g3; obtain ⟨w4, e4, g5⟩ := DG.out g4; obtain ⟨x1, rfl, g6⟩ := DI.out g5; obtain ⟨rfl, h'⟩ := DNilD.out g6; exact h'
      · obtain ⟨w0, e0, g1⟩ := DG.out h
        obtain ⟨A2, n2, m2, rfl, g2⟩ := DSl.out g1
        obtain ⟨w3, e3, g3⟩ := DG.out g2
        obtain ⟨s1, rfl, g4⟩ := DS.out g3
        obtain ⟨w4, e4, g5⟩ := DG.out g4
        obtain ⟨x1, rfl, g6⟩ := DI.out g5
        obtain ⟨rfl, h'⟩ := DNilD.out g6
        exact (hw_safe (Λ := (W_abacistref04_Put.Λ3 K (W_abacistref04_Put.l3 K k))) mixWabacistref04 _ _ [(0, .slice A2 n2 m2), (3, .string s1), (4, .int .i64 x1)] [] H (Eq.mp (by kernel_rfl) h') (obs_seq (obs_seq obs_region rfl (obs_cond obs_skip obs_exit)) rfl (obs_seq (obs_block (obs_seq obs_region rfl (obs_seq obs_region rfl (obs_block (obs_loop rfl (fun E D H h => by
            refine Safe.loop' (W_abacistref04_Put.l7.L K (W_abacistref04_Put.l3 K k)) (fun E D H h => ?_) (fun k E D H h => ?_) E D H h
            · obtain ⟨w0, e0, g1⟩ := DG.out h; obtain ⟨A3, n3, m3, rfl, g2⟩ := DSl.out g1; obtain ⟨w3, e3, g3⟩ := DG.out g2; obtain ⟨s2, rfl, g4⟩ := DS.out g3; obtain ⟨w4, e4, g5⟩ := DG.out g4; obtain ⟨x3, rfl, g6⟩ := DI.out g5; obtain ⟨w5, e5, g7⟩ := DG.out g6; obtain ⟨x4, rfl, g8⟩ := DI.out g7; obtain ⟨w6, e6, g9⟩ := DG.out g8; obtain ⟨x5, rfl, g10⟩ := DI.out g9; obtain ⟨rfl, h'⟩ := DNilD.out g10; exact h'
            · obtain ⟨w0, e0, g1⟩ := DG.out h
              obtain ⟨A3, n3, m3, rfl, g2⟩ := DSl.out g1
              obtain ⟨w3, e3, g3⟩ := DG.out g2
              obtain ⟨s2, rfl, g4⟩ := DS.out g3
              obtain ⟨w4, e4, g5⟩ := DG.out g4
              obtain ⟨x3, rfl, g6⟩ := DI.out g5
              obtain ⟨w5, e5, g7⟩ := DG.out g6
              obtain ⟨x4, rfl, g8⟩ := DI.out g7
              obtain ⟨w6, e6, g9⟩ := DG.out g8
              obtain ⟨x5, rfl, g10⟩ := DI.out g9
              obtain ⟨rfl, h'⟩ := DNilD.out g10
              exact (hw_safe (Λ := (W_abacistref04_Put.Λ7 K (W_abacistref04_Put.l3 K k) (W_abacistref04_Put.l7 K (W_abacistref04_Put.l3 K k) k))) mixWabacistref04 _ _ [(0, .slice A3 n3 m3), (3, .string s2), (4, .int .i64 x3), (5, .int .u64 x4), (6, .int .i64 x5)] [] H (Eq.mp (by kernel_rfl) h') (obs_seq (obs_seq obs_region rfl (obs_cond obs_skip obs_exit)) rfl (obs_seq (obs_block (obs_seq obs_region rfl obs_region)) rfl obs_region))).weaken (EnvLe.cons e0 (EnvLe.cons e3 (EnvLe.cons e4 (EnvLe.cons e5 (EnvLe.cons e6 (EnvLe.nil _)))))) (Hp.le_refl _))))))) rfl obs_region))).weaken (EnvLe.cons e0 (EnvLe.cons e3 (EnvLe.cons e4 (EnvLe.nil _)))) (Hp.le_refl _))))) rfl (obs_seq obs_region rfl obs_ret)))))

-- abacistref04.Word
def W_abacistref04_Word.l3 (K : Value → Hp → Prop) : Nat → ByteArray → Int → Int → Int → Hp → Prop
  | 0, _, _, _, _, _ => False
  | k + 1, s2, x2, x3, x4, H =>
    let R3 := W_abacistref04_Word.l3 K k
    BIf (decide (x4 ≥ (0 : Int))) ((0 ≤ (IntKind.i64.wrap (x2 + x4)) ∧ ixB s2 (IntKind.i64.wrap (x2 + x4)).toNat fun x5 => R3 s2 x2 (IntKind.u64.wrap ((IntKind.u64.wrap ((256 : Int) * x3)) + (IntKind.u64.wrap x5))) (IntKind.i64.wrap (x4 - (1 : Int))) H)) (K (.int .u64 x3) H)
def W_abacistref04_Word (s1 : ByteArray) (x1 : Int) (H : Hp) (K : Value → Hp → Prop) : Prop :=
  (∃ k, W_abacistref04_Word.l3 K k s1 x1 (0 : Int) (7 : Int) H)
def W_abacistref04_Word.l3.L (K : Value → Hp → Prop) (k : Nat) : Mid := fun E D H =>
  DG (E.get? 0) fun w0 => DS w0 fun s2 => DG (E.get? 1) fun w1 => DI .i64 w1 fun x2 => DG (E.get? 5) fun w5 => DI .u64 w5 fun x3 => DG (E.get? 6) fun w6 => DI .i64 w6 fun x4 => DNilD D (W_abacistref04_Word.l3 K k s2 x2 x3 x4 H)
def W_abacistref04_Word.Λ3 (_ : Value → Hp → Prop) (_R3 : ByteArray → Int → Int → Int → Hp → Prop) : Cuts := Cuts.none (fun _ => none)
def W_abacistref04_Word.Λ (K : Value → Hp → Prop) : Cuts := ⟨fun i => none, fun i => match Nat.beq i 3 with | true => some (fun E D H => ∃ k, W_abacistref04_Word.l3.L K k E D H) | false => none, (fun _ => none)⟩
theorem W_abacistref04_Word.ok (s1 : ByteArray) (x1 : Int) (H : Hp) (K : Value → Hp → Prop) (h : W_abacistref04_Word s1 x1 H K) : HCalls Tryz.prog 132 #[.string s1, .int .i64 x1] H K :=
  hcalls Tryz.func132 rfl (Nat.le_of_ble_eq_true rfl) (hw_safe (Λ := (W_abacistref04_Word.Λ K)) mixWabacistref04 _ _ _ _ _ (Eq.mp (by kernel_rfl) h) (obs_seq obs_region rfl (obs_seq obs_region rfl (obs_seq (obs_seq obs_region rfl (obs_block (obs_loop rfl (fun E D H h => by
      refine Safe.loop' (W_abacistref04_Word.l3.L K) (fun E D H h => ?_) (fun k E D H h => ?_) E D H h
      · obtain ⟨w0, e0, g1⟩ := DG.out h; obtain ⟨s2, rfl, g2⟩ := DS.out g1; obtain ⟨w1, e1, g3⟩ := DG.out g2; obtain ⟨x2, rfl, g4⟩ := DI.out g3; obtain ⟨w5, e5, g5⟩ := DG.out g4; obtain ⟨x3, rfl, g6⟩ := DI.out g5; obtain ⟨w6, e6, g7⟩ := DG.out g6; obtain ⟨x4, rfl, g8⟩ := DI.out g7; obtain ⟨rfl, h'⟩ := DNilD.out g8; exact h'
      · obtain ⟨w0, e0, g1⟩ := DG.out h
        obtain ⟨s2, rfl, g2⟩ := DS.out g1
        obtain ⟨w1, e1, g3⟩ := DG.out g2
        obtain ⟨x2, rfl, g4⟩ := DI.out g3
        obtain ⟨w5, e5, g5⟩ := DG.out g4
        obtain ⟨x3, rfl, g6⟩ := DI.out g5
        obtain ⟨w6, e6, g7⟩ := DG.out g6
        obtain ⟨x4, rfl, g8⟩ := DI.out g7
        obtain ⟨rfl, h'⟩ := DNilD.out g8
        exact (hw_safe (Λ := (W_abacistref04_Word.Λ3 K (W_abacistref04_Word.l3 K k))) mixWabacistref04 _ _ [(0, .string s2), (1, .int .i64 x2), (5, .int .u64 x3), (6, .int .i64 x4)] [] H (Eq.mp (by kernel_rfl) h') (obs_seq (obs_seq obs_region rfl (obs_cond obs_skip obs_exit)) rfl (obs_seq (obs_block obs_region) rfl obs_region))).weaken (EnvLe.cons e0 (EnvLe.cons e1 (EnvLe.cons e5 (EnvLe.cons e6 (EnvLe.nil _))))) (Hp.le_refl _))))) rfl (obs_seq obs_region rfl obs_ret)))))

end Go.Proofs.YtlgpappgnndgiaaGreatDoor.W

end
section
/-! Wabacistref16 -/
/- Formulas of functions, printed by wip/tools/hwp.py. -/
set_option maxRecDepth 100000
set_option linter.unusedVariables false
namespace Go.Proofs.YtlgpappgnndgiaaGreatDoor.W
open Go Go.Hw

theorem mixWabacistref16 : Tryz.prog.follows .mixedOrders = true := by kernel_rfl
-- abacistref16.OfWords
def W_abacistref16_OfWords (A1 : Option Addr) (n1 : Nat) (m1 : Nat) (H : Hp) (K : Value → Hp → Prop) : Prop :=
  HCalls Tryz.prog 59 #[.slice A1 n1 m1] H fun v1 H1 => DS v1 fun s1 => HCalls Tryz.prog 58 #[.string s1] H1 fun v2 H2 => DI .u32 v2 fun x1 => K (.int .u32 x1) H2
def W_abacistref16_OfWords.Λ (_ : Value → Hp → Prop) : Cuts := Cuts.none (fun _ => none)
theorem W_abacistref16_OfWords.ok (A1 : Option Addr) (n1 : Nat) (m1 : Nat) (H : Hp) (K : Value → Hp → Prop) (h : W_abacistref16_OfWords A1 n1 m1 H K) : HCalls Tryz.prog 13 #[.slice A1 n1 m1] H K :=
  hcalls Tryz.func13 rfl (Nat.le_of_ble_eq_true rfl) (hw_safe (Λ := Cuts.none (fun _ => none)) mixWabacistref16 _ _ _ _ _ (Eq.mp (by kernel_rfl) h) (obs_none _ _ _ _ _))

-- abacistref16.Of
def W_abacistref16_Of.l7 (K : Value → Hp → Prop) (R3 : ByteArray → Int → Int → Hp → Prop) : Nat → ByteArray → Int → Int → Int → Int → Hp → Prop
  | 0, _, _, _, _, _, _ => False
  | k + 1, s3, x4, x5, x6, x7, H =>
    let R7 := W_abacistref16_Of.l7 K R3 k
    BIf (decide (x7 < (8 : Int))) (((2 : Int) ≠ 0 ∧ IntKind.u32 = IntKind.u32 ∧ ((2 : Int) ≠ 0 ∧ IntKind.u32 = IntKind.u32 ∧ ((2 : Int) ≠ 0 ∧ IntKind.u8 = IntKind.u8 ∧ BIf ((Int.tmod (bXor .u32 x4 (IntKind.u32.wrap x6)) (2 : Int)) == (1 : Int)) (R7 s3 (bXor .u32 (IntKind.u32.wrap (Int.tdiv x4 (2 : Int))) (2197175160 : Int)) x5 (IntKind.u8.wrap (Int.tdiv x6 (2 : Int))) (IntKind.i64.wrap (x7 + (1 : Int))) H) (R7 s3 (IntKind.u32.wrap (Int.tdiv x4 (2 : Int))) x5 (IntKind.u8.wrap (Int.tdiv x6 (2 : Int))) (IntKind.i64.wrap (x7 + (1 : Int))) H))))) (R3 s3 x4 (IntKind.i64.wrap (x5 + (1 : Int))) H)
def W_abacistref16_Of.l3 (K : Value → Hp → Prop) : Nat → ByteArray → Int → Int → Hp → Prop
  | 0, _, _, _, _ => False
  | k + 1, s2, x1, x2, H =>
    let R3 := W_abacistref16_Of.l3 K k
    BIf (decide (x2 < ((s2.size : Nat) : Int))) ((0 ≤ x2 ∧ ixB s2 x2.toNat fun x3 => (∃ k, W_abacistref16_Of.l7 K R3 k s2 x1 x2 x3 (0 : Int) H))) (K (.int .u32 (bXor .u32 x1 (4294967295 : Int))) H)
def W_abacistref16_Of (s1 : ByteArray) (H : Hp) (K : Value → Hp → Prop) : Prop :=
  (∃ k, W_abacistref16_Of.l3 K k s1 (4294967295 : Int) (0 : Int) H)
def W_abacistref16_Of.l3.L (K : Value → Hp → Prop) (k : Nat) : Mid := fun E D H =>
  DG (E.get? 0) fun w0 => DS w0 fun s2 => DG (E.get? 3) fun w3 => DI .u32 w3 fun x1 => DG (E.get? 4) fun w4 => DI .i64 w4 fun x2 => DNilD D (W_abacistref16_Of.l3 K k s2 x1 x2 H)
def W_abacistref16_Of.l7.L (K : Value → Hp → Prop) (R3 : ByteArray → Int → Int → Hp → Prop) (k : Nat) : Mid := fun E D H =>
  DG (E.get? 0) fun w0 => DS w0 fun s3 => DG (E.get? 3) fun w3 => DI .u32 w3 fun x4 => DG (E.get? 4) fun w4 => DI .i64 w4 fun x5 => DG (E.get? 5) fun w5 => DI .u8 w5 fun x6 => DG (E.get? 6) fun w6 => DI .i64 w6 fun x7 => DNilD D (W_abacistref16_Of.l7 K R3 k s3 x4 x5 x6 x7 H)
def W_abacistref16_Of.Λ7 (_ : Value → Hp → Prop) (_R3 : ByteArray → Int → Int → Hp → Prop) (_R7 : ByteArray → Int → Int → Int → Int → Hp → Prop) : Cuts := Cuts.none (fun _ => none)
def W_abacistref16_Of.Λ3 (K : Value → Hp → Prop) (R3 : ByteArray → Int → Int → Hp → Prop) : Cuts := ⟨fun i => none, fun i => match Nat.beq i 7 with | true => some (fun E D H => ∃ k, W_abacistref16_Of.l7.L K R3 k E D H) | false => none, (fun _ => none)⟩
def W_abacistref16_Of.Λ (K : Value → Hp → Prop) : Cuts := ⟨fun i => none, fun i => match Nat.beq i 3 with | true => some (fun E D H => ∃ k, W_abacistref16_Of.l3.L K k E D H) | false => none, (fun _ => none)⟩
theorem W_abacistref16_Of.ok (s1 : ByteArray) (H : Hp) (K : Value → Hp → Prop) (h : W_abacistref16_Of s1 H K) : HCalls Tryz.prog 58 #[.string s1] H K :=
  hcalls Tryz.func58 rfl (Nat.le_of_ble_eq_true rfl) (hw_safe (Λ := (W_abacistref16_Of.Λ K)) mixWabacistref16 _ _ _ _ _ (Eq.mp (by kernel_rfl) h) (obs_seq obs_region rfl (obs_seq obs_region rfl (obs_seq (obs_seq obs_region rfl (obs_block (obs_loop rfl (fun E D H h => by
      refine Safe.loop' (W_abacistref16_Of.l3.L K) (fun E D H h => ?_) (fun k E D H h => ?_) E D H h
      · obtain ⟨w0, e0, g1⟩ := DG.out h; obtain ⟨s2, rfl, g2⟩ := DS.out g1; obtain ⟨w3, e3, g3⟩ := DG.out g2; obtain ⟨x1, rfl, g4⟩ := DI.out g3; obtain ⟨w4, e4, g5⟩ := DG.out g4; obtain ⟨x2, rfl, g6⟩ := DI.out g5; obtain ⟨rfl, h'⟩ := DNilD.out g6; exact h'
      · obtain ⟨w0, e0, g1⟩ := DG.out h
        obtain ⟨s2, rfl, g2⟩ := DS.out g1
        obtain ⟨w3, e3, g3⟩ := DG.out g2
        obtain ⟨x1, rfl, g4⟩ := DI.out g3
        obtain ⟨w4, e4, g5⟩ := DG.out g4
        obtain ⟨x2, rfl, g6⟩ := DI.out g5
        obtain ⟨rfl, h'⟩ := DNilD.out g6
        exact (hw_safe (Λ := (W_abacistref16_Of.Λ3 K (W_abacistref16_Of.l3 K k))) mixWabacistref16 _ _ [(0, .string s2), (3, .int .u32 x1), (4, .int .i64 x2)] [] H (Eq.mp (by kernel_rfl) h') (obs_seq (obs_seq obs_region rfl (obs_cond obs_skip obs_exit)) rfl (obs_seq (obs_block (obs_seq obs_region rfl (obs_seq obs_region rfl (obs_block (obs_loop rfl (fun E D H h => by
            refine Safe.loop' (W_abacistref16_Of.l7.L K (W_abacistref16_Of.l3 K k)) (fun E D H h => ?_) (fun k E D H h => ?_) E D H h
            · obtain ⟨w0, e0, g1⟩ := DG.out h; obtain ⟨s3, rfl, g2⟩ := DS.out g1; obtain ⟨w3, e3, g3⟩ := DG.out g2; obtain ⟨x4, rfl, g4⟩ := DI.out g3; obtain ⟨w4, e4, g5⟩ := DG.out g4; obtain ⟨x5, rfl, g6⟩ := DI.out g5; obtain ⟨w5, e5, g7⟩ := DG.out g6; obtain ⟨x6, rfl, g8⟩ := DI.out g7; obtain ⟨w6, e6, g9⟩ := DG.out g8; obtain ⟨x7, rfl, g10⟩ := DI.out g9; obtain ⟨rfl, h'⟩ := DNilD.out g10; exact h'
            · obtain ⟨w0, e0, g1⟩ := DG.out h
              obtain ⟨s3, rfl, g2⟩ := DS.out g1
              obtain ⟨w3, e3, g3⟩ := DG.out g2
              obtain ⟨x4, rfl, g4⟩ := DI.out g3
              obtain ⟨w4, e4, g5⟩ := DG.out g4
              obtain ⟨x5, rfl, g6⟩ := DI.out g5
              obtain ⟨w5, e5, g7⟩ := DG.out g6
              obtain ⟨x6, rfl, g8⟩ := DI.out g7
              obtain ⟨w6, e6, g9⟩ := DG.out g8
              obtain ⟨x7, rfl, g10⟩ := DI.out g9
              obtain ⟨rfl, h'⟩ := DNilD.out g10
              exact (hw_safe (Λ := (W_abacistref16_Of.Λ7 K (W_abacistref16_Of.l3 K k) (W_abacistref16_Of.l7 K (W_abacistref16_Of.l3 K k) k))) mixWabacistref16 _ _ [(0, .string s3), (3, .int .u32 x4), (4, .int .i64 x5), (5, .int .u8 x6), (6, .int .i64 x7)] [] H (Eq.mp (by kernel_rfl) h') (obs_seq (obs_seq obs_region rfl (obs_cond obs_skip obs_exit)) rfl (obs_seq (obs_block (obs_seq obs_region rfl (obs_seq obs_region rfl (obs_seq obs_region rfl (obs_seq obs_region rfl (obs_cond obs_region obs_skip)))))) rfl obs_region))).weaken (EnvLe.cons e0 (EnvLe.cons e3 (EnvLe.cons e4 (EnvLe.cons e5 (EnvLe.cons e6 (EnvLe.nil _)))))) (Hp.le_refl _))))))) rfl obs_region))).weaken (EnvLe.cons e0 (EnvLe.cons e3 (EnvLe.cons e4 (EnvLe.nil _)))) (Hp.le_refl _))))) rfl (obs_seq obs_region rfl obs_ret)))))

end Go.Proofs.YtlgpappgnndgiaaGreatDoor.W

end
section
/-! CrcA -/
/- crc, codec's forms and the document's answers: what they answer. -/
set_option maxRecDepth 100000
set_option linter.unusedSimpArgs false
set_option linter.unusedVariables false
set_option linter.unnecessarySimpa false
set_option linter.unusedSectionVars false
namespace Go.Proofs.YtlgpappgnndgiaaGreatDoor.CrcP
open Go Go.Hw Go.Crc Go.Proofs.YtlgpappgnndgiaaGreatDoor.W

theorem bit1_int (v : W32) : bXor .u32 (shrI .u32 (v.toNat : Int) 1) (IntKind.u32.wrap ((2197175160 : Int) * bAnd .u32 (v.toNat : Int) 1)) = ((bit1 v).toNat : Int) := by
  rw [shr32 v (i := 1) (n := 1) rfl (by omega), show (1 : Int) = ((1#32 : W32).toNat : Int) from rfl, and32]
  have : IntKind.u32.wrap ((2197175160 : Int) * ((v &&& 1#32).toNat : Int)) = ((if v.getLsbD 0 then poly else 0#32).toNat : Int) := by
    have h1 : v &&& 1#32 = if v.getLsbD 0 then 1#32 else 0#32 := by
      apply BitVec.eq_of_getLsbD_eq
      intro i hi
      rw [BitVec.getLsbD_and]
      cases i with
      | zero => cases h : v.getLsbD 0 <;> simp
      | succ i => cases h : v.getLsbD 0 <;> simp
    rw [h1]
    cases v.getLsbD 0 <;> decide
  rw [this, xor32]
  rfl

def tbl (i : Nat) : Value := .int .u32 ((it bit1 4 (BitVec.ofNat 32 i)).toNat : Int)

theorem nib_inner (K : Value → Hp → Prop) (R2 : Addr → Int → Hp → Prop) (b : Nat) (c : Array Value) (e : TypeId) (hc : c.size = 16) (H : Hp) (hb : H b = some (.obj (.cells c e))) (x2 : Nat) (hx : x2 < 16) (x4 : Int) (w : W32)
    (k : R2 ⟨b, 0, none⟩ (IntKind.i64.wrap (x4 + 1)) (H.set b (.obj (.cells (c.setIfInBounds x2 (.int .u32 (w.toNat : Int))) e)))) :
    ∀ (d j : Nat) (v : W32), j + d = 4 → it bit1 d v = w → W_crc_nibbles.l6 K R2 (d + 1) ⟨b, 0, none⟩ x2 (v.toNat : Int) x4 j H
  | 0, j, v, hj, hv => by
    unfold W_crc_nibbles.l6
    refine BIf_dneg (by omega) ?_
    refine ⟨by omega, by omega, ?_⟩
    simp only [Addr.add_lit', Int.toNat_natCast, Nat.mul_one, Nat.zero_add, Nat.add_zero]
    refine St_obj hb (by omega) rfl ?_
    obtain rfl : v = w := hv
    exact k
  | d + 1, j, v, hj, hv => by
    unfold W_crc_nibbles.l6
    refine BIf_dpos (by omega) ?_
    refine ⟨by omega, ?_⟩
    rw [bit1_int, i64w (by omega) (by omega)]
    exact nib_inner K R2 b c e hc H hb x2 hx x4 w k d (j + 1) (bit1 v) (by omega) hv

theorem nib_outer (K : Value → Hp → Prop) (b : Nat) (e : TypeId) (H0 : Hp) (hn : H0 b = none)
    (k : ∀ H, H0.le H → K (.agg ((List.range 16).map tbl).toArray) H) : ∀ (d i : Nat) (H : Hp), i + d = 16 → H = H0.set b (.obj (.cells (filled tbl (.int .u32 0) 16 i) e)) → W_crc_nibbles.l2 K (d + 1) ⟨b, 0, none⟩ (i : Int) H
  | 0, i, H, hi, hH => by
    obtain rfl : i = 16 := by omega
    unfold W_crc_nibbles.l2
    refine BIf_dneg (by omega) ?_
    have hb : H b = some (.obj (.cells (filled tbl (.int .u32 0) 16 16) e)) := by rw [hH]; exact Hp.set_same _ _ _
    refine LdA_obj hb (filled_size _ _ _ _) ?_
    refine StA_obj hb (filled_size _ _ _ _) (by simp [filled_size]) ?_ ?_
    · rw [filled_all]; intro v hv; simp at hv; obtain ⟨a, _, rfl⟩ := hv; rfl
    refine LdA_obj (Hp.set_same _ _ _) (by simp [filled_size]) ?_
    rw [Array.toArray_toList, filled_all]
    refine k _ ?_
    rw [hH, Hp.set_set]
    exact Hp.le_set hn
  | d + 1, i, H, hi, hH => by
    unfold W_crc_nibbles.l2
    refine BIf_dpos (by omega) ?_
    refine ⟨5, ?_⟩
    have hb : H b = some (.obj (.cells (filled tbl (.int .u32 0) 16 i) e)) := by rw [hH]; exact Hp.set_same _ _ _
    rw [show IntKind.u32.wrap (i : Int) = ((BitVec.ofNat 32 i).toNat : Int) by rw [BitVec.toNat_ofNat, Nat.mod_eq_of_lt (by omega)]; exact u32n (by omega)]
    refine nib_inner K _ b _ e (filled_size _ _ _ _) H hb i (by omega) i _ ?_ 4 0 _ rfl rfl
    rw [i64w (by omega) (by omega)]
    refine nib_outer K b e H0 hn k d (i + 1) _ (by omega) ?_
    rw [hH, Hp.set_set]
    congr 3
    exact filled_set tbl (.int .u32 0) (by omega)

theorem nibbles_ok (H : Hp) : HCalls Tryz.prog 229 #[] H (RetE (.agg ((List.range 16).map tbl).toArray) H) := by
  apply HCalls.ret
  apply W_crc_nibbles.ok
  unfold W_crc_nibbles
  intro b hb
  refine ⟨17, ?_⟩
  exact nib_outer _ b _ H hb (fun H' hl => ⟨rfl, hl⟩) 16 0 _ rfl rfl

/-- One step by half bytes. -/
theorem nib_step (v : W32) : (v >>> 4) ^^^ it bit1 4 (v &&& 15#32) = it bit1 4 v := (nibble v).symm

theorem and15 (v : W32) : bAnd .u32 (v.toNat : Int) 15 = ((v &&& 15#32).toNat : Int) := and32 v 15#32
theorem and15_lt (v : W32) : (v &&& 15#32).toNat < 16 := by
  rw [BitVec.toNat_and]
  exact Nat.lt_of_le_of_lt Nat.and_le_right (by decide)

theorem tbl_get (v : W32) : (((List.range 16).map tbl).toArray)[(v &&& 15#32).toNat]? = some (.int .u32 ((it bit1 4 (v &&& 15#32)).toNat : Int)) := by
  have h := and15_lt v
  simp only [List.getElem?_toArray, List.getElem?_map, List.getElem?_range h, Option.map_some]
  unfold tbl
  rw [BitVec.ofNat_toNat, BitVec.setWidth_eq]

theorem More_loop (K : Value → Hp → Prop) (t : Nat) (e : TypeId) (A : Option Addr) (n m : Nat) (bs : List UInt8) (hn : n = bs.length) (hm : n ≤ 9223372036854775807) (H : Hp) (ht : H t = some (.obj (.cells ((List.range 16).map tbl).toArray e))) (hb : Cells H A (byteVals bs)) (w : W32)
    (k : K (.int .u32 ((~~~ w).toNat : Int)) H) : ∀ (d j : Nat) (v : W32), j + d = n → run v (bs.drop j) = w → W_crc_More.l4 K (d + 1) ⟨t, 0, none⟩ (v.toNat : Int) A n m n (j : Int) H
  | 0, j, v, hj, hv => by
    unfold W_crc_More.l4
    refine BIf_dneg (by omega) ?_
    rw [List.drop_eq_nil_of_le (by omega)] at hv
    obtain rfl : v = w := hv
    rw [show IntKind.u32.max = ((BitVec.allOnes 32).toNat : Int) from rfl, xor32, BitVec.allOnes_xor]
    exact k
  | d + 1, j, v, hj, hv => by
    unfold W_crc_More.l4
    refine BIf_dpos (by omega) ?_
    have hlt : j < bs.length := by omega
    refine hb.read (i := j) (v := .int .u8 (bs[j].toNat : Int)) (by rw [byteVals_get, List.getElem?_eq_getElem hlt]; rfl) rfl (by rw [byteVals_length]; omega) ?_
    simp only [DI_int', DB_bool, DS_string, DP_pointer, DSl_slice, DM_map, DA_agg, DTup_tuple, DCons_cons, DNil_nil, NN_some, BIf_true, BIf_false, BIf_same, List.toList_toArray, Bool.not_true, Bool.not_false]
    refine ⟨by omega, ?_⟩
    rw [show (bs[j].toNat : Int) = ((bs[j].toBitVec).toNat : Int) from rfl, low8, xor32, and15]
    refine ⟨by omega, by have := and15_lt (v ^^^ BitVec.setWidth 32 bs[j].toBitVec); omega, ?_⟩
    simp only [Addr.add_lit', Int.toNat_natCast, Nat.mul_one, Nat.zero_add]
    refine Ld_obj ht (tbl_get _) ?_
    simp only [DI_int', DB_bool, DS_string, DP_pointer, DSl_slice, DM_map, DA_agg, DTup_tuple, DCons_cons, DNil_nil, NN_some, BIf_true, BIf_false, BIf_same, List.toList_toArray, Bool.not_true, Bool.not_false]
    refine ⟨by omega, ?_⟩
    rw [shr32 _ (i := 4) (n := 4) rfl (by omega), xor32, nib_step, and15]
    refine ⟨by omega, by have := and15_lt (it bit1 4 (v ^^^ BitVec.setWidth 32 bs[j].toBitVec)); omega, ?_⟩
    simp only [Addr.add_lit', Int.toNat_natCast, Nat.mul_one, Nat.zero_add]
    refine Ld_obj ht (tbl_get _) ?_
    simp only [DI_int', DB_bool, DS_string, DP_pointer, DSl_slice, DM_map, DA_agg, DTup_tuple, DCons_cons, DNil_nil, NN_some, BIf_true, BIf_false, BIf_same, List.toList_toArray, Bool.not_true, Bool.not_false]
    rw [shr32 _ (i := 4) (n := 4) rfl (by omega), xor32, nib_step, i64w (by omega) (by omega)]
    refine More_loop K t e A n m bs hn hm H ht hb w k d (j + 1) _ (by omega) ?_
    rw [List.drop_eq_getElem_cons hlt] at hv
    exact hv

theorem More_ok (s : W32) (A : Option Addr) (n m : Nat) (bs : List UInt8) (hn : n = bs.length) (hm : n ≤ 9223372036854775807) (H : Hp) (hb : Cells H A (byteVals bs)) :
    HCalls Tryz.prog 188 #[.int .u32 (s.toNat : Int), .slice A n m] H (RetE (.int .u32 ((more s bs).toNat : Int)) H) := by
  apply HCalls.ret
  apply W_crc_More.ok
  unfold W_crc_More
  refine HCalls.use (nibbles_ok H) ?_
  try simp only [DI_int', DB_bool, DS_string, DP_pointer, DSl_slice, DM_map, DA_agg, DTup_tuple, DCons_cons, DNil_nil, NN_some, BIf_true, BIf_false, BIf_same, List.toList_toArray, Bool.not_true, Bool.not_false]
  intro b hbn
  refine StA_obj (Hp.set_same _ _ _) rfl (by simp) ?_ ?_
  · intro v hv; simp at hv; obtain ⟨a, _, rfl⟩ := hv; rfl
  rw [Hp.set_set]
  refine ⟨n + 1, ?_⟩
  rw [show IntKind.u32.max = ((BitVec.allOnes 32).toNat : Int) from rfl, xor32, BitVec.allOnes_xor]
  refine More_loop _ b _ A n m bs hn hm _ (Hp.set_same _ _ _) (hb.le (Hp.le_set hbn)) (run (~~~ s) bs) ?_ n 0 _ (by omega) rfl
  exact ⟨rfl, Hp.le_set hbn⟩

theorem Of_ok (A : Option Addr) (n m : Nat) (bs : List UInt8) (hn : n = bs.length) (hm : n ≤ 9223372036854775807) (H : Hp) (hb : Cells H A (byteVals bs)) :
    HCalls Tryz.prog 203 #[.slice A n m] H (RetE (.int .u32 ((sum bs).toNat : Int)) H) := by
  apply W_crc_Of.ok
  unfold W_crc_Of
  refine HCalls.use (More_ok 0#32 A n m bs hn hm H hb) ?_
  try simp only [DI_int', DB_bool, DS_string, DP_pointer, DSl_slice, DM_map, DA_agg, DTup_tuple, DCons_cons, DNil_nil, NN_some, BIf_true, BIf_false, BIf_same, List.toList_toArray, Bool.not_true, Bool.not_false]
  exact RetE.mk _ _

end Go.Proofs.YtlgpappgnndgiaaGreatDoor.CrcP

end
section
/-! FormA -/
/- Words' forms: codec's and the document's. -/
set_option maxRecDepth 100000
set_option linter.unusedSimpArgs false
set_option linter.unusedVariables false
set_option linter.unnecessarySimpa false
set_option linter.unusedSectionVars false
namespace Go.Form
open Go Go.Hw

/-- A word's form. -/
def formW (w : UInt64) : List UInt8 := (List.range 8).map fun k => UInt8.ofNat (w.toNat / 256 ^ k)
def form (l : List UInt64) : List UInt8 := l.flatMap formW

theorem formW_length (w : UInt64) : (formW w).length = 8 := by simp [formW]
theorem form_length (l : List UInt64) : (form l).length = 8 * l.length := by
  induction l with
  | nil => rfl
  | cons w l ih => simp only [form, List.flatMap_cons, List.length_append, formW_length, List.length_cons]; rw [show (List.flatMap formW l).length = (form l).length from rfl, ih]; omega
theorem form_append (a b : List UInt64) : form (a ++ b) = form a ++ form b := by simp [form]
theorem form_succ (l : List UInt64) {i : Nat} (h : i < l.length) : form (l.take (i + 1)) = form (l.take i) ++ formW l[i] := by
  rw [List.take_succ_eq_append_getElem h, form_append]; simp [form]

theorem shr_byte (w : UInt64) (k : Nat) : IntKind.u8.wrap ((w.toNat >>> (8 * k) : Nat) : Int) = ((UInt8.ofNat (w.toNat / 256 ^ k)).toNat : Int) := by
  rw [u8mod, Nat.shiftRight_eq_div_pow, show (2 : Nat) ^ (8 * k) = 256 ^ k from by rw [Nat.pow_mul]]
  simp

end Go.Form
namespace Go.Proofs.YtlgpappgnndgiaaGreatDoor.FormP
open Go Go.Hw Go.Form Go.Proofs.YtlgpappgnndgiaaGreatDoor.W

theorem set_loop (K : Value → Hp → Prop) (b off n m mm : Nat) (xs : List Value) (e : TypeId) (w : UInt64) (H0 : Hp) (ho : off + 8 ≤ xs.length) (hn : 8 ≤ n)
    (k : K (.tuple #[]) (H0.set b (.row (setAt xs off (byteVals (formW w))) e mm))) : ∀ (d j : Nat) (H : Hp), j + d = 8 → H = H0.set b (.row (setAt xs off ((byteVals (formW w)).take j)) e mm) →
      W_codec_set.l1 K (d + 1) (some ⟨b, off, none⟩) n m (w.toNat : Int) (j : Int) H
  | 0, j, H, hj, hH => by
    obtain rfl : j = 8 := by omega
    unfold W_codec_set.l1
    refine BIf_dneg (by omega) ?_
    rw [List.take_of_length_le (by rw [byteVals_length, formW_length]; omega)] at hH
    rw [hH]; exact k
  | d + 1, j, H, hj, hH => by
    unfold W_codec_set.l1
    refine BIf_dpos (by omega) ?_
    rw [i64w (x := 8 * (j : Int)) (by omega) (by omega), u64w (by omega) (by omega)]
    refine ⟨by omega, by omega, by omega, ?_⟩
    simp only [NN_some, Addr.add_lit', Int.toNat_natCast, Nat.mul_one, Nat.add_zero]
    rw [shrNat w.toNat (i := 8 * (j : Int)) (n := 8 * j) (by omega) (by show 8 * j ≤ 64; omega), shr_byte, i64w (by omega) (by omega)]
    have hlen : (byteVals (formW w)).length = 8 := by rw [byteVals_length, formW_length]
    have hb : H b = some (.row (setAt xs off ((byteVals (formW w)).take j)) e mm) := by rw [hH]; exact Hp.set_same _ _ _
    refine St_row hb (by rw [setAt_length (by rw [List.length_take, hlen]; omega)]; omega) rfl ?_
    refine set_loop K b off n m mm xs e w H0 ho hn k d (j + 1) _ (by omega) ?_
    rw [hH, Hp.set_set]
    congr 2
    have := setAt_step (xs := xs) (vs := byteVals (formW w)) (off := off) (k := j) (by rw [hlen]; exact ho) (by rw [hlen]; omega)
    rw [← this]
    congr 1
    simp [byteVals, formW]

theorem set_ok (b off n m mm : Nat) (xs : List Value) (e : TypeId) (w : UInt64) (H : Hp) (hb : H b = some (.row xs e mm)) (ho : off + 8 ≤ xs.length) (hn : 8 ≤ n) :
    HCalls Tryz.prog 174 #[.slice (some ⟨b, off, none⟩) n m, .int .u64 (w.toNat : Int)] H (RetE (.tuple #[]) (H.set b (.row (setAt xs off (byteVals (formW w))) e mm))) := by
  apply W_codec_set.ok
  refine ⟨9, set_loop _ b off n m mm xs e w H ho hn (RetE.mk _ _) 8 0 H rfl ?_⟩
  rw [List.take_zero, setAt_nil, Hp.set_id hb]

theorem slA_row (b m l : Nat) : slA (some ⟨b, 0, none⟩) m l 1 = if m = l then some ⟨b, 0, none⟩ else some ⟨b, l, none⟩ := by
  unfold slA; split
  · rfl
  · simp

theorem Put_loop (K : Value → Hp → Prop) (b : Nat) (e : TypeId) (A : Option Addr) (n m : Nat) (l : List UInt64) (hn : n = l.length) (hm : n ≤ 17592186044416) (H0 : Hp) (hb0 : H0 b = none) (hl : Cells H0 A (wordVals l)) (z : List Value) (hz : z.length = 8 * n)
    (k : ∀ H, H = H0.set b (.row (byteVals (form l)) e (8 * n)) → K (.slice (some ⟨b, 0, none⟩) (8 * n) (8 * n)) H) : ∀ (d j : Nat) (H : Hp), j + d = n → H = H0.set b (.row (setAt z 0 (byteVals (form (l.take j)))) e (8 * n)) →
      W_codec_Put.l3 K (d + 1) (some ⟨b, 0, none⟩) (8 * n) (8 * n) A n m (n : Int) (j : Int) H
  | 0, j, H, hj, hH => by
    unfold W_codec_Put.l3
    refine BIf_dneg (by omega) (k _ ?_)
    rw [hH, List.take_of_length_le (by omega), setAt_all (by rw [byteVals_length, form_length, hz, hn])]
  | d + 1, j, H, hj, hH => by
    unfold W_codec_Put.l3
    refine BIf_dpos (by omega) ?_
    have hlt : j < l.length := by omega
    have hle : H0.le H := by rw [hH]; exact Hp.le_set hb0
    refine (hl.le hle).read (i := j) (v := .int .u64 (l[j].toNat : Int)) (by rw [wordVals_get, List.getElem?_eq_getElem hlt]; rfl) rfl (by rw [wordVals_length]; omega) ?_
    simp only [DI_int', DB_bool, DS_string, DP_pointer, DSl_slice, DM_map, DA_agg, DTup_tuple, DCons_cons, DNil_nil, NN_some, BIf_true, BIf_false, BIf_same, List.toList_toArray, Bool.not_true, Bool.not_false]
    rw [i64w (x := 8 * (j : Int)) (by omega) (by omega)]
    refine ⟨by omega, by omega, ?_⟩
    dsimp only
    rw [show (8 * (j : Int)).toNat = 8 * j by omega, slA_row, if_neg (by omega)]
    have hlen : (byteVals (form (l.take j))).length = 8 * j := by rw [byteVals_length, form_length, List.length_take, Nat.min_eq_left (by omega)]
    have hb : H b = some (.row (setAt z 0 (byteVals (form (l.take j)))) e (8 * n)) := by rw [hH]; exact Hp.set_same _ _ _
    have hsl : (setAt z 0 (byteVals (form (l.take j)))).length = 8 * n := by rw [setAt_length (by omega), hz]
    refine HCalls.use (set_ok b (8 * j) _ _ _ _ e l[j] H hb (by omega) (by omega)) ?_
    rw [i64w (by omega) (by omega)]
    refine Put_loop K b e A n m l hn hm H0 hb0 hl z hz k d (j + 1) _ (by omega) ?_
    rw [hH, Hp.set_set]
    congr 2
    rw [form_succ l hlt, byteVals_append]
    have h8 : (byteVals (formW l[j])).length = 8 := by rw [byteVals_length, formW_length]
    rw [← setAt_setAt (by rw [hlen, h8]; omega), hlen]

theorem cell_u8 : cellInfo Tryz.prog 5 = some (1, 1, some #[.int .u8 0]) := by kernel_rfl

theorem Put_ok (A : Option Addr) (n m : Nat) (l : List UInt64) (hn : n = l.length) (hm : n ≤ 17592186044416) (H : Hp) (hl : Cells H A (wordVals l)) :
    HCalls Tryz.prog 129 #[.slice A n m] H (fun v H' => ∃ b, H b = none ∧ v = .slice (some ⟨b, 0, none⟩) (8 * n) (8 * n) ∧ H' = H.set b (.row (byteVals (form l)) 5 (8 * n))) := by
  apply W_codec_Put.ok
  unfold W_codec_Put
  rw [i64w (x := 8 * (n : Int)) (by omega) (by omega)]
  refine MkS_of cell_u8 rfl (n := 8 * n) (m := 8 * n) (by omega) (by omega) (Nat.le_refl _) (by omega) (by omega) ?_
  intro b hb
  rw [Nat.mul_one]
  simp only [DI_int', DB_bool, DS_string, DP_pointer, DSl_slice, DM_map, DA_agg, DTup_tuple, DCons_cons, DNil_nil, NN_some, BIf_true, BIf_false, BIf_same, List.toList_toArray, Bool.not_true, Bool.not_false]
  refine ⟨n + 1, ?_⟩
  refine Put_loop _ b 5 A n m l hn hm H hb hl (zeroRow [.int .u8 0] (8 * n)) (by rw [zeroRow_length]; simp) ?_ n 0 _ (by omega) ?_
  · intro H' hH; exact ⟨b, hb, rfl, hH⟩
  · rw [List.take_zero]; simp [form, byteVals, setAt_nil]

/-! ## The document's -/

theorem bsize (bs : List UInt8) : (ByteArray.mk bs.toArray).size = bs.length := by simp [ByteArray.size]
theorem bappend (a b : List UInt8) : ByteArray.mk a.toArray ++ ByteArray.mk b.toArray = ByteArray.mk (a ++ b).toArray := by
  apply ByteArray.ext
  simp

theorem rput_inner (K : Value → Hp → Prop) (R3 : Option Addr → Nat → Nat → ByteArray → Int → Hp → Prop) (A : Option Addr) (n m : Nat) (x3 : Int) (H0 : Hp) (w : UInt64) (pre : List UInt8) (hp : pre.length ≤ 1000000000000)
    (k : ∀ H, H0.le H → R3 A n m ⟨(pre ++ formW w).toArray⟩ (IntKind.i64.wrap (x3 + 1)) H) : ∀ (d j : Nat) (H : Hp), j + d = 8 → H0.le H →
      W_abacistref04_Put.l7 K R3 (d + 1) A n m ⟨(pre ++ (formW w).take j).toArray⟩ x3 ((w.toNat / 256 ^ j : Nat) : Int) (j : Int) H
  | 0, j, H, hj, hle => by
    unfold W_abacistref04_Put.l7
    refine BIf_dneg (by omega) ?_
    rw [List.take_of_length_le (by rw [formW_length]; omega)]
    exact k H hle
  | d + 1, j, H, hj, hle => by
    unfold W_abacistref04_Put.l7
    refine BIf_dpos (by omega) ?_
    refine ⟨by omega, rfl, ?_⟩
    intro b hb
    have hlen := formW_length w
    have hbyte : IntKind.u8.wrap (Int.tmod ((w.toNat / 256 ^ j : Nat) : Int) 256) = (((formW w)[j]'(by omega)).toNat : Int) := by
      rw [show Int.tmod ((w.toNat / 256 ^ j : Nat) : Int) 256 = ((w.toNat / 256 ^ j % 256 : Nat) : Int) from rfl, u8n (by omega)]
      simp [formW]
    have hc : Cells (H.set b (.row [.int .u8 (((formW w)[j]'(by omega)).toNat : Int)] 5 1)) (some ⟨b, 0, none⟩) (byteVals [(formW w)[j]'(by omega)]) := by
      have := Cells.row (Hp.set_same H b (.row [.int .u8 (((formW w)[j]'(by omega)).toNat : Int)] 5 1)) 0 1
      simpa [byteVals] using this
    rw [hbyte]
    refine BsK_of hc rfl ?_
    rw [bsize, bsize, bappend]
    refine ⟨by simp; omega, by omega, rfl, ?_⟩
    have hdiv : IntKind.u64.wrap (Int.tdiv ((w.toNat / 256 ^ j : Nat) : Int) 256) = ((w.toNat / 256 ^ (j + 1) : Nat) : Int) := by
      rw [show Int.tdiv ((w.toNat / 256 ^ j : Nat) : Int) 256 = ((w.toNat / 256 ^ j / 256 : Nat) : Int) from rfl, Nat.div_div_eq_div_mul, show 256 ^ j * 256 = 256 ^ (j + 1) from (Nat.pow_succ ..).symm]
      exact u64n (by have := Nat.div_le_self w.toNat (256 ^ (j + 1)); have := w.toNat_lt; omega)
    rw [hdiv, i64w (by omega) (by omega), List.append_assoc, ← List.take_succ_eq_append_getElem (by omega)]
    exact rput_inner K R3 A n m x3 H0 w pre hp k d (j + 1) _ (by omega) (Hp.le_trans hle (Hp.le_set hb))

theorem rput_outer (K : Value → Hp → Prop) (A : Option Addr) (n m : Nat) (l : List UInt64) (hn : n = l.length) (hm : n ≤ 10000000000) (H0 : Hp) (hl : Cells H0 A (wordVals l)) (k : ∀ H, H0.le H → K (.string ⟨(form l).toArray⟩) H) : ∀ (d j : Nat) (H : Hp), j + d = n → H0.le H →
      W_abacistref04_Put.l3 K (d + 1) A n m ⟨(form (l.take j)).toArray⟩ (j : Int) H
  | 0, j, H, hj, hle => by
    unfold W_abacistref04_Put.l3
    refine BIf_dneg (by omega) ?_
    rw [List.take_of_length_le (by omega)]
    exact k H hle
  | d + 1, j, H, hj, hle => by
    unfold W_abacistref04_Put.l3
    refine BIf_dpos (by omega) ?_
    have hlt : j < l.length := by omega
    refine (hl.le hle).read (i := j) (v := .int .u64 (l[j].toNat : Int)) (by rw [wordVals_get, List.getElem?_eq_getElem hlt]; rfl) rfl (by rw [wordVals_length]; omega) ?_
    simp only [DI_int', DB_bool, DS_string, DP_pointer, DSl_slice, DM_map, DA_agg, DTup_tuple, DCons_cons, DNil_nil, NN_some, BIf_true, BIf_false, BIf_same, List.toList_toArray, Bool.not_true, Bool.not_false]
    refine ⟨9, ?_⟩
    have := rput_inner K (W_abacistref04_Put.l3 K (d + 1)) A n m (j : Int) H0 l[j] (form (l.take j)) (by rw [form_length, List.length_take]; omega) (fun H' hle' => by
      rw [i64w (by omega) (by omega), ← form_succ l hlt]
      exact rput_outer K A n m l hn hm H0 hl k d (j + 1) H' (by omega) hle') 8 0 H rfl hle
    simpa using this

theorem rPut_ok (A : Option Addr) (n m : Nat) (l : List UInt64) (hn : n = l.length) (hm : n ≤ 10000000000) (H : Hp) (hl : Cells H A (wordVals l)) :
    HCalls Tryz.prog 59 #[.slice A n m] H (RetE (.string ⟨(form l).toArray⟩) H) := by
  apply HCalls.ret
  apply W_abacistref04_Put.ok
  exact ⟨n + 1, rput_outer _ A n m l hn hm H hl (fun H' hle => ⟨rfl, hle⟩) n 0 H (by omega) (Hp.le_refl _)⟩

end Go.Proofs.YtlgpappgnndgiaaGreatDoor.FormP

end
section
/-! CrcB -/
/- The document's sums; the laws CrcTells and CrcJoins' parts. -/
set_option maxRecDepth 100000
set_option linter.unusedSimpArgs false
set_option linter.unusedVariables false
set_option linter.unnecessarySimpa false
set_option linter.unusedSectionVars false

namespace Go.Proofs.YtlgpappgnndgiaaGreatDoor.CrcP
open Go Go.Hw Go.Crc Go.Form Go.Proofs.YtlgpappgnndgiaaGreatDoor.W

theorem low_shr (c : BitVec 8) : (c >>> 1).setWidth 32 = (c.setWidth 32) >>> 1 := by
  apply BitVec.eq_of_getLsbD_eq
  intro i hi
  simp only [BitVec.getLsbD_setWidth, BitVec.getLsbD_ushiftRight]
  by_cases h : 1 + i < 32
  · simp [hi, h]
  · have := BitVec.getLsbD_of_ge c (1 + i) (by omega)
    simp [this]

theorem xor3 (a b c : W32) : (a ^^^ b) ^^^ c = (a ^^^ c) ^^^ b := by rw [BitVec.xor_assoc, BitVec.xor_comm b c, BitVec.xor_assoc]

theorem ref_step (v : W32) (c : BitVec 8) : ((v >>> 1) ^^^ (if (v ^^^ c.setWidth 32).getLsbD 0 then poly else 0#32)) ^^^ (c >>> 1).setWidth 32 = bit1 (v ^^^ c.setWidth 32) := by
  unfold bit1
  rw [BitVec.ushiftRight_xor_distrib, low_shr]
  exact xor3 _ _ _

theorem rOf_inner (K : Value → Hp → Prop) (R3 : ByteArray → Int → Int → Hp → Prop) (s : ByteArray) (x5 : Int) (H : Hp) (w : W32) (k : R3 s (w.toNat : Int) (IntKind.i64.wrap (x5 + 1)) H) : ∀ (d j : Nat) (v : W32) (c : BitVec 8), j + d = 8 → c >>> d = 0#8 → it bit1 d (v ^^^ c.setWidth 32) = w →
      W_abacistref16_Of.l7 K R3 (d + 1) s (v.toNat : Int) x5 (c.toNat : Int) (j : Int) H
  | 0, j, v, c, hj, hc, hv => by
    unfold W_abacistref16_Of.l7
    refine BIf_dneg (by omega) ?_
    have hc' : c = 0#8 := by simpa using hc
    subst hc'
    obtain rfl : v = w := by simpa [it] using hv
    exact k
  | d + 1, j, v, c, hj, hc, hv => by
    unfold W_abacistref16_Of.l7
    refine BIf_dpos (by omega) ?_
    rw [low8, xor32, mod32, div32, div8, i64w (by omega) (by omega)]
    refine ⟨by omega, rfl, by omega, rfl, by omega, rfl, ?_⟩
    have hc' : (c >>> 1) >>> d = 0#8 := by rw [← BitVec.shiftRight_add, Nat.add_comm]; exact hc
    have hs := ref_step v c
    refine BIf_intro (fun h => ?_) (fun h => ?_)
    · rw [h] at hs
      rw [show (2197175160 : Int) = (poly.toNat : Int) from rfl, xor32]
      exact rOf_inner K R3 s x5 H w k d (j + 1) _ _ (by omega) hc' (by rw [show it bit1 (d + 1) (v ^^^ BitVec.setWidth 32 c) = it bit1 d (bit1 (v ^^^ BitVec.setWidth 32 c)) from rfl, ← hs] at hv; simpa using hv)
    · rw [h] at hs
      exact rOf_inner K R3 s x5 H w k d (j + 1) _ _ (by omega) hc' (by rw [show it bit1 (d + 1) (v ^^^ BitVec.setWidth 32 c) = it bit1 d (bit1 (v ^^^ BitVec.setWidth 32 c)) from rfl, ← hs] at hv; simpa using hv)

theorem shr8 (c : BitVec 8) : c >>> 8 = 0#8 := by
  apply BitVec.eq_of_getLsbD_eq
  intro i hi
  rw [BitVec.getLsbD_ushiftRight, BitVec.getLsbD_of_ge c (8 + i) (by omega)]; simp

theorem rOf_outer (K : Value → Hp → Prop) (bs : List UInt8) (hm : bs.length ≤ 9223372036854775807) (H : Hp) (w : W32) (k : K (.int .u32 ((~~~ w).toNat : Int)) H) : ∀ (d j : Nat) (v : W32), j + d = bs.length → run v (bs.drop j) = w →
      W_abacistref16_Of.l3 K (d + 1) ⟨bs.toArray⟩ (v.toNat : Int) (j : Int) H
  | 0, j, v, hj, hv => by
    unfold W_abacistref16_Of.l3
    refine BIf_dneg (by rw [bsize']; omega) ?_
    rw [List.drop_eq_nil_of_le (by omega)] at hv
    obtain rfl : v = w := hv
    rw [show (4294967295 : Int) = ((BitVec.allOnes 32).toNat : Int) from rfl, xor32, BitVec.xor_allOnes]
    exact k
  | d + 1, j, v, hj, hv => by
    unfold W_abacistref16_Of.l3
    have hlt : j < bs.length := by omega
    refine BIf_dpos (by rw [bsize']; omega) ?_
    refine ⟨by omega, ?_⟩
    rw [Int.toNat_natCast]
    have hg : (ByteArray.mk bs.toArray)[j]? = some bs[j] := by
      rw [getElem?_pos (ByteArray.mk bs.toArray) j (by rw [bsize']; exact hlt)]
      congr 1
    unfold ixB
    rw [hg]
    refine ⟨9, ?_⟩
    rw [show ((bs[j].toNat : Nat) : Int) = ((bs[j].toBitVec).toNat : Int) from rfl]
    refine rOf_inner K _ _ _ H (byte v bs[j]) ?_ 8 0 v _ rfl (shr8 _) rfl
    rw [i64w (by omega) (by omega)]
    refine rOf_outer K bs hm H w k d (j + 1) _ (by omega) ?_
    rw [List.drop_eq_getElem_cons hlt] at hv
    exact hv
where bsize' : (ByteArray.mk bs.toArray).size = bs.length := FormP.bsize bs

theorem rOf_ok (bs : List UInt8) (hm : bs.length ≤ 9223372036854775807) (H : Hp) : HCalls Tryz.prog 58 #[.string ⟨bs.toArray⟩] H (RetE (.int .u32 ((sum bs).toNat : Int)) H) := by
  apply W_abacistref16_Of.ok
  refine ⟨bs.length + 1, ?_⟩
  rw [show (4294967295 : Int) = ((~~~ 0#32 : W32).toNat : Int) from rfl]
  refine rOf_outer _ bs hm H (run (~~~ 0#32) bs) ?_ bs.length 0 _ (by omega) rfl
  exact RetE.mk _ _

theorem rOfWords_ok (A : Option Addr) (n m : Nat) (l : List UInt64) (hn : n = l.length) (hm : n ≤ 10000000000) (H : Hp) (hl : Cells H A (wordVals l)) :
    HCalls Tryz.prog 13 #[.slice A n m] H (RetE (.int .u32 ((sum (form l)).toNat : Int)) H) := by
  apply W_abacistref16_OfWords.ok
  unfold W_abacistref16_OfWords
  refine HCalls.use (FormP.rPut_ok A n m l hn hm H hl) ?_
  try simp only [DI_int', DB_bool, DS_string, DP_pointer, DSl_slice, DM_map, DA_agg, DTup_tuple, DCons_cons, DNil_nil, NN_some, BIf_true, BIf_false, BIf_same, List.toList_toArray, Bool.not_true, Bool.not_false]
  refine HCalls.use (rOf_ok (form l) (by rw [form_length]; omega) H) ?_
  try simp only [DI_int', DB_bool, DS_string, DP_pointer, DSl_slice, DM_map, DA_agg, DTup_tuple, DCons_cons, DNil_nil, NN_some, BIf_true, BIf_false, BIf_same, List.toList_toArray, Bool.not_true, Bool.not_false]
  exact RetE.mk _ _

theorem OfWords_ok (A : Option Addr) (n m : Nat) (l : List UInt64) (hn : n = l.length) (hm : n ≤ 10000000000) (H : Hp) (hl : Cells H A (wordVals l)) :
    HCalls Tryz.prog 161 #[.slice A n m] H (RetE (.int .u32 ((sum (form l)).toNat : Int)) H) := by
  apply HCalls.ret
  apply W_crc_OfWords.ok
  unfold W_crc_OfWords
  refine (FormP.Put_ok A n m l hn (by omega) H hl).mono ?_
  rintro v H' ⟨b, hb, rfl, rfl⟩
  simp only [DI_int', DB_bool, DS_string, DP_pointer, DSl_slice, DM_map, DA_agg, DTup_tuple, DCons_cons, DNil_nil, NN_some, BIf_true, BIf_false, BIf_same, List.toList_toArray, Bool.not_true, Bool.not_false]
  have hf : (form l).length = 8 * n := by rw [form_length, hn]
  refine HCalls.use (Of_ok (some ⟨b, 0, none⟩) (8 * n) (8 * n) (form l) hf.symm (by omega) _ (by have := Cells.row (Hp.set_same H b (.row (byteVals (form l)) 5 (8 * n))) 0 (8 * n); rwa [List.drop_zero, List.take_of_length_le (by rw [byteVals_length, hf]; omega)] at this)) ?_
  try simp only [DI_int', DB_bool, DS_string, DP_pointer, DSl_slice, DM_map, DA_agg, DTup_tuple, DCons_cons, DNil_nil, NN_some, BIf_true, BIf_false, BIf_same, List.toList_toArray, Bool.not_true, Bool.not_false]
  exact ⟨rfl, Hp.le_set hb⟩

theorem sum_123 : sum [49, 50, 51, 52, 53, 54, 55, 56, 57] = 3808858755#32 := by decide +kernel

theorem u32_eq (a b : W32) : ((a.toNat : Int) == (b.toNat : Int)) = (a == b) := by
  by_cases h : a = b
  · subst h; simp
  · have : (a.toNat : Int) ≠ b.toNat := fun e => h (BitVec.eq_of_toNat_eq (by omega))
    rw [beq_false_of_ne h, beq_false_of_ne this]

end Go.Proofs.YtlgpappgnndgiaaGreatDoor.CrcP

end
section
/-! FormB -/
/- Words of bytes: codec's and the document's. -/
set_option maxRecDepth 100000
set_option linter.unusedSimpArgs false
set_option linter.unusedVariables false
set_option linter.unnecessarySimpa false
set_option linter.unusedSectionVars false
namespace Go.Form
open Go Go.Hw
theorem formW_bytes (w : UInt64) : formW w = bytesN 8 w.toNat := range_bytes 8 w.toNat
theorem leN_formW (w : UInt64) : leN (formW w) = w.toNat := by
  rw [formW_bytes, leN_bytesN]
  exact Nat.mod_eq_of_lt w.toNat_lt

/-- The word whose form begins at a place. -/
def wordN (bs : List UInt8) (o : Nat) : Nat := leN ((bs.drop o).take 8)
theorem wordN_lt (bs : List UInt8) (o : Nat) : wordN bs o < 2 ^ 64 := leN_lt8 (by simp; omega)

theorem form_drop (l : List UInt64) (i : Nat) : (form l).drop (8 * i) = form (l.drop i) := by
  induction i generalizing l with
  | zero => simp
  | succ i ih =>
    cases l with
    | nil => simp [form]
    | cons w l =>
      rw [List.drop_succ_cons, ← ih]
      show List.drop (8 * (i + 1)) (formW w ++ form l) = _
      rw [show 8 * (i + 1) = (formW w).length + 8 * i by rw [formW_length]; omega, List.drop_append]
      simp
theorem wordN_form {l : List UInt64} {i : Nat} (h : i < l.length) (r : List UInt8) : wordN (form l ++ r) (8 * i) = l[i].toNat := by
  unfold wordN
  rw [List.drop_append_of_le_length (by rw [form_length]; omega), form_drop, List.drop_eq_getElem_cons h]
  show leN (((formW l[i] ++ form (l.drop (i + 1))) ++ r).take 8) = _
  rw [List.append_assoc, List.take_left' (formW_length _), leN_formW]
end Go.Form
namespace Go.Proofs.YtlgpappgnndgiaaGreatDoor.FormP
open Go Go.Hw Go.Form Go.Proofs.YtlgpappgnndgiaaGreatDoor.W

theorem word_loop (K : Value → Hp → Prop) (A : Option Addr) (n m : Nat) (bs : List UInt8) (hl : bs.length = 8) (hn : 8 ≤ n) (H : Hp) (hb : Cells H A (byteVals bs)) (k : K (.int .u64 (leN bs : Nat)) H) : ∀ j : Nat, j ≤ 8 →
    W_codec_word.l3 K (j + 1) A n m ((leN (bs.drop j) : Nat) : Int) ((j : Int) - 1) H
  | 0, _ => by
    unfold W_codec_word.l3
    refine BIf_dneg (by omega) ?_
    exact k
  | j + 1, hj => by
    unfold W_codec_word.l3
    refine BIf_dpos (by omega) ⟨by omega, ?_⟩
    rw [show (((j + 1 : Nat) : Int) - 1) = (j : Int) by omega]
    have hlt : j < bs.length := by omega
    refine ⟨by omega, by omega, ?_⟩
    obtain ⟨a, rfl, hc⟩ := hb j (.int .u8 (bs[j].toNat : Int)) (by rw [byteVals_get, List.getElem?_eq_getElem hlt]; rfl)
    show Ld H _ _
    refine Ld_of (v := .int .u8 (bs[j].toNat : Int)) (by rw [Int.toNat_natCast, Nat.mul_one]; exact hc) ?_
    simp only [DI_int', DB_bool, DS_string, DP_pointer, DSl_slice, DM_map, DA_agg, DTup_tuple, DCons_cons, DNil_nil, NN_some, BIf_true, BIf_false, BIf_same, List.toList_toArray, Bool.not_true, Bool.not_false]
    have h1 : leN (bs.drop (j + 1)) < 256 ^ 7 := by
      have h1 := leN_lt (bs.drop (j + 1))
      have h2 : 256 ^ (bs.drop (j + 1)).length ≤ 256 ^ 7 := Nat.pow_le_pow_right (by omega) (by simp; omega)
      omega
    have h2 : bs[j].toNat < 256 := bs[j].toNat_lt
    have h3 : leN (bs.drop (j + 1)) * 2 ^ 8 < 2 ^ 64 := by
      rw [show (256 : Nat) ^ 7 = 2 ^ 56 by decide] at h1; omega
    rw [shlN (i := (8 : Int)) (n := 8) rfl (by omega), Nat.mod_eq_of_lt h3, u64n (by omega), orN h3 (by omega), i64w (by omega) (by omega)]
    rw [← Nat.shiftLeft_eq, ← Nat.shiftLeft_add_eq_or_of_lt (by omega : bs[j].toNat < 2 ^ 8), Nat.shiftLeft_eq]
    have e := leN_drop hlt
    rw [show leN (bs.drop (j + 1)) * 2 ^ 8 + bs[j].toNat = leN (bs.drop j) by rw [e]; omega]
    exact word_loop K _ n m bs hl hn H hb k j (by omega)

theorem word_ok (A : Option Addr) (n m : Nat) (bs : List UInt8) (hl : bs.length = 8) (hn : 8 ≤ n) (H : Hp) (hb : Cells H A (byteVals bs)) : HCalls Tryz.prog 186 #[.slice A n m] H (RetE (.int .u64 (leN bs : Nat)) H) := by
  apply W_codec_word.ok
  refine ⟨9, ?_⟩
  have := word_loop (RetE (.int .u64 (leN bs : Nat)) H) A n m bs hl hn H hb (RetE.mk _ _) 8 (Nat.le_refl _)
  rw [List.drop_eq_nil_of_le (by omega)] at this
  exact this

theorem inside_ok (A : Option Addr) (n m : Nat) (hn : n ≤ 9000000000000000000) (i : Int) (H : Hp) : HCalls Tryz.prog 185 #[.slice A n m, .int .i64 i] H (RetE (.bool (decide (0 ≤ i ∧ i < (n / 8 : Nat)))) H) := by
  apply W_codec_inside.ok
  unfold W_codec_inside
  rw [BIf_decide]
  split
  · refine ⟨by omega, rfl, RetE.of ?_⟩
    rw [show Int.tdiv ((n : Nat) : Int) 8 = ((n / 8 : Nat) : Int) from rfl, i64n (by omega)]
    congr 1; simp only [decide_eq_decide]; omega
  · refine RetE.of ?_
    congr 1
    exact (decide_eq_false (by omega)).symm

theorem Word_ok (A : Option Addr) (n m : Nat) (hnm : n ≤ m) (hm : n ≤ 9000000000000000000) (bs : List UInt8) (hl : n = bs.length) (i : Nat) (hi : 8 * i + 8 ≤ n) (H : Hp) (hb : Cells H A (byteVals bs)) :
    HCalls Tryz.prog 144 #[.slice A n m, .int .i64 i] H (RetE (.tuple #[.int .u64 (wordN bs (8 * i) : Nat), .int .i64 0]) H) := by
  apply W_codec_Word.ok
  unfold W_codec_Word
  refine HCalls.use (inside_ok A n m (by omega) i H) ?_
  try simp only [DI_int', DB_bool, DS_string, DP_pointer, DSl_slice, DM_map, DA_agg, DTup_tuple, DCons_cons, DNil_nil, NN_some, BIf_true, BIf_false, BIf_same, List.toList_toArray, Bool.not_true, Bool.not_false]
  refine BIf_neg (by simp; omega) ?_
  rw [i64w (x := 8 * (i : Int)) (by omega) (by omega)]
  refine ⟨by omega, by omega, ?_⟩
  rw [show (8 * (i : Int)).toNat = 8 * i by omega]
  have h1 := (hb.shift (m := m) (l := 8 * i) (by rw [byteVals_length]; omega)).take 8
  rw [show ((byteVals bs).drop (8 * i)).take 8 = byteVals ((bs.drop (8 * i)).take 8) by unfold byteVals; rw [List.map_take, List.map_drop]] at h1
  refine HCalls.use (word_ok _ (n - 8 * i) (m - 8 * i) ((bs.drop (8 * i)).take 8) (by simp; omega) (by omega) H h1) ?_
  try simp only [DI_int', DB_bool, DS_string, DP_pointer, DSl_slice, DM_map, DA_agg, DTup_tuple, DCons_cons, DNil_nil, NN_some, BIf_true, BIf_false, BIf_same, List.toList_toArray, Bool.not_true, Bool.not_false]
  exact RetE.mk _ _

theorem rword_loop (K : Value → Hp → Prop) (bs : List UInt8) (o : Nat) (ho : o + 8 ≤ bs.length) (hb : bs.length ≤ 1000000000000) (H : Hp) (k : K (.int .u64 (wordN bs o : Nat)) H) : ∀ j : Nat, j ≤ 8 →
    W_abacistref04_Word.l3 K (j + 1) ⟨bs.toArray⟩ (o : Int) ((leN (((bs.drop o).take 8).drop j) : Nat) : Int) ((j : Int) - 1) H
  | 0, _ => by
    unfold W_abacistref04_Word.l3
    exact BIf_dneg (by omega) k
  | j + 1, hj => by
    unfold W_abacistref04_Word.l3
    have hl : ((bs.drop o).take 8).length = 8 := by simp; omega
    have hlt : j < ((bs.drop o).take 8).length := by omega
    refine BIf_dpos (by omega) ?_
    rw [show (o : Int) + (((j + 1 : Nat) : Int) - 1) = ((o + j : Nat) : Int) by omega, i64n (by omega)]
    refine ⟨by omega, ixB_of (by rw [Int.toNat_natCast]; show o + j < bs.toArray.size; simp; omega) ?_⟩
    have h1 : leN (((bs.drop o).take 8).drop (j + 1)) < 256 ^ 7 := by
      have h1 := leN_lt (((bs.drop o).take 8).drop (j + 1))
      have h2 : 256 ^ (((bs.drop o).take 8).drop (j + 1)).length ≤ 256 ^ 7 := Nat.pow_le_pow_right (by omega) (by simp; omega)
      omega
    rw [show (256 : Nat) ^ 7 = 2 ^ 56 by decide] at h1
    have e := leN_drop hlt
    have hg : ((⟨bs.toArray⟩ : ByteArray)[(((o + j : Nat) : Int)).toNat]'(by rw [Int.toNat_natCast]; show o + j < bs.toArray.size; simp; omega)) = ((bs.drop o).take 8)[j] := by
      simp only [Int.toNat_natCast, List.getElem_take, List.getElem_drop]
      rfl
    rw [hg]
    have h2 : ((bs.drop o).take 8)[j].toNat < 256 := ((bs.drop o).take 8)[j].toNat_lt
    rw [u64n (n := ((bs.drop o).take 8)[j].toNat) (by omega), u64w (x := (256 : Int) * _) (by omega) (by omega), u64w (by omega) (by omega), i64w (by omega) (by omega)]
    rw [show (256 : Int) * ((leN (((bs.drop o).take 8).drop (j + 1)) : Nat) : Int) + (((bs.drop o).take 8)[j].toNat : Int) = ((leN (((bs.drop o).take 8).drop j) : Nat) : Int) by rw [e]; omega]
    rw [show (((j + 1 : Nat) : Int) - 1) - 1 = (j : Int) - 1 by omega]
    exact rword_loop K bs o ho hb H k j (by omega)

theorem rWord_ok (bs : List UInt8) (o : Nat) (ho : o + 8 ≤ bs.length) (hb : bs.length ≤ 1000000000000) (H : Hp) : HCalls Tryz.prog 132 #[.string ⟨bs.toArray⟩, .int .i64 o] H (RetE (.int .u64 (wordN bs o : Nat)) H) := by
  apply W_abacistref04_Word.ok
  refine ⟨9, ?_⟩
  have := rword_loop (RetE (.int .u64 (wordN bs o : Nat)) H) bs o ho hb H (RetE.mk _ _) 8 (Nat.le_refl _)
  rw [List.drop_eq_nil_of_le (by simp; omega)] at this
  exact this

end Go.Proofs.YtlgpappgnndgiaaGreatDoor.FormP

end
section
/-! RecC -/
/- record: a form's words. -/
set_option maxRecDepth 100000
set_option linter.unusedSimpArgs false
set_option linter.unusedVariables false
set_option linter.unnecessarySimpa false
set_option linter.unusedSectionVars false
namespace Go.Proofs.YtlgpappgnndgiaaGreatDoor.Rec
open Go Go.Hw Go.Form Go.Crc Go.Proofs.YtlgpappgnndgiaaGreatDoor.W

def partV (ps : List (Nat × Nat)) : List Value := ps.flatMap fun (p : Nat × Nat) => [Value.int .u64 (p.1 : Int), Value.int .u64 (p.2 : Int)]
def joinN (w : Nat) : List (Nat × Nat) → Nat
  | [] => w
  | p :: ps => joinN (w ||| (p.1 * 2 ^ p.2 % 2 ^ 64)) ps
theorem joinN_lt : ∀ (ps : List (Nat × Nat)) (w : Nat), w < 2 ^ 64 → joinN w ps < 2 ^ 64
  | [], w, h => h
  | p :: ps, w, h => joinN_lt ps _ (or_lt h (Nat.mod_lt _ (Nat.two_pow_pos 64)))
theorem partV_get : ∀ (ps : List (Nat × Nat)) (j : Nat) (p : Nat × Nat), ps[j]? = some p → (partV ps)[j * 2]? = some (.int .u64 (p.1 : Int)) ∧ (partV ps)[j * 2 + 1]? = some (.int .u64 (p.2 : Int))
  | [], j, p, h => by simp at h
  | q :: ps, 0, p, h => by
    simp at h; subst h; exact ⟨rfl, rfl⟩
  | q :: ps, j + 1, p, h => by
    have := partV_get ps j p (by simpa using h)
    rw [show (j + 1) * 2 = j * 2 + 2 by omega]
    exact this

theorem LdA_two {H : Hp} {g off : Nat} {u v : Value} {K : List Value → Prop} (h1 : H.cell? ⟨g, off, none⟩ = some u) (h2 : H.cell? ⟨g, off + 1, none⟩ = some v) (k : K [u, v]) : LdA H ⟨g, off, none⟩ 2 K := by
  have e0 : (⟨g, off, none⟩ : Addr).add 0 = ⟨g, off, none⟩ := by rw [Addr.add_lit']; rfl
  have e1 : (⟨g, off, none⟩ : Addr).add (0 + 1) = ⟨g, off + 1, none⟩ := by rw [Addr.add_lit']
  unfold LdA Hp.cells? Hp.cells? Hp.cells?
  rw [e0, e1, h1, h2]
  exact k

theorem join_loop {H0 : Hp} {b : Nat} {ps : List (Nat × Nat)} (hc : Cells H0 (some ⟨b, 0, none⟩) (partV ps)) (hp : ∀ p ∈ ps, p.1 < 2 ^ 64 ∧ p.2 ≤ 64) (hl : ps.length ≤ 1000) :
    ∀ (t j : Nat) (w : Nat) (H : Hp), j + t = ps.length → w < 2 ^ 64 → Sep [own H0] H → W_record_join.l3 (Ret (.int .u64 ((joinN w (ps.drop j) : Nat) : Int)) H0) (t + 1) (w : Int) (some ⟨b, 0, none⟩) ps.length ps.length (ps.length : Int) (j : Int) H
  | 0, j, w, H, hj, hw, hs => by
    unfold W_record_join.l3
    rw [List.drop_eq_nil_of_le (by omega)]
    exact BIf_dneg (by omega) (hs.fin 0 rfl _)
  | t + 1, j, w, H, hj, hw, hs => by
    have hlt : j < ps.length := by omega
    have hg := partV_get ps j _ (List.getElem?_eq_getElem hlt)
    obtain ⟨hp1, hp2⟩ := hp _ (List.getElem_mem hlt)
    have hcH := hc.le (hs.ow 0 rfl)
    unfold W_record_join.l3
    refine BIf_dpos (by omega) ⟨by omega, by omega, ?_⟩
    rw [List.drop_eq_getElem_cons hlt]
    generalize ps[j] = p at *
    simp only [NN_some]
    rw [Int.toNat_natCast, Addr.add_lit', Nat.zero_add]
    have g1 : H.cell? ⟨b, j * 2, none⟩ = some (.int .u64 (p.1 : Int)) := by
      obtain ⟨a, ha, hc⟩ := hcH _ _ hg.1
      cases ha
      rw [Addr.add_lit', Nat.zero_add] at hc
      exact hc
    have g2 : H.cell? ⟨b, j * 2 + 1, none⟩ = some (.int .u64 (p.2 : Int)) := by
      obtain ⟨a, ha, hc⟩ := hcH _ _ hg.2
      cases ha
      rw [Addr.add_lit', Nat.zero_add] at hc
      exact hc
    refine LdA_two g1 g2 ?_
    refine hs.nw fun b1 H1 hs => ?_
    refine hs.stw 1 rfl rfl rfl rfl fun H1 hs => ?_
    refine hs.ldf 1 rfl rfl ?_
    simp only [DI_int', DB_bool, DS_string, DP_pointer, DSl_slice, DM_map, DA_agg, DTup_tuple, DCons_cons, DNil_nil, NN_some, BIf_true, BIf_false, BIf_same, List.toList_toArray, Bool.not_true, Bool.not_false]
    refine hs.ldf 1 rfl rfl ?_
    simp only [DI_int', DB_bool, DS_string, DP_pointer, DSl_slice, DM_map, DA_agg, DTup_tuple, DCons_cons, DNil_nil, NN_some, BIf_true, BIf_false, BIf_same, List.toList_toArray, Bool.not_true, Bool.not_false]
    refine ⟨by omega, ?_⟩
    have hm : p.1 * 2 ^ p.2 % 2 ^ 64 < 2 ^ 64 := Nat.mod_lt _ (Nat.two_pow_pos 64)
    rw [shlN (x := p.1) (i := (p.2 : Int)) (n := p.2) rfl hp2, orN hw hm, i64w (x := (j : Int) + 1) (by omega) (by omega), show (j : Int) + 1 = ((j + 1 : Nat) : Int) by omega]
    exact join_loop hc hp hl t (j + 1) _ H1 (by omega) (or_lt hw hm) (hs.re [0] rfl)

theorem join_ok {H : Hp} {b : Nat} (ps : List (Nat × Nat)) (n : Nat) (hn : n = ps.length) (hc : Cells H (some ⟨b, 0, none⟩) (partV ps)) (hp : ∀ p ∈ ps, p.1 < 2 ^ 64 ∧ p.2 ≤ 64) (hl : ps.length ≤ 1000) :
    HCalls Tryz.prog 162 #[.slice (some ⟨b, 0, none⟩) n n] H (RetE (.int .u64 ((joinN 0 ps : Nat) : Int)) H) := HCalls.ret (by
  subst hn
  apply W_record_join.ok
  unfold W_record_join
  exact ⟨ps.length + 1, join_loop hc hp hl ps.length 0 0 H (by omega) (by decide) (Sep.start H)⟩)

def R.p1 (r : R) : List (Nat × Nat) := [(21061, 48), (r.s, 0)]
def R.p2 (r : R) : List (Nat × Nat) := [(r.ld, 32), (r.ps.toNat, 24), (r.kk.toNat, 16), (r.dir.toNat, 8), (r.kd.toNat, 0)]
def R.p3 (r : R) : List (Nat × Nat) := [(r.inp, 32), (r.out, 0)]
def R.w3 (r : R) : List UInt64 := [UInt64.ofNat (joinN 0 r.p1), UInt64.ofNat (joinN 0 r.p2), UInt64.ofNat (joinN 0 r.p3)]
structure R.u32 (r : R) : Prop where
  ld : r.ld < 4294967296
  inp : r.inp < 4294967296
  out : r.out < 4294967296

def parO (ps : List (Nat × Nat)) : AO := .row (partV ps) 264 (2 * ps.length)

theorem jn {L : List As} {H : Hp} (hs : Sep L H) (i : Nat) {b : Nat} {ps : List (Nat × Nat)} (hi : L[i]? = some (pts b (parO ps))) (n : Nat) (hn : n = ps.length) (hp : ∀ p ∈ ps, p.1 < 2 ^ 64 ∧ p.2 ≤ 64) (hl : n ≤ 1000) :
    HCalls Tryz.prog 162 #[.slice (some ⟨b, 0, none⟩) n n] H (RetE (.int .u64 ((joinN 0 ps : Nat) : Int)) H) := by
  refine join_ok ps n hn ?_ hp (by omega)
  have := Cells.row (hs.get i hi) 0 (partV ps).length
  rw [List.drop_zero, List.take_of_length_le (Nat.le_refl _)] at this
  exact this

theorem three_tr (r : R) (hg : r.good) (hu : r.u32) : Tr Tryz.prog 128 #[.agg r.c] [] fun v M => ∃ b, v = .slice (some ⟨b, 0, none⟩) 3 3 ∧ M = [pts b (.row (wordVals r.w3) 60 3)] := fun H hs => by
  obtain ⟨g1, g2, g3, g4, g5, g6⟩ := hg
  obtain ⟨u1, u2, u3⟩ := hu
  have c1 : ∀ p ∈ r.p1, p.1 < 2 ^ 64 ∧ p.2 ≤ 64 := fun p hp => by
    simp only [R.p1, List.mem_cons, List.not_mem_nil, or_false] at hp
    rcases hp with rfl | rfl <;> exact ⟨by simp only []; omega, by simp only []; omega⟩
  have c2 : ∀ p ∈ r.p2, p.1 < 2 ^ 64 ∧ p.2 ≤ 64 := fun p hp => by
    simp only [R.p2, List.mem_cons, List.not_mem_nil, or_false] at hp
    rcases hp with rfl | rfl | rfl | rfl | rfl <;> exact ⟨by simp only []; omega, by simp only []; omega⟩
  have c3 : ∀ p ∈ r.p3, p.1 < 2 ^ 64 ∧ p.2 ≤ 64 := fun p hp => by
    simp only [R.p3, List.mem_cons, List.not_mem_nil, or_false] at hp
    rcases hp with rfl | rfl <;> exact ⟨by simp only []; omega, by simp only []; omega⟩
  apply W_record_three.ok
  unfold W_record_three
  refine hs.nw fun b1 H hs => ?_
  have hs : Sep [pts b1 (recO r)] H := hs
  refine hs.ldf 0 rfl rfl ?_
  simp only [DI_int', DB_bool, DS_string, DP_pointer, DSl_slice, DM_map, DA_agg, DTup_tuple, DCons_cons, DNil_nil, NN_some, BIf_true, BIf_false, BIf_same, List.toList_toArray, Bool.not_true, Bool.not_false]
  refine hs.ldf 0 rfl rfl ?_
  simp only [DI_int', DB_bool, DS_string, DP_pointer, DSl_slice, DM_map, DA_agg, DTup_tuple, DCons_cons, DNil_nil, NN_some, BIf_true, BIf_false, BIf_same, List.toList_toArray, Bool.not_true, Bool.not_false]
  refine hs.ldf 0 rfl rfl ?_
  simp only [DI_int', DB_bool, DS_string, DP_pointer, DSl_slice, DM_map, DA_agg, DTup_tuple, DCons_cons, DNil_nil, NN_some, BIf_true, BIf_false, BIf_same, List.toList_toArray, Bool.not_true, Bool.not_false]
  refine hs.ldf 0 rfl rfl ?_
  simp only [DI_int', DB_bool, DS_string, DP_pointer, DSl_slice, DM_map, DA_agg, DTup_tuple, DCons_cons, DNil_nil, NN_some, BIf_true, BIf_false, BIf_same, List.toList_toArray, Bool.not_true, Bool.not_false]
  refine hs.ldf 0 rfl rfl ?_
  simp only [DI_int', DB_bool, DS_string, DP_pointer, DSl_slice, DM_map, DA_agg, DTup_tuple, DCons_cons, DNil_nil, NN_some, BIf_true, BIf_false, BIf_same, List.toList_toArray, Bool.not_true, Bool.not_false]
  refine hs.ldf 0 rfl rfl ?_
  simp only [DI_int', DB_bool, DS_string, DP_pointer, DSl_slice, DM_map, DA_agg, DTup_tuple, DCons_cons, DNil_nil, NN_some, BIf_true, BIf_false, BIf_same, List.toList_toArray, Bool.not_true, Bool.not_false]
  refine hs.ldf 0 rfl rfl ?_
  simp only [DI_int', DB_bool, DS_string, DP_pointer, DSl_slice, DM_map, DA_agg, DTup_tuple, DCons_cons, DNil_nil, NN_some, BIf_true, BIf_false, BIf_same, List.toList_toArray, Bool.not_true, Bool.not_false]
  refine hs.ldf 0 rfl rfl ?_
  simp only [DI_int', DB_bool, DS_string, DP_pointer, DSl_slice, DM_map, DA_agg, DTup_tuple, DCons_cons, DNil_nil, NN_some, BIf_true, BIf_false, BIf_same, List.toList_toArray, Bool.not_true, Bool.not_false]
  have e1 : IntKind.u64.wrap (r.ld : Int) = (r.ld : Int) := u64n (by omega)
  have e2 : IntKind.u64.wrap r.ps = (r.ps.toNat : Int) := by rw [u64w (by omega) (by omega)]; omega
  have e3 : IntKind.u64.wrap r.kk = (r.kk.toNat : Int) := by rw [u64w (by omega) (by omega)]; omega
  have e4 : IntKind.u64.wrap r.dir = (r.dir.toNat : Int) := by rw [u64w (by omega) (by omega)]; omega
  have e5 : IntKind.u64.wrap r.kd = (r.kd.toNat : Int) := by rw [u64w (by omega) (by omega)]; omega
  have e6 : IntKind.u64.wrap (r.inp : Int) = (r.inp : Int) := u64n (by omega)
  have e7 : IntKind.u64.wrap (r.out : Int) = (r.out : Int) := u64n (by omega)
  rw [e1, e2, e3, e4, e5, e6, e7]
  have done : ∀ {L : List As} {H : Hp}, Sep L H → Nw H (.row [.int .u64 ((joinN 0 r.p1 : Nat) : Int), .int .u64 ((joinN 0 r.p2 : Nat) : Int), .int .u64 ((joinN 0 r.p3 : Nat) : Int)] 60 3) fun b5 H5 => ∃ M, (∃ b, (.slice (some ⟨b5, 0, none⟩) 3 3 : Value) = .slice (some ⟨b, 0, none⟩) 3 3 ∧ M = [pts b (.row (wordVals r.w3) 60 3)]) ∧ Sep M H5 := fun {L H} hs => by
    refine hs.nw fun b5 H5 hs => ⟨_, ⟨b5, rfl, rfl⟩, ?_⟩
    have hw : wordVals r.w3 = [.int .u64 ((joinN 0 r.p1 : Nat) : Int), .int .u64 ((joinN 0 r.p2 : Nat) : Int), .int .u64 ((joinN 0 r.p3 : Nat) : Int)] := by
      show [Value.int .u64 ((UInt64.ofNat (joinN 0 r.p1)).toNat : Int), Value.int .u64 ((UInt64.ofNat (joinN 0 r.p2)).toNat : Int), Value.int .u64 ((UInt64.ofNat (joinN 0 r.p3)).toNat : Int)] = _
      rw [UInt64.toNat_ofNat_of_lt' (joinN_lt r.p1 0 (by decide)), UInt64.toNat_ofNat_of_lt' (joinN_lt r.p2 0 (by decide)), UInt64.toNat_ofNat_of_lt' (joinN_lt r.p3 0 (by decide))]
    rw [hw]
    have hg := hs.get L.length (b := b5) (o := .row [.int .u64 ((joinN 0 r.p1 : Nat) : Int), .int .u64 ((joinN 0 r.p2 : Nat) : Int), .int .u64 ((joinN 0 r.p3 : Nat) : Int)] 60 3) (by simp)
    exact ⟨H5, fun _ => none, Hp.le_refl _, fun b o h => (by cases h), fun b => .inr rfl, hg, trivial⟩
  have n1 : ∀ {L : List As} {H : Hp} {K : Nat → Hp → Prop}, Sep L H → (∀ b H', Sep (L ++ [pts b (parO r.p1)]) H' → K b H') → Nw H (.row [.int .u64 21061, .int .u64 48, .int .u64 (r.s : Int), .int .u64 0] 264 4) K := fun hs k => hs.nw k
  have n2 : ∀ {L : List As} {H : Hp} {K : Nat → Hp → Prop}, Sep L H → (∀ b H', Sep (L ++ [pts b (parO r.p2)]) H' → K b H') → Nw H (.row [.int .u64 (r.ld : Int), .int .u64 32, .int .u64 (r.ps.toNat : Int), .int .u64 24, .int .u64 (r.kk.toNat : Int), .int .u64 16, .int .u64 (r.dir.toNat : Int), .int .u64 8, .int .u64 (r.kd.toNat : Int), .int .u64 0] 264 10) K := fun hs k => hs.nw k
  have n3 : ∀ {L : List As} {H : Hp} {K : Nat → Hp → Prop}, Sep L H → (∀ b H', Sep (L ++ [pts b (parO r.p3)]) H' → K b H') → Nw H (.row [.int .u64 (r.inp : Int), .int .u64 32, .int .u64 (r.out : Int), .int .u64 0] 264 4) K := fun hs k => hs.nw k
  refine ⟨n1 hs fun b2 H hs => ?_, n2 hs fun b2 H hs => ?_, n3 hs fun b2 H hs => ?_⟩
  · refine QCall.use (jn hs 1 rfl 2 rfl c1 (by decide)) ?_
    simp only [DI_int', DB_bool, DS_string, DP_pointer, DSl_slice, DM_map, DA_agg, DTup_tuple, DCons_cons, DNil_nil, NN_some, BIf_true, BIf_false, BIf_same, List.toList_toArray, Bool.not_true, Bool.not_false]
    refine ⟨n2 hs fun b3 H hs => ?_, n3 hs fun b3 H hs => n2 hs fun b4 H hs => ?_⟩
    · refine QCall.use (jn hs 2 rfl 5 rfl c2 (by decide)) ?_
      simp only [DI_int', DB_bool, DS_string, DP_pointer, DSl_slice, DM_map, DA_agg, DTup_tuple, DCons_cons, DNil_nil, NN_some, BIf_true, BIf_false, BIf_same, List.toList_toArray, Bool.not_true, Bool.not_false]
      refine n3 hs fun b4 H hs => ?_
      refine QCall.use (jn hs 3 rfl 2 rfl c3 (by decide)) ?_
      simp only [DI_int', DB_bool, DS_string, DP_pointer, DSl_slice, DM_map, DA_agg, DTup_tuple, DCons_cons, DNil_nil, NN_some, BIf_true, BIf_false, BIf_same, List.toList_toArray, Bool.not_true, Bool.not_false]
      exact done hs
    · refine QCall.use (jn hs 3 rfl 5 rfl c2 (by decide)) ?_
      simp only [DI_int', DB_bool, DS_string, DP_pointer, DSl_slice, DM_map, DA_agg, DTup_tuple, DCons_cons, DNil_nil, NN_some, BIf_true, BIf_false, BIf_same, List.toList_toArray, Bool.not_true, Bool.not_false]
      refine QCall.use (jn hs 2 rfl 2 rfl c3 (by decide)) ?_
      simp only [DI_int', DB_bool, DS_string, DP_pointer, DSl_slice, DM_map, DA_agg, DTup_tuple, DCons_cons, DNil_nil, NN_some, BIf_true, BIf_false, BIf_same, List.toList_toArray, Bool.not_true, Bool.not_false]
      exact done hs
  · refine ⟨n1 hs fun b3 H hs => ?_, n3 hs fun b3 H hs => n1 hs fun b4 H hs => ?_⟩
    · refine QCall.use (jn hs 2 rfl 2 rfl c1 (by decide)) ?_
      simp only [DI_int', DB_bool, DS_string, DP_pointer, DSl_slice, DM_map, DA_agg, DTup_tuple, DCons_cons, DNil_nil, NN_some, BIf_true, BIf_false, BIf_same, List.toList_toArray, Bool.not_true, Bool.not_false]
      refine QCall.use (jn hs 1 rfl 5 rfl c2 (by decide)) ?_
      simp only [DI_int', DB_bool, DS_string, DP_pointer, DSl_slice, DM_map, DA_agg, DTup_tuple, DCons_cons, DNil_nil, NN_some, BIf_true, BIf_false, BIf_same, List.toList_toArray, Bool.not_true, Bool.not_false]
      refine n3 hs fun b4 H hs => ?_
      refine QCall.use (jn hs 3 rfl 2 rfl c3 (by decide)) ?_
      simp only [DI_int', DB_bool, DS_string, DP_pointer, DSl_slice, DM_map, DA_agg, DTup_tuple, DCons_cons, DNil_nil, NN_some, BIf_true, BIf_false, BIf_same, List.toList_toArray, Bool.not_true, Bool.not_false]
      exact done hs
    · refine QCall.use (jn hs 3 rfl 2 rfl c1 (by decide)) ?_
      simp only [DI_int', DB_bool, DS_string, DP_pointer, DSl_slice, DM_map, DA_agg, DTup_tuple, DCons_cons, DNil_nil, NN_some, BIf_true, BIf_false, BIf_same, List.toList_toArray, Bool.not_true, Bool.not_false]
      refine QCall.use (jn hs 1 rfl 5 rfl c2 (by decide)) ?_
      simp only [DI_int', DB_bool, DS_string, DP_pointer, DSl_slice, DM_map, DA_agg, DTup_tuple, DCons_cons, DNil_nil, NN_some, BIf_true, BIf_false, BIf_same, List.toList_toArray, Bool.not_true, Bool.not_false]
      refine QCall.use (jn hs 2 rfl 2 rfl c3 (by decide)) ?_
      simp only [DI_int', DB_bool, DS_string, DP_pointer, DSl_slice, DM_map, DA_agg, DTup_tuple, DCons_cons, DNil_nil, NN_some, BIf_true, BIf_false, BIf_same, List.toList_toArray, Bool.not_true, Bool.not_false]
      exact done hs
  · refine ⟨n1 hs fun b3 H hs => ?_, n2 hs fun b3 H hs => n1 hs fun b4 H hs => ?_⟩
    · refine QCall.use (jn hs 2 rfl 2 rfl c1 (by decide)) ?_
      simp only [DI_int', DB_bool, DS_string, DP_pointer, DSl_slice, DM_map, DA_agg, DTup_tuple, DCons_cons, DNil_nil, NN_some, BIf_true, BIf_false, BIf_same, List.toList_toArray, Bool.not_true, Bool.not_false]
      refine n2 hs fun b4 H hs => ?_
      refine QCall.use (jn hs 3 rfl 5 rfl c2 (by decide)) ?_
      simp only [DI_int', DB_bool, DS_string, DP_pointer, DSl_slice, DM_map, DA_agg, DTup_tuple, DCons_cons, DNil_nil, NN_some, BIf_true, BIf_false, BIf_same, List.toList_toArray, Bool.not_true, Bool.not_false]
      refine QCall.use (jn hs 1 rfl 2 rfl c3 (by decide)) ?_
      simp only [DI_int', DB_bool, DS_string, DP_pointer, DSl_slice, DM_map, DA_agg, DTup_tuple, DCons_cons, DNil_nil, NN_some, BIf_true, BIf_false, BIf_same, List.toList_toArray, Bool.not_true, Bool.not_false]
      exact done hs
    · refine QCall.use (jn hs 3 rfl 2 rfl c1 (by decide)) ?_
      simp only [DI_int', DB_bool, DS_string, DP_pointer, DSl_slice, DM_map, DA_agg, DTup_tuple, DCons_cons, DNil_nil, NN_some, BIf_true, BIf_false, BIf_same, List.toList_toArray, Bool.not_true, Bool.not_false]
      refine QCall.use (jn hs 2 rfl 5 rfl c2 (by decide)) ?_
      simp only [DI_int', DB_bool, DS_string, DP_pointer, DSl_slice, DM_map, DA_agg, DTup_tuple, DCons_cons, DNil_nil, NN_some, BIf_true, BIf_false, BIf_same, List.toList_toArray, Bool.not_true, Bool.not_false]
      refine QCall.use (jn hs 1 rfl 2 rfl c3 (by decide)) ?_
      simp only [DI_int', DB_bool, DS_string, DP_pointer, DSl_slice, DM_map, DA_agg, DTup_tuple, DCons_cons, DNil_nil, NN_some, BIf_true, BIf_false, BIf_same, List.toList_toArray, Bool.not_true, Bool.not_false]
      exact done hs

end Go.Proofs.YtlgpappgnndgiaaGreatDoor.Rec

end
section
/-! Wlayout -/
/- Formulas of functions, printed by wip/tools/hwp.py. -/
set_option maxRecDepth 100000
set_option linter.unusedVariables false
namespace Go.Proofs.YtlgpappgnndgiaaGreatDoor.W
open Go Go.Hw

theorem mixWlayout : Tryz.prog.follows .mixedOrders = true := by kernel_rfl
-- layout.Need
def W_layout_Need (x1 : Int) (x2 : Int) (H : Hp) (K : Value → Hp → Prop) : Prop :=
  HCalls Tryz.prog 88 #[.int .i64 x2] H fun v1 H1 => DI .i64 v1 fun x3 => HCalls Tryz.prog 87 #[.int .i64 x1, .int .i64 x3] H1 fun v2 H2 => DB v2 fun c1 => BIf (!c1) (K (.tuple #[.int .i64 (0 : Int), .int .i64 (1 : Int)]) H2) (HCalls Tryz.prog 88 #[.int .i64 x2] H2 fun v3 H3 => DI .i64 v3 fun x4 => HCalls Tryz.prog 89 #[.int .i64 x1, .int .i64 x4] H3 fun v4 H4 => DI .i64 v4 fun x5 => K (.tuple #[.int .i64 x5, .int .i64 (0 : Int)]) H4)
def W_layout_Need.Λ (_ : Value → Hp → Prop) : Cuts := Cuts.none (fun _ => none)
theorem W_layout_Need.ok (x1 : Int) (x2 : Int) (H : Hp) (K : Value → Hp → Prop) (h : W_layout_Need x1 x2 H K) : HCalls Tryz.prog 50 #[.int .i64 x1, .int .i64 x2] H K :=
  hcalls Tryz.func50 rfl (Nat.le_of_ble_eq_true rfl) (hw_safe (Λ := Cuts.none (fun _ => none)) mixWlayout _ _ _ _ _ (Eq.mp (by kernel_rfl) h) (obs_none _ _ _ _ _))

-- layout.Of
def W_layout_Of (x1 : Int) (x2 : Int) (x3 : Int) (H : Hp) (K : Value → Hp → Prop) : Prop :=
  Nw H (.obj (.cells #[.int .i64 (0 : Int), .int .i64 (0 : Int), .int .i64 (0 : Int), .int .i64 (0 : Int), .int .i64 (0 : Int), .int .i64 (0 : Int), .int .i64 (0 : Int), .int .i64 (0 : Int), .int .i64 (0 : Int), .int .i64 (0 : Int), .int .i64 (0 : Int), .int .i64 (0 : Int), .int .i64 (0 : Int), .int .i64 (0 : Int), .int .i64 (0 : Int), .int .i64 (0 : Int), .int .i64 (0 : Int)] 33)) fun b1 H1 => HCalls Tryz.prog 50 #[.int .i64 x1, .int .i64 x3] H1 fun v1 H2 => DTup v1 fun l1 => DCons l1 fun v2 l2 => DI .i64 v2 fun x4 => DCons l2 fun v3 l3 => DI .i64 v3 fun x5 => DNil l3 (BIf (x5 != (0 : Int)) (StA H2 (⟨b1, 0, none⟩ : Addr) #[.int .i64 (0 : Int), .int .i64 (0 : Int), .int .i64 (0 : Int), .int .i64 (0 : Int), .int .i64 (0 : Int), .int .i64 (0 : Int), .int .i64 (0 : Int), .int .i64 (0 : Int), .int .i64 (0 : Int), .int .i64 (0 : Int), .int .i64 (0 : Int), .int .i64 (0 : Int), .int .i64 (0 : Int), .int .i64 (0 : Int), .int .i64 (0 : Int), .int .i64 (0 : Int), .int .i64 (0 : Int)] 17 fun H3 => LdA H3 (⟨b1, 0, none⟩ : Addr) 17 fun l4 => K (.tuple #[.agg l4.toArray, .int .i64 x5]) H3) (BIf (decide (x2 < x4)) (StA H2 (⟨b1, 0, none⟩ : Addr) #[.int .i64 (0 : Int), .int .i64 (0 : Int), .int .i64 (0 : Int), .int .i64 (0 : Int), .int .i64 (0 : Int), .int .i64 (0 : Int), .int .i64 (0 : Int), .int .i64 (0 : Int), .int .i64 (0 : Int), .int .i64 (0 : Int), .int .i64 (0 : Int), .int .i64 (0 : Int), .int .i64 (0 : Int), .int .i64 (0 : Int), .int .i64 (0 : Int), .int .i64 (0 : Int), .int .i64 (0 : Int)] 17 fun H4 => LdA H4 (⟨b1, 0, none⟩ : Addr) 17 fun l5 => K (.tuple #[.agg l5.toArray, .int .i64 (7 : Int)]) H4) (HCalls Tryz.prog 88 #[.int .i64 x3] H2 fun v4 H5 => DI .i64 v4 fun x6 => HCalls Tryz.prog 90 #[.int .i64 x1, .int .i64 x6] H5 fun v5 H6 => DA v5 fun y1 => StA H6 (⟨b1, 0, none⟩ : Addr) y1 17 fun H7 => LdA H7 (⟨b1, 0, none⟩ : Addr) 17 fun l6 => K (.tuple #[.agg l6.toArray, .int .i64 (0 : Int)]) H7)))
def W_layout_Of.Λ (_ : Value → Hp → Prop) : Cuts := Cuts.none (fun _ => none)
theorem W_layout_Of.ok (x1 : Int) (x2 : Int) (x3 : Int) (H : Hp) (K : Value → Hp → Prop) (h : W_layout_Of x1 x2 x3 H K) : HCalls Tryz.prog 52 #[.int .i64 x1, .int .i64 x2, .int .i64 x3] H K :=
  hcalls Tryz.func52 rfl (Nat.le_of_ble_eq_true rfl) (hw_safe (Λ := Cuts.none (fun _ => none)) mixWlayout _ _ _ _ _ (Eq.mp (by kernel_rfl) h) (obs_none _ _ _ _ _))

-- layout.good
def W_layout_good (x1 : Int) (x2 : Int) (H : Hp) (K : Value → Hp → Prop) : Prop :=
  BIf (decide (x1 ≥ (0 : Int))) (BIf (decide (x1 ≤ (32 : Int))) (K (.bool (decide (x2 > (0 : Int)))) H) (K (.bool false) H)) (K (.bool false) H)
def W_layout_good.Λ (_ : Value → Hp → Prop) : Cuts := Cuts.none (fun _ => none)
theorem W_layout_good.ok (x1 : Int) (x2 : Int) (H : Hp) (K : Value → Hp → Prop) (h : W_layout_good x1 x2 H K) : HCalls Tryz.prog 87 #[.int .i64 x1, .int .i64 x2] H K :=
  hcalls Tryz.func87 rfl (Nat.le_of_ble_eq_true rfl) (hw_safe (Λ := Cuts.none (fun _ => none)) mixWlayout _ _ _ _ _ (Eq.mp (by kernel_rfl) h) (obs_none _ _ _ _ _))

-- layout.per
def W_layout_per (x1 : Int) (H : Hp) (K : Value → Hp → Prop) : Prop :=
  BIf (decide (x1 < (32 : Int))) (K (.int .i64 (0 : Int)) H) (BIf (decide (x1 > (4096 : Int))) (K (.int .i64 (0 : Int)) H) (BIf ((bAnd .i64 x1 (IntKind.i64.wrap (x1 - (1 : Int)))) != (0 : Int)) (K (.int .i64 (0 : Int)) H) (((8 : Int) ≠ 0 ∧ IntKind.i64 = IntKind.i64 ∧ K (.int .i64 (IntKind.i64.wrap (Int.tdiv x1 (8 : Int)))) H))))
def W_layout_per.Λ (_ : Value → Hp → Prop) : Cuts := Cuts.none (fun _ => none)
theorem W_layout_per.ok (x1 : Int) (H : Hp) (K : Value → Hp → Prop) (h : W_layout_per x1 H K) : HCalls Tryz.prog 88 #[.int .i64 x1] H K :=
  hcalls Tryz.func88 rfl (Nat.le_of_ble_eq_true rfl) (hw_safe (Λ := Cuts.none (fun _ => none)) mixWlayout _ _ _ _ _ (Eq.mp (by kernel_rfl) h) (obs_none _ _ _ _ _))

-- layout.need
def W_layout_need (x1 : Int) (x2 : Int) (H : Hp) (K : Value → Hp → Prop) : Prop :=
  HCalls Tryz.prog 139 #[.int .i64 x1, .int .i64 x2] H fun v1 H1 => DI .i64 v1 fun x3 => K (.int .i64 (IntKind.i64.wrap ((9 : Int) + (IntKind.i64.wrap ((4 : Int) * x3))))) H1
def W_layout_need.Λ (_ : Value → Hp → Prop) : Cuts := Cuts.none (fun _ => none)
theorem W_layout_need.ok (x1 : Int) (x2 : Int) (H : Hp) (K : Value → Hp → Prop) (h : W_layout_need x1 x2 H K) : HCalls Tryz.prog 89 #[.int .i64 x1, .int .i64 x2] H K :=
  hcalls Tryz.func89 rfl (Nat.le_of_ble_eq_true rfl) (hw_safe (Λ := Cuts.none (fun _ => none)) mixWlayout _ _ _ _ _ (Eq.mp (by kernel_rfl) h) (obs_none _ _ _ _ _))

-- layout.lay
def W_layout_lay.l4 (K : Value → Hp → Prop) : Nat → Int → Addr → Addr → Int → Int → Int → Hp → Prop
  | 0, _, _, _, _, _, _, _ => False
  | k + 1, x4, a1, a2, x5, x6, x7, H =>
    let R4 := W_layout_lay.l4 K k
    BIf (decide (x7 < (4 : Int))) ((0 ≤ (IntKind.u64.wrap x4) ∧ ixI x7 4 (StA H ((a2.add 5).add (x7.toNat * 3)) #[.int .i64 x5, .int .i64 x6, .int .i64 (shlI .i64 (1 : Int) (IntKind.u64.wrap x4))] 3 fun H5 => R4 x4 a1 a2 (IntKind.i64.wrap (x5 + x6)) x6 (IntKind.i64.wrap (x7 + (1 : Int))) H5))) (LdA H a2 17 fun l1 => StA H a1 l1.toArray 17 fun H6 => LdA H6 a1 17 fun l2 => K (.agg l2.toArray) H6)
def W_layout_lay (x1 : Int) (x2 : Int) (H : Hp) (K : Value → Hp → Prop) : Prop :=
  Nw H (.obj (.cells #[.int .i64 (0 : Int), .int .i64 (0 : Int), .int .i64 (0 : Int), .int .i64 (0 : Int), .int .i64 (0 : Int), .int .i64 (0 : Int), .int .i64 (0 : Int), .int .i64 (0 : Int), .int .i64 (0 : Int), .int .i64 (0 : Int), .int .i64 (0 : Int), .int .i64 (0 : Int), .int .i64 (0 : Int), .int .i64 (0 : Int), .int .i64 (0 : Int), .int .i64 (0 : Int), .int .i64 (0 : Int)] 33)) fun b1 H1 => Nw H1 (.obj (.cells #[.int .i64 (0 : Int), .int .i64 (0 : Int), .int .i64 (0 : Int), .int .i64 (0 : Int), .int .i64 (0 : Int), .int .i64 (0 : Int), .int .i64 (0 : Int), .int .i64 (0 : Int), .int .i64 (0 : Int), .int .i64 (0 : Int), .int .i64 (0 : Int), .int .i64 (0 : Int), .int .i64 (0 : Int), .int .i64 (0 : Int), .int .i64 (0 : Int), .int .i64 (0 : Int), .int .i64 (0 : Int)] 33)) fun b2 H2 => StA H2 (⟨b2, 0, none⟩ : Addr) #[.int .i64 x1, .int .i64 x2, .int .i64 (1 : Int), .int .i64 (8 : Int), .int .i64 (IntKind.i64.wrap ((8 : Int) * x2)), .int .i64 (0 : Int), .int .i64 (0 : Int), .int .i64 (0 : Int), .int .i64 (0 : Int), .int .i64 (0 : Int), .int .i64 (0 : Int), .int .i64 (0 : Int), .int .i64 (0 : Int), .int .i64 (0 : Int), .int .i64 (0 : Int), .int .i64 (0 : Int), .int .i64 (0 : Int)] 17 fun H3 => HCalls Tryz.prog 139 #[.int .i64 x1, .int .i64 x2] H3 fun v1 H4 => DI .i64 v1 fun x3 => (∃ k, W_layout_lay.l4 K k x1 (⟨b1, 0, none⟩ : Addr) (⟨b2, 0, none⟩ : Addr) (9 : Int) x3 (0 : Int) H4)
def W_layout_lay.l4.L (K : Value → Hp → Prop) (k : Nat) : Mid := fun E D H =>
  DG (E.get? 0) fun w0 => DI .i64 w0 fun x4 => DG (E.get? 4) fun w4 => DP w4 fun pw4 => NN pw4 fun a1 => DG (E.get? 5) fun w5 => DP w5 fun pw5 => NN pw5 fun a2 => DG (E.get? 6) fun w6 => DI .i64 w6 fun x5 => DG (E.get? 7) fun w7 => DI .i64 w7 fun x6 => DG (E.get? 18) fun w18 => DI .i64 w18 fun x7 => DNilD D (W_layout_lay.l4 K k x4 a1 a2 x5 x6 x7 H)
def W_layout_lay.Λ4 (_ : Value → Hp → Prop) (_R4 : Int → Addr → Addr → Int → Int → Int → Hp → Prop) : Cuts := Cuts.none (fun _ => none)
def W_layout_lay.Λ (K : Value → Hp → Prop) : Cuts := ⟨fun i => none, fun i => match Nat.beq i 4 with | true => some (fun E D H => ∃ k, W_layout_lay.l4.L K k E D H) | false => none, (fun _ => none)⟩
theorem W_layout_lay.ok (x1 : Int) (x2 : Int) (H : Hp) (K : Value → Hp → Prop) (h : W_layout_lay x1 x2 H K) : HCalls Tryz.prog 90 #[.int .i64 x1, .int .i64 x2] H K :=
  hcalls Tryz.func90 rfl (Nat.le_of_ble_eq_true rfl) (hw_safe (Λ := (W_layout_lay.Λ K)) mixWlayout _ _ _ _ _ (Eq.mp (by kernel_rfl) h) (obs_seq obs_region rfl (obs_seq obs_region rfl (obs_seq obs_region rfl (obs_seq (obs_seq obs_region rfl (obs_block (obs_loop rfl (fun E D H h => by
      refine Safe.loop' (W_layout_lay.l4.L K) (fun E D H h => ?_) (fun k E D H h => ?_) E D H h
      · obtain ⟨w0, e0, g1⟩ := DG.out h; obtain ⟨x4, rfl, g2⟩ := DI.out g1; obtain ⟨w4, e4, g3⟩ := DG.out g2; obtain ⟨pw4, rfl, g4⟩ := DP.out g3; obtain ⟨a1, rfl, g5⟩ := NN.out g4; obtain ⟨w5, e5, g6⟩ := DG.out g5; obtain ⟨pw5, rfl, g7⟩ := DP.out g6; obtain ⟨a2, rfl, g8⟩ := NN.out g7; obtain ⟨w6, e6, g9⟩ := DG.out g8; obtain ⟨x5, rfl, g10⟩ := DI.out g9; obtain ⟨w7, e7, g11⟩ := DG.out g10; obtain ⟨x6, rfl, g12⟩ := DI.out g11; obtain ⟨w18, e18, g13⟩ := DG.out g12; obtain ⟨x7, rfl, g14⟩ := DI.out g13; obtain ⟨rfl, h'⟩ := DNilD.out g14; exact h'
      · obtain ⟨w0, e0, g1⟩ := DG.out h
        obtain ⟨x4, rfl, g2⟩ := DI.out g1
        obtain ⟨w4, e4, g3⟩ := DG.out g2
        obtain ⟨pw4, rfl, g4⟩ := DP.out g3
        obtain ⟨a1, rfl, g5⟩ := NN.out g4
        obtain ⟨w5, e5, g6⟩ := DG.out g5
        obtain ⟨pw5, rfl, g7⟩ := DP.out g6
        obtain ⟨a2, rfl, g8⟩ := NN.out g7
        obtain ⟨w6, e6, g9⟩ := DG.out g8
        obtain ⟨x5, rfl, g10⟩ := DI.out g9
        obtain ⟨w7, e7, g11⟩ := DG.out g10
        obtain ⟨x6, rfl, g12⟩ := DI.out g11
        obtain ⟨w18, e18, g13⟩ := DG.out g12
        obtain ⟨x7, rfl, g14⟩ := DI.out g13
        obtain ⟨rfl, h'⟩ := DNilD.out g14
        exact (hw_safe (Λ := (W_layout_lay.Λ4 K (W_layout_lay.l4 K k))) mixWlayout _ _ [(0, .int .i64 x4), (4, .pointer (some a1)), (5, .pointer (some a2)), (6, .int .i64 x5), (7, .int .i64 x6), (18, .int .i64 x7)] [] H (Eq.mp (by kernel_rfl) h') (obs_seq obs_region rfl (obs_seq (obs_cond obs_skip obs_exit) rfl (obs_seq (obs_block (obs_seq obs_region rfl (obs_seq obs_region rfl obs_region))) rfl obs_region)))).weaken (EnvLe.cons e0 (EnvLe.cons e4 (EnvLe.cons e5 (EnvLe.cons e6 (EnvLe.cons e7 (EnvLe.cons e18 (EnvLe.nil _))))))) (Hp.le_refl _))))) rfl (obs_seq obs_region rfl obs_ret))))))

-- layout.Good
def W_layout_Good (y1 : Array Value) (H : Hp) (K : Value → Hp → Prop) : Prop :=
  Nw H (.obj (.cells y1 33)) fun b1 H1 => Ld H1 ((⟨b1, 0, none⟩ : Addr).add 0) fun v1 => DI .i64 v1 fun x1 => Ld H1 ((⟨b1, 0, none⟩ : Addr).add 1) fun v2 => DI .i64 v2 fun x2 => QCall Tryz.prog 88 #[.int .i64 (IntKind.i64.wrap ((if (4096 : Int) < x2 then (4096 : Int) else x2) * (8 : Int)))] H1 fun v3 => DI .i64 v3 fun x3 => QCall Tryz.prog 87 #[.int .i64 x1, .int .i64 x3] H1 fun v4 => DB v4 fun c1 => BIf c1 (LdA H1 (⟨b1, 0, none⟩ : Addr) 17 fun l1 => Ld H1 ((⟨b1, 0, none⟩ : Addr).add 0) fun v5 => DI .i64 v5 fun x4 => Ld H1 ((⟨b1, 0, none⟩ : Addr).add 1) fun v6 => DI .i64 v6 fun x5 => QCall Tryz.prog 90 #[.int .i64 x4, .int .i64 x5] H1 fun v7 => DA v7 fun y2 => EqV Tryz.prog .eql 33 (.agg l1.toArray) (.agg y2) fun c2 => K (.bool c2) H1) (K (.bool false) H1)
def W_layout_Good.Λ (_ : Value → Hp → Prop) : Cuts := Cuts.none (fun _ => none)
theorem W_layout_Good.ok (y1 : Array Value) (H : Hp) (K : Value → Hp → Prop) (h : W_layout_Good y1 H K) : HCalls Tryz.prog 101 #[.agg y1] H K :=
  hcalls Tryz.func101 rfl (Nat.le_of_ble_eq_true rfl) (hw_safe (Λ := Cuts.none (fun _ => none)) mixWlayout _ _ _ _ _ (Eq.mp (by kernel_rfl) h) (obs_none _ _ _ _ _))

-- layout.room
def W_layout_room (x1 : Int) (x2 : Int) (H : Hp) (K : Value → Hp → Prop) : Prop :=
  (0 ≤ (IntKind.u64.wrap x1) ∧ (x2 ≠ 0 ∧ IntKind.i64 = IntKind.i64 ∧ K (.int .i64 (IntKind.i64.wrap ((IntKind.i64.wrap (Int.tdiv (IntKind.i64.wrap ((shlI .i64 (1 : Int) (IntKind.u64.wrap x1)) - (1 : Int))) x2)) + (1 : Int)))) H))
def W_layout_room.Λ (_ : Value → Hp → Prop) : Cuts := Cuts.none (fun _ => none)
theorem W_layout_room.ok (x1 : Int) (x2 : Int) (H : Hp) (K : Value → Hp → Prop) (h : W_layout_room x1 x2 H K) : HCalls Tryz.prog 139 #[.int .i64 x1, .int .i64 x2] H K :=
  hcalls Tryz.func139 rfl (Nat.le_of_ble_eq_true rfl) (hw_safe (Λ := Cuts.none (fun _ => none)) mixWlayout _ _ _ _ _ (Eq.mp (by kernel_rfl) h) (obs_none _ _ _ _ _))

-- layout.Sector
def W_layout_Sector (x1 : Int) (x2 : Int) (x3 : Int) (x4 : Int) (x5 : Int) (H : Hp) (K : Value → Hp → Prop) : Prop :=
  Nw H (.obj (.cells #[.int .i64 x1, .int .i64 x2, .int .i64 x3] 30)) fun b1 H1 => BIf (decide (x4 < (1 : Int))) (K (.tuple #[.int .i64 (0 : Int), .int .i64 (0 : Int), .int .i64 (2 : Int)]) H1) (BIf (decide (x5 < (0 : Int))) (K (.tuple #[.int .i64 (0 : Int), .int .i64 (0 : Int), .int .i64 (2 : Int)]) H1) (Ld H1 ((⟨b1, 0, none⟩ : Addr).add 2) fun v1 => DI .i64 v1 fun x6 => BIf (decide (x5 ≥ x6)) (K (.tuple #[.int .i64 (0 : Int), .int .i64 (0 : Int), .int .i64 (2 : Int)]) H1) ((x4 ≠ 0 ∧ IntKind.i64 = IntKind.i64 ∧ Ld H1 ((⟨b1, 0, none⟩ : Addr).add 1) fun v2 => DI .i64 v2 fun x7 => BIf (decide ((IntKind.i64.wrap (Int.tdiv x5 x4)) ≥ x7)) (K (.tuple #[.int .i64 (0 : Int), .int .i64 (0 : Int), .int .i64 (2 : Int)]) H1) (Ld H1 ((⟨b1, 0, none⟩ : Addr).add 0) fun v3 => DI .i64 v3 fun x8 => (x4 ≠ 0 ∧ IntKind.i64 = IntKind.i64 ∧ (x4 ≠ 0 ∧ IntKind.i64 = IntKind.i64 ∧ K (.tuple #[.int .i64 (IntKind.i64.wrap (x8 + (IntKind.i64.wrap (Int.tdiv x5 x4)))), .int .i64 (Int.tmod x5 x4), .int .i64 (0 : Int)]) H1)))))))
def W_layout_Sector.Λ (_ : Value → Hp → Prop) : Cuts := Cuts.none (fun _ => none)
theorem W_layout_Sector.ok (x1 : Int) (x2 : Int) (x3 : Int) (x4 : Int) (x5 : Int) (H : Hp) (K : Value → Hp → Prop) (h : W_layout_Sector x1 x2 x3 x4 x5 H K) : HCalls Tryz.prog 141 #[.agg #[.int .i64 x1, .int .i64 x2, .int .i64 x3], .int .i64 x4, .int .i64 x5] H K :=
  hcalls Tryz.func141 rfl (Nat.le_of_ble_eq_true rfl) (hw_safe (Λ := Cuts.none (fun _ => none)) mixWlayout _ _ _ _ _ (Eq.mp (by kernel_rfl) h) (obs_none _ _ _ _ _))

end Go.Proofs.YtlgpappgnndgiaaGreatDoor.W

end
section
/-! LayA -/
/- layout, and its law's helpers: what they answer. -/
set_option maxRecDepth 100000
set_option linter.unusedSimpArgs false
set_option linter.unnecessarySimpa false
set_option linter.unusedSectionVars false

set_option linter.unusedVariables false
namespace Go.Proofs.YtlgpappgnndgiaaGreatDoor.Lay
open Go Go.Hw Go.Proofs.YtlgpappgnndgiaaGreatDoor.W

def perN (s : Int) : Nat := if s = 32 then 4 else if s = 64 then 8 else if s = 128 then 16 else if s = 256 then 32 else if s = 512 then 64 else if s = 1024 then 128 else if s = 2048 then 256 else if s = 4096 then 512 else 0

theorem bAnd_nat {x y : Nat} (hx : x < 2 ^ 63) (hy : y < 2 ^ 63) : bAnd .i64 (x : Int) (y : Int) = ((x &&& y : Nat) : Int) := by
  have hle : x &&& y ≤ x := Nat.and_le_left
  have h1 : (BitVec.ofInt 64 (x : Int) &&& BitVec.ofInt 64 (y : Int)).toNat = x &&& y := by
    simp only [BitVec.toNat_and, BitVec.ofInt_natCast, BitVec.toNat_ofNat]
    rw [Nat.mod_eq_of_lt (by omega), Nat.mod_eq_of_lt (by omega)]
  unfold bAnd
  rw [show IntKind.i64.bits = 64 from rfl, h1]
  exact i64w (by omega) (by omega)

theorem pow_table : (List.range 4097).all (fun n => if 32 ≤ n then (if n &&& (n - 1) == 0 then perN n != 0 && n / 8 == perN n else perN n == 0) else true) = true := by kernel_rfl

theorem perN_small {s : Int} (h : s < 32) : perN s = 0 := by
  unfold perN
  repeat (rw [if_neg (by omega)])
theorem perN_great {s : Int} (h : 4096 < s) : perN s = 0 := by
  unfold perN
  repeat (rw [if_neg (by omega)])

theorem per_ok (s : Int) (H : Hp) : HCalls Tryz.prog 88 #[.int .i64 s] H (RetE (.int .i64 (perN s)) H) := by
  apply W_layout_per.ok
  unfold W_layout_per
  rw [BIf_decide, BIf_decide, BIf_if]
  by_cases h1 : s < 32
  · rw [if_pos h1, perN_small h1]; exact RetE.mk _ _
  rw [if_neg h1]
  by_cases h2 : s > 4096
  · rw [if_pos h2, perN_great h2]; exact RetE.mk _ _
  rw [if_neg h2]
  obtain ⟨n, rfl⟩ := Int.eq_ofNat_of_zero_le (show 0 ≤ s by omega)
  have ht := List.all_eq_true.1 pow_table n (by simp; omega)
  rw [if_pos (by omega)] at ht
  rw [show ((n : Int) - 1) = ((n - 1 : Nat) : Int) by omega, i64w (by omega) (by omega), bAnd_nat (by omega) (by omega)]
  split at ht
  · rename_i h3
    simp only [Bool.and_eq_true, bne_iff_ne, beq_iff_eq] at ht h3
    rw [h3, if_neg (by simp)]
    refine ⟨by omega, rfl, RetE.of ?_⟩
    rw [show Int.tdiv (n : Int) 8 = ((n / 8 : Nat) : Int) from rfl, ht.2, i64w (by omega) (by have := ht.2; omega)]
  · rename_i h3
    simp only [beq_iff_eq] at ht h3
    rw [if_pos (by simp; omega), ht]
    exact RetE.mk _ _

/-- How many sectors 2^k words need. -/
def roomN (k p : Nat) : Nat := (2 ^ k - 1) / p + 1

theorem roomN_le {k p : Nat} (hk : k ≤ 33) : roomN k p ≤ 8589934592 := by
  unfold roomN
  have h1 : 2 ^ k ≤ 2 ^ 33 := Nat.pow_le_pow_right (by omega) hk
  have h2 : (2 ^ k - 1) / p ≤ 2 ^ k - 1 := Nat.div_le_self _ _
  have h3 : 1 ≤ 2 ^ k := Nat.one_le_two_pow
  omega

theorem pow_i64 {k : Nat} (h : k ≤ 62) : (2 : Nat) ^ k ≤ 4611686018427387904 := Nat.pow_le_pow_right (n := 2) (by omega) h

theorem shl_one {k : Nat} (h : k ≤ 62) : shlI .i64 1 (k : Int) = ((2 ^ k : Nat) : Int) := by
  unfold shlI
  rw [Int.toNat_natCast, show IntKind.i64.bits = 64 from rfl, Nat.min_eq_left (by omega), Int.one_mul]
  have := pow_i64 h
  rw [show ((2 : Int) ^ k) = ((2 ^ k : Nat) : Int) by simp]
  exact i64n (by omega)

theorem room_ok {k p : Nat} (hk : k ≤ 62) (hp : 0 < p) (hp2 : p < 2 ^ 62) (H : Hp) : HCalls Tryz.prog 139 #[.int .i64 k, .int .i64 p] H (RetE (.int .i64 (roomN k p)) H) := by
  apply W_layout_room.ok
  unfold W_layout_room
  have h1 := pow_i64 hk
  have h2 : 1 ≤ 2 ^ k := Nat.one_le_two_pow
  have h3 : (2 ^ k - 1) / p ≤ 2 ^ k - 1 := Nat.div_le_self _ _
  rw [u64w (by omega) (by omega), shl_one hk, i64w (x := ((2 ^ k : Nat) : Int) - 1) (by omega) (by omega)]
  rw [show (((2 ^ k : Nat) : Int) - 1) = ((2 ^ k - 1 : Nat) : Int) by omega, show Int.tdiv ((2 ^ k - 1 : Nat) : Int) (p : Int) = (((2 ^ k - 1) / p : Nat) : Int) from rfl]
  refine ⟨by omega, by omega, rfl, RetE.of ?_⟩
  rw [i64n (by omega), show ((((2 ^ k - 1) / p : Nat) : Int) + 1) = (((2 ^ k - 1) / p + 1 : Nat) : Int) by rfl, i64n (by omega)]
  rfl

theorem good_ok (k : Int) (p : Int) (H : Hp) : HCalls Tryz.prog 87 #[.int .i64 k, .int .i64 p] H (RetE (.bool (decide (0 ≤ k ∧ k ≤ 32 ∧ 0 < p))) H) := by
  apply W_layout_good.ok
  unfold W_layout_good
  rw [BIf_decide, BIf_decide]
  by_cases h1 : k ≥ 0
  · rw [if_pos h1]
    by_cases h2 : k ≤ 32
    · rw [if_pos h2]; refine RetE.of ?_; congr 2; simp; omega
    · rw [if_neg h2]; refine RetE.of ?_; congr 1; simp; omega
  · rw [if_neg h1]; refine RetE.of ?_; congr 1; simp; omega

/-- How many sectors a layout has. -/
def needN (k p : Nat) : Nat := 9 + 4 * roomN k p

theorem need_ok {k p : Nat} (hk : k ≤ 32) (hp : 0 < p) (hp2 : p < 2 ^ 62) (H : Hp) : HCalls Tryz.prog 89 #[.int .i64 k, .int .i64 p] H (RetE (.int .i64 (needN k p)) H) := by
  apply W_layout_need.ok
  unfold W_layout_need
  refine HCalls.use (room_ok (by omega) hp hp2 H) ?_
  try simp only [DI_int', DB_bool, DS_string, DP_pointer, DSl_slice, DM_map, DA_agg, DTup_tuple, DCons_cons, DNil_nil, NN_some, BIf_true, BIf_false, BIf_same, List.toList_toArray, Bool.not_true, Bool.not_false]
  have := roomN_le (k := k) (p := p) (by omega)
  refine RetE.of ?_
  rw [i64w (x := 4 * (roomN k p : Int)) (by omega) (by omega), i64w (by omega) (by omega)]
  unfold needN; simp

theorem perN_le (s : Int) : perN s ≤ 512 := by
  unfold perN
  repeat' split
  all_goals omega

/-- Need's answer. -/
def NeedV (k s : Int) : Int × Int := if 0 ≤ k ∧ k ≤ 32 ∧ 0 < perN s then (needN k.toNat (perN s), 0) else (0, 1)

theorem Need_ok (k s : Int) (H : Hp) : HCalls Tryz.prog 50 #[.int .i64 k, .int .i64 s] H (RetE (.tuple #[.int .i64 (NeedV k s).1, .int .i64 (NeedV k s).2]) H) := by
  apply W_layout_Need.ok
  unfold W_layout_Need
  refine HCalls.use (per_ok s H) ?_
  try simp only [DI_int', DB_bool, DS_string, DP_pointer, DSl_slice, DM_map, DA_agg, DTup_tuple, DCons_cons, DNil_nil, NN_some, BIf_true, BIf_false, BIf_same, List.toList_toArray, Bool.not_true, Bool.not_false]
  refine HCalls.use (good_ok k _ H) ?_
  try simp only [DI_int', DB_bool, DS_string, DP_pointer, DSl_slice, DM_map, DA_agg, DTup_tuple, DCons_cons, DNil_nil, NN_some, BIf_true, BIf_false, BIf_same, List.toList_toArray, Bool.not_true, Bool.not_false]
  unfold NeedV
  have hle := perN_le s
  by_cases h : 0 ≤ k ∧ k ≤ 32 ∧ 0 < perN s
  · rw [if_pos h]
    refine BIf_neg (by simp; omega) ?_
    refine HCalls.use (per_ok s H) ?_
    try simp only [DI_int', DB_bool, DS_string, DP_pointer, DSl_slice, DM_map, DA_agg, DTup_tuple, DCons_cons, DNil_nil, NN_some, BIf_true, BIf_false, BIf_same, List.toList_toArray, Bool.not_true, Bool.not_false]
    obtain ⟨n, rfl⟩ := Int.eq_ofNat_of_zero_le h.1
    refine HCalls.use (need_ok (by omega) h.2.2 (by omega) H) ?_
    try simp only [DI_int', DB_bool, DS_string, DP_pointer, DSl_slice, DM_map, DA_agg, DTup_tuple, DCons_cons, DNil_nil, NN_some, BIf_true, BIf_false, BIf_same, List.toList_toArray, Bool.not_true, Bool.not_false]
    exact RetE.mk _ _
  · rw [if_neg h]
    exact BIf_pos (by simp; omega) (RetE.mk _ _)

/-- The greatest exponent below k that fits. -/
def mostN (sec : Int) (p : Nat) : Nat → Option Nat
  | 0 => none
  | k + 1 => if (needN k p : Int) ≤ sec then some k else mostN sec p k

def MostV (sec s : Int) : Int × Bool := if perN s = 0 then (0, false) else match mostN sec (perN s) 33 with | some k => (k, true) | none => (0, false)

/-! ## The law's own -/

def lroomN (k p : Nat) : Nat := if 2 ^ k ≤ p then 1 else 2 ^ k / p

theorem perN_cases (s : Int) (h : perN s ≠ 0) : ∃ m, 2 ≤ m ∧ m ≤ 9 ∧ perN s = 2 ^ m := by
  unfold perN at h ⊢
  repeat' split
  all_goals first | exact ⟨2, by omega⟩ | exact ⟨3, by omega⟩ | exact ⟨4, by omega⟩ | exact ⟨5, by omega⟩ | exact ⟨6, by omega⟩ | exact ⟨7, by omega⟩ | exact ⟨8, by omega⟩ | exact ⟨9, by omega⟩ | skip
  exfalso
  repeat (rw [if_neg (by assumption)] at h)
  exact h rfl

theorem lroomN_eq {k m : Nat} : lroomN k (2 ^ m) = roomN k (2 ^ m) := by
  unfold lroomN roomN
  have h0 : 1 ≤ 2 ^ k := Nat.one_le_two_pow
  have h1 : 1 ≤ 2 ^ m := Nat.one_le_two_pow
  by_cases h : 2 ^ k ≤ 2 ^ m
  · rw [if_pos h, Nat.div_eq_of_lt (by omega)]
  · rw [if_neg h]
    have hm : m < k := by
      rcases Nat.lt_or_ge m k with h2 | h2
      · exact h2
      · exact absurd (Nat.pow_le_pow_right (by omega) h2) h
    obtain ⟨d, rfl⟩ : ∃ d, k = m + d := ⟨k - m, by omega⟩
    rw [Nat.pow_add, Nat.mul_div_cancel_left _ (by omega)]
    have h2 : 1 ≤ 2 ^ d := Nat.one_le_two_pow
    have : ∀ a b : Nat, 1 ≤ a → 1 ≤ b → (a * b - 1) / a = b - 1 := by
      intro a b ha hb
      have hab := Nat.mul_le_mul ha hb
      have hs : (b - 1) * a = a * b - a := by rw [Nat.sub_mul, Nat.mul_comm b a, Nat.one_mul]
      apply Nat.div_eq_of_lt_le
      · rw [hs]; omega
      · rw [show b - 1 + 1 = b by omega, Nat.mul_comm b a]; omega
    rw [this _ _ h1 h2]
    omega

theorem mostN_none {sec : Int} {p : Nat} : ∀ n, mostN sec p n = none → ∀ k, k < n → sec < needN k p
  | 0, _, k, hk => by omega
  | n + 1, h, k, hk => by
    unfold mostN at h
    split at h
    · cases h
    · rcases Nat.lt_succ_iff_lt_or_eq.1 hk with h1 | rfl
      · exact mostN_none n h k h1
      · omega

theorem mostN_some {sec : Int} {p : Nat} : ∀ n k, mostN sec p n = some k → k < n ∧ (needN k p : Int) ≤ sec ∧ (k + 1 < n → sec < needN (k + 1) p)
  | 0, k, h => by cases h
  | n + 1, k, h => by
    unfold mostN at h
    split at h
    · cases h
      exact ⟨by omega, by assumption, by omega⟩
    · obtain ⟨h1, h2, h3⟩ := mostN_some n k h
      refine ⟨by omega, h2, fun h4 => ?_⟩
      rcases Nat.lt_succ_iff_lt_or_eq.1 h4 with h5 | h5
      · exact h3 h5
      · rw [h5]; omega

end Go.Proofs.YtlgpappgnndgiaaGreatDoor.Lay

end
section
/-! RecP -/
/- record: Put; the law RecordFollows. -/
set_option maxRecDepth 100000
set_option linter.unusedSimpArgs false
set_option linter.unusedVariables false
set_option linter.unnecessarySimpa false
set_option linter.unusedSectionVars false
namespace Go.Proofs.YtlgpappgnndgiaaGreatDoor.Gen
open Go
def natV (xs : List Nat) : List Value := List.map (fun (x : Nat) => Value.int .u64 (x : Int)) xs
theorem natV_length (xs : List Nat) : (natV xs).length = xs.length := by simp [natV]
theorem cell_u64 : Hw.cellInfo Tryz.prog 60 = some (1, 8, some #[.int .u64 0]) := by kernel_rfl
end Go.Proofs.YtlgpappgnndgiaaGreatDoor.Gen
namespace Go.Hw
open Go
/-- What is appended to has room for it. -/
theorem AppK_cap {P : Program} {e : TypeId} {s x : Value} {H : Hp} {K : Value → Hp → Prop} (h : AppK P e s x H fun v H' => (∀ A n m, v = .slice A n m → n ≤ m) → K v H') : AppK P e s x H K := by
  unfold AppK at h ⊢
  split at h
  · split at h
    · obtain ⟨n, ys, h1, h2, h3, h4, h5, h6, h7, h8, h9⟩ := h
      refine ⟨n, ys, h1, h2, h3, h4, h5, h6, h7, h8, h9.imp ?_ ?_⟩
      · rintro ⟨e1, e2, e3, k0, k⟩
        refine ⟨e1, e2, e3, fun h0 => k0 h0 (fun A n m e => by cases e; exact Nat.le_refl _), fun hp c hc b hb => k hp c hc b hb (fun A n m e => by cases e; exact hc)⟩
      · rintro ⟨b0, xs, m, e1, e2, e3, e4, k⟩
        exact ⟨b0, xs, m, e1, e2, e3, e4, fun c m' hc hl b hb => k c m' hc hl b hb (fun A n m e => by cases e; exact hl)⟩
    · exact h
  · exact h
theorem Nw_cap {P : Program} {e : TypeId} {s : Value} {x : Nat → Value} {H : Hp} {o : AO} {K : Value → Hp → Prop} (h : Nw H o fun b H' => AppK P e s (x b) H' fun v H' => (∀ A n m, v = .slice A n m → n ≤ m) → K v H') : Nw H o fun b H' => AppK P e s (x b) H' K := fun b hb => AppK_cap (h b hb)

end Go.Hw
namespace Go.Proofs.YtlgpappgnndgiaaGreatDoor.Rec
open Go Go.Hw Go.Form Go.Crc Go.Proofs.YtlgpappgnndgiaaGreatDoor.W

theorem cell_w64 : cellInfo Tryz.prog 60 = some (1, 8, some #[.int .u64 0]) := by kernel_rfl
theorem cell_u8 : cellInfo Tryz.prog 5 = some (1, 1, some #[.int .u8 0]) := by kernel_rfl

def sealP (l : List UInt64) : List (Nat × Nat) := [(4294967295 - (sum (form l)).toNat, 32), ((sum (form l)).toNat, 0)]
theorem seal_ok (A : Option Addr) (n m : Nat) (l : List UInt64) (hn : n = l.length) (hm : n ≤ 1000) (H : Hp) (hl : Cells H A (wordVals l)) : HCalls Tryz.prog 123 #[.slice A n m] H (RetE (.int .u64 ((joinN 0 (sealP l) : Nat) : Int)) H) := HCalls.ret (by
  apply W_record_seal.ok
  unfold W_record_seal
  have hs := Sep.start H
  refine HCalls.use (CrcP.OfWords_ok A n m l hn (by omega) H hl) ?_
  simp only [DI_int', DB_bool, DS_string, DP_pointer, DSl_slice, DM_map, DA_agg, DTup_tuple, DCons_cons, DNil_nil, NN_some, BIf_true, BIf_false, BIf_same, List.toList_toArray, Bool.not_true, Bool.not_false]
  have hx : bXor .u32 IntKind.u32.max ((sum (form l)).toNat : Int) = ((4294967295 - (sum (form l)).toNat : Nat) : Int) := by
    rw [show IntKind.u32.max = ((BitVec.allOnes 32).toNat : Int) from rfl, xor32, BitVec.allOnes_xor, BitVec.toNat_not]
  have hlt := (sum (form l)).isLt
  rw [hx, u64n (n := 4294967295 - (sum (form l)).toNat) (by omega), u64n (n := (sum (form l)).toNat) (by omega)]
  refine hs.nw fun b1 H1 hs => ?_
  have hs : Sep [own H, pts b1 (parO (sealP l))] H1 := hs
  refine HCalls.use (jn hs 1 rfl 2 rfl (fun p hp => ?_) (by decide)) ?_
  · simp only [sealP, List.mem_cons, List.not_mem_nil, or_false] at hp
    rcases hp with rfl | rfl <;> exact ⟨by simp only []; omega, by simp only []; omega⟩
  simp only [DI_int', DB_bool, DS_string, DP_pointer, DSl_slice, DM_map, DA_agg, DTup_tuple, DCons_cons, DNil_nil, NN_some, BIf_true, BIf_false, BIf_same, List.toList_toArray, Bool.not_true, Bool.not_false]
  exact hs.fin 0 rfl _)

/-- A record's four words. -/
def R.w4 (r : R) : List UInt64 := r.w3 ++ [UInt64.ofNat (joinN 0 (sealP r.w3))]

theorem Put_tr (r : R) (hg : r.good) (hu : r.u32) (size : Nat) (h32 : 32 ≤ size) (h40 : size ≤ 4096) (hsz : (Lay.NeedV 0 size).2 = 0) :
    Tr Tryz.prog 77 #[.agg r.c, .int .i64 (size : Int)] [] fun v M => ∃ b, v = .tuple #[.slice (some ⟨b, 0, none⟩) size size, .int .i64 0] ∧
      M = [pts b (.row (setAt (zeroRow [.int .u8 0] size) 0 (byteVals (form r.w4))) 5 (size * 1))] := fun H hs => by
  apply W_record_Put.ok
  unfold W_record_Put
  refine hs.nw fun b1 H hs => ?_
  have hs : Sep [pts b1 (recO r)] H := hs
  refine hs.ldw 0 rfl rfl ?_
  refine HCalls.use (Good_ok r H) ?_
  rw [decide_eq_true hg]
  simp only [DI_int', DB_bool, DS_string, DP_pointer, DSl_slice, DM_map, DA_agg, DTup_tuple, DCons_cons, DNil_nil, NN_some, BIf_true, BIf_false, BIf_same, List.toList_toArray, Bool.not_true, Bool.not_false]
  have hsec : HCalls Tryz.prog 120 #[.int .i64 (size : Int)] H (RetE (.bool true) H) := by
    apply W_record_sector.ok
    unfold W_record_sector
    refine HCalls.use (Lay.Need_ok 0 size H) ?_
    rw [hsz]
    simp only [DI_int', DB_bool, DS_string, DP_pointer, DSl_slice, DM_map, DA_agg, DTup_tuple, DCons_cons, DNil_nil, NN_some, BIf_true, BIf_false, BIf_same, List.toList_toArray, Bool.not_true, Bool.not_false]
    exact RetE.mk _ _
  refine HCalls.use hsec ?_
  simp only [DI_int', DB_bool, DS_string, DP_pointer, DSl_slice, DM_map, DA_agg, DTup_tuple, DCons_cons, DNil_nil, NN_some, BIf_true, BIf_false, BIf_same, List.toList_toArray, Bool.not_true, Bool.not_false]
  refine hs.ldw 0 rfl rfl ?_
  refine (three_tr r hg hu).use hs [] rfl rfl ?_
  rintro _ _ H ⟨b3, rfl, rfl⟩ hs
  simp only [DI_int', DB_bool, DS_string, DP_pointer, DSl_slice, DM_map, DA_agg, DTup_tuple, DCons_cons, DNil_nil, NN_some, BIf_true, BIf_false, BIf_same, List.toList_toArray, Bool.not_true, Bool.not_false]
  refine hs.mks cell_u8 rfl (n := size) (m := size) rfl rfl (Nat.le_refl _) (by omega) (by omega) fun bo H hs => ?_
  simp only [DI_int', DB_bool, DS_string, DP_pointer, DSl_slice, DM_map, DA_agg, DTup_tuple, DCons_cons, DNil_nil, NN_some, BIf_true, BIf_false, BIf_same, List.toList_toArray, Bool.not_true, Bool.not_false]
  have hs : Sep [pts b3 (.row (wordVals r.w3) 60 3), pts b1 (recO r), pts bo (.row (zeroRow [.int .u8 0] size) 5 (size * 1))] H := hs
  have hc : Cells H (some ⟨b3, 0, none⟩) (wordVals r.w3) := by
    have := Cells.row (hs.get 0 rfl) 0 3
    exact this
  refine HCalls.use (seal_ok (some ⟨b3, 0, none⟩) 3 3 r.w3 rfl (by omega) H hc) ?_
  simp only [DI_int', DB_bool, DS_string, DP_pointer, DSl_slice, DM_map, DA_agg, DTup_tuple, DCons_cons, DNil_nil, NN_some, BIf_true, BIf_false, BIf_same, List.toList_toArray, Bool.not_true, Bool.not_false]
  have hs := hs.turn 0 rfl (B := Own 60 1 (some ⟨b3, 0, none⟩) 3 3 (wordVals r.w3)) (fun H1 h => ⟨rfl, .inr ⟨b3, 3, rfl, h, Nat.le_refl _⟩⟩)
  refine hs.app1 0 rfl cell_w64 (by omega) rfl (by omega) (by omega) fun A' m' H hs => ?_
  simp only [DI_int', DB_bool, DS_string, DP_pointer, DSl_slice, DM_map, DA_agg, DTup_tuple, DCons_cons, DNil_nil, NN_some, BIf_true, BIf_false, BIf_same, List.toList_toArray, Bool.not_true, Bool.not_false]
  have hw : wordVals r.w3 ++ [.int .u64 ((joinN 0 (sealP r.w3) : Nat) : Int)] = wordVals r.w4 := by
    unfold R.w4 wordVals
    rw [List.map_append]
    show _ = _ ++ [Value.int .u64 ((UInt64.ofNat (joinN 0 (sealP r.w3))).toNat : Int)]
    rw [UInt64.toNat_ofNat_of_lt' (joinN_lt _ 0 (by decide))]
  rw [hw] at hs
  have hc : Cells H A' (wordVals r.w4) := by
    obtain ⟨hl, h⟩ := hs.own 0 rfl
    rcases h with ⟨_, h0, _⟩ | ⟨b, mm, rfl, hb, _⟩
    · omega
    · have := Cells.row hb 0 4
      exact this
  refine HCalls.mono (FormP.Put_ok A' 4 m' r.w4 rfl (by omega) H hc) ?_
  rintro _ _ ⟨b', hb', rfl, rfl⟩
  have hs := hs.new hb' (.row (byteVals (form r.w4)) 5 (8 * 4))
  generalize H.set b' (.row (byteVals (form r.w4)) 5 (8 * 4)) = H at *
  simp only [DI_int', DB_bool, DS_string, DP_pointer, DSl_slice, DM_map, DA_agg, DTup_tuple, DCons_cons, DNil_nil, NN_some, BIf_true, BIf_false, BIf_same, List.toList_toArray, Bool.not_true, Bool.not_false]
  have hlen : (byteVals (form r.w4)).length = 32 := by rw [byteVals_length, form_length]; rfl
  have hmin : Nat.min 32 size = 32 := Nat.min_eq_left h32
  refine hs.cp 2 (b := bo) (off := 0) (n := size) (k := 32) (xs := zeroRow [.int .u8 0] size) (e' := 5) (m := size * 1) (ys := byteVals (form r.w4)) rfl cell_u8 rfl ?_ ?_ (fun y hy => ?_) fun H hs => ?_
  · rw [hmin]
    have := Cells.row (hs.get 3 rfl) 0 32
    rw [List.drop_zero, List.take_of_length_le (by rw [hlen]; exact Nat.le_refl _)] at this
    exact src_of this hlen.symm
  · rw [hlen, zeroRow_one, List.length_replicate]; omega
  · obtain ⟨z, _, rfl⟩ := List.mem_map.1 hy; rfl
  simp only [DI_int', DB_bool, DS_string, DP_pointer, DSl_slice, DM_map, DA_agg, DTup_tuple, DCons_cons, DNil_nil, NN_some, BIf_true, BIf_false, BIf_same, List.toList_toArray, Bool.not_true, Bool.not_false]
  exact ⟨_, ⟨bo, rfl, rfl⟩, hs.re [2] rfl⟩

end Go.Proofs.YtlgpappgnndgiaaGreatDoor.Rec

end
section
/-! LayT -/
/- Contracts of the library's functions, laid at this program (printed by lay2.py). -/
set_option maxRecDepth 100000
namespace Go.Proofs.YtlgpappgnndgiaaGreatDoor.Lib2
open Go Go.Proofs Go.Shelf Go.RowKit
def trimL_ren : Go.Shelf.Ren := ⟨fun | 160 => 160 | 232 => 197 | 231 => 196 | 227 => 198 | 234 => 200 | 233 => 199 | 236 => 202 | 235 => 201 | 228 => 237 | 271 => 240 | 151 => 239 | 197 => 238 | 120 => 269 | 152 => 268 | 260 => 267 | 137 => 284 | 119 => 285 | 224 => 286 | 225 => 287 | 217 => 293 | 266 => 297 | n => n, fun | 9 => 9 | 4 => 4 | 3 => 3 | 5 => 5 | 117 => 301 | 116 => 300 | 0 => 0 | 124 => 304 | 21 => 21 | 105 => 339 | 46 => 147 | 119 => 375 | 139 => 378 | 138 => 377 | n => n, fun | 3 => 4 | 4 => 5 | n => n⟩
theorem trimL : Go.Proofs.Lays.n160 Tryz.prog trimL_ren where
  mixed := by kernel_rfl
  f119 := Tryz.func285.trans (congrArg some (by kernel_rfl))
  f120 := Tryz.func269.trans (congrArg some (by kernel_rfl))
  f137 := Tryz.func284.trans (congrArg some (by kernel_rfl))
  f151 := Tryz.func239.trans (congrArg some (by kernel_rfl))
  f152 := Tryz.func268.trans (congrArg some (by kernel_rfl))
  f160 := Tryz.func160.trans (congrArg some (by kernel_rfl))
  f197 := Tryz.func238.trans (congrArg some (by kernel_rfl))
  f217 := Tryz.func293.trans (congrArg some (by kernel_rfl))
  f224 := Tryz.func286.trans (congrArg some (by kernel_rfl))
  f225 := Tryz.func287.trans (congrArg some (by kernel_rfl))
  f227 := Tryz.func198.trans (congrArg some (by kernel_rfl))
  f228 := Tryz.func237.trans (congrArg some (by kernel_rfl))
  f231 := Tryz.func196.trans (congrArg some (by kernel_rfl))
  f232 := Tryz.func197.trans (congrArg some (by kernel_rfl))
  f233 := Tryz.func199.trans (congrArg some (by kernel_rfl))
  f234 := Tryz.func200.trans (congrArg some (by kernel_rfl))
  f235 := Tryz.func201.trans (congrArg some (by kernel_rfl))
  f236 := Tryz.func202.trans (congrArg some (by kernel_rfl))
  f260 := Tryz.func267.trans (congrArg some (by kernel_rfl))
  f266 := Tryz.func297.trans (congrArg some (by kernel_rfl))
  f271 := Tryz.func240.trans (congrArg some (by kernel_rfl))
  t0 := Tryz.underlying0
  a0 := Tryz.isAgg0
  z0 := Tryz.sizeOf0
  v0 := Tryz.zeroValue0
  t3 := Tryz.underlying3
  a3 := Tryz.isAgg3
  z3 := Tryz.sizeOf3
  v3 := Tryz.zeroValue3
  t4 := Tryz.underlying4
  a4 := Tryz.isAgg4
  z4 := Tryz.sizeOf4
  v4 := Tryz.zeroValue4
  t5 := Tryz.underlying5
  a5 := Tryz.isAgg5
  z5 := Tryz.sizeOf5
  v5 := Tryz.zeroValue5
  t9 := Tryz.underlying9
  a9 := Tryz.isAgg9
  z9 := Tryz.sizeOf9
  v9 := Tryz.zeroValue9
  t21 := Tryz.underlying21
  a21 := Tryz.isAgg21
  z21 := Tryz.sizeOf21
  v21 := Tryz.zeroValue21
  t46 := Tryz.underlying147
  a46 := Tryz.isAgg147
  z46 := Tryz.sizeOf147
  v46 := Tryz.zeroValue147
  t105 := Tryz.underlying339
  a105 := Tryz.isAgg339
  z105 := Tryz.sizeOf339
  v105 := Tryz.zeroValue339
  t116 := Tryz.underlying300
  a116 := Tryz.isAgg300
  z116 := Tryz.sizeOf300
  t117 := Tryz.underlying301
  a117 := Tryz.isAgg301
  z117 := Tryz.sizeOf301
  v117 := Tryz.zeroValue301
  t119 := Tryz.underlying375
  a119 := Tryz.isAgg375
  z119 := Tryz.sizeOf375
  t124 := Tryz.underlying304
  a124 := Tryz.isAgg304
  z124 := Tryz.sizeOf304
  v124 := Tryz.zeroValue304
  t138 := Tryz.underlying377
  a138 := Tryz.isAgg377
  z138 := Tryz.sizeOf377
  v138 := Tryz.zeroValue377
  t139 := Tryz.underlying378
  a139 := Tryz.isAgg378
  z139 := Tryz.sizeOf378
  v139 := Tryz.zeroValue378
  g3 := by kernel_rfl
  g4 := by kernel_rfl
end Go.Proofs.YtlgpappgnndgiaaGreatDoor.Lib2

end
section
/-! HwZ -/
/- The frame of the proofs: the library's Trim at one byte. -/
set_option maxRecDepth 100000
set_option linter.unusedSimpArgs false
set_option linter.unusedVariables false
set_option linter.unnecessarySimpa false
set_option linter.unusedSectionVars false
namespace Go.Hw
open Go Go.Proofs Go.Proofs.YtlgpappgnndgiaaGreatDoor.Lib2 Go.RowKit Go.Shelf

/-- strings.Trim. -/
theorem Trim_hc (s : ByteArray) (c : UInt8) (hc : c.toNat < 128) (hs : s.size ≤ 9223372036854775807) (H : Hp) :
    HCalls Tryz.prog 160 #[.string s, .string ⟨#[c]⟩] H (RetE (.string ⟨(Lib.trimB s.data.toList c).toArray⟩) H) := fun w hw => by
  refine (Any.strings_Trim_one trimL s c hc w hs).mono ?_
  rintro e w' ⟨rfl, h⟩
  refine ⟨_, H, rfl, ⟨rfl, rfl⟩, ?_⟩
  rcases h with rfl | rfl
  · exact At.refl hw
  · exact ⟨hw, Nat.le_refl _, rfl, rfl, rfl, fun _ _ h => ⟨h, rfl⟩⟩

theorem dw_nil (p : UInt8 → Bool) : ∀ l : List UInt8, l.dropWhile p = [] ↔ ∀ x ∈ l, p x = true
  | [] => by simp
  | z :: l => by
    rw [List.dropWhile_cons]
    by_cases hz : p z = true
    · rw [if_pos hz, dw_nil p l]
      constructor
      · intro h x hx
        rcases List.mem_cons.1 hx with rfl | hx
        · exact hz
        · exact h x hx
      · intro h x hx
        exact h x (List.mem_cons_of_mem _ hx)
    · rw [if_neg hz]
      constructor
      · intro h; cases h
      · intro h; exact absurd (h z (by simp)) hz
theorem dw_all (p : UInt8 → Bool) : ∀ l : List UInt8, (∀ x ∈ l.dropWhile p, p x = true) → ∀ x ∈ l, p x = true
  | [], _ => by simp
  | z :: l, h => by
    rw [List.dropWhile_cons] at h
    by_cases hz : p z = true
    · rw [if_pos hz] at h
      intro x hx
      rcases List.mem_cons.1 hx with rfl | hx
      · exact hz
      · exact dw_all p l h x hx
    · rw [if_neg hz] at h
      exact absurd (h z (by simp)) hz
theorem trimB_nil (l : List UInt8) (c : UInt8) : Lib.trimB l c = [] ↔ ∀ x ∈ l, x = c := by
  unfold Lib.trimB Lib.trimLeftB Lib.trimRightB
  rw [dw_nil]
  constructor
  · intro h x hx
    have := dw_all (· == c) l.reverse (fun y hy => h y (by simpa using hy)) x (by simpa using hx)
    simpa using this
  · intro h x hx
    have := (List.dropWhile_sublist (· == c)).subset (List.mem_reverse.1 hx)
    simpa using h x (List.mem_reverse.1 this)

end Go.Hw

end
section
/-! RecE -/
/- record: the record of words; all words of a form. -/
set_option maxRecDepth 100000
set_option linter.unusedSimpArgs false
set_option linter.unusedVariables false
set_option linter.unnecessarySimpa false
set_option linter.unusedSectionVars false
namespace Go.Proofs.YtlgpappgnndgiaaGreatDoor.Rec
open Go Go.Hw Go.Form Go.Crc Go.Proofs.YtlgpappgnndgiaaGreatDoor.W

def recOf (a b c : Nat) : R := ⟨a % 281474976710656, ((b % 256 : Nat) : Int), ((b / 65536 % 256 : Nat) : Int), ((b / 256 % 256 : Nat) : Int), ((b / 16777216 % 256 : Nat) : Int), b / 4294967296, c / 4294967296, c % 4294967296⟩

theorem mask48 {x : Nat} (hx : x < 2 ^ 64) : bAnd .u64 (x : Int) 281474976710655 = ((x % 281474976710656 : Nat) : Int) := by
  rw [show (281474976710655 : Int) = ((281474976710655 : Nat) : Int) from rfl, andN hx (by omega), show 281474976710655 = 2 ^ 48 - 1 from rfl, Nat.and_two_pow_sub_one_eq_mod]
theorem mask8 {x : Nat} (hx : x < 2 ^ 64) : bAnd .u64 (x : Int) 255 = ((x % 256 : Nat) : Int) := by
  rw [show (255 : Int) = ((255 : Nat) : Int) from rfl, andN hx (by omega), show 255 = 2 ^ 8 - 1 from rfl, Nat.and_two_pow_sub_one_eq_mod]
theorem u32m (x : Nat) : IntKind.u32.wrap (x : Int) = ((x % 4294967296 : Nat) : Int) := by
  simp only [IntKind.wrap, IntKind.bits, IntKind.signed, Bool.false_and, Bool.false_eq_true, if_false]; omega

theorem of_ok (A : Option Addr) (n m : Nat) (a b c : Nat) (ws : List Nat) (hn : n = (a :: b :: c :: ws).length) (ha : a < 2 ^ 64) (hb : b < 2 ^ 64) (hc : c < 2 ^ 64) (H : Hp) (hl : Cells H A (Gen.natV (a :: b :: c :: ws))) :
    HCalls Tryz.prog 122 #[.slice A n m] H (RetE (.agg (recOf a b c).c) H) := HCalls.ret (by
  apply W_record_of.ok
  unfold W_record_of
  have hlen : (Gen.natV (a :: b :: c :: ws)).length ≤ n := by rw [Gen.natV_length, hn]; exact Nat.le_refl _
  refine (Sep.start H).nw fun b1 H1 hs => ?_
  have hl1 := hl.le (hs.ow 0 rfl)
  have r0 : (Gen.natV (a :: b :: c :: ws))[0]? = some (.int .u64 (a : Int)) := rfl
  have r1 : (Gen.natV (a :: b :: c :: ws))[1]? = some (.int .u64 (b : Int)) := rfl
  have r2 : (Gen.natV (a :: b :: c :: ws))[2]? = some (.int .u64 (c : Int)) := rfl
  refine hl1.read r0 rfl hlen ?_
  simp only [DI_int', DB_bool, DS_string, DP_pointer, DSl_slice, DM_map, DA_agg, DTup_tuple, DCons_cons, DNil_nil, NN_some, BIf_true, BIf_false, BIf_same, List.toList_toArray, Bool.not_true, Bool.not_false]
  refine hl1.read r1 rfl hlen ?_
  simp only [DI_int', DB_bool, DS_string, DP_pointer, DSl_slice, DM_map, DA_agg, DTup_tuple, DCons_cons, DNil_nil, NN_some, BIf_true, BIf_false, BIf_same, List.toList_toArray, Bool.not_true, Bool.not_false]
  refine hl1.read r1 rfl hlen ?_
  simp only [DI_int', DB_bool, DS_string, DP_pointer, DSl_slice, DM_map, DA_agg, DTup_tuple, DCons_cons, DNil_nil, NN_some, BIf_true, BIf_false, BIf_same, List.toList_toArray, Bool.not_true, Bool.not_false]
  refine ⟨by decide, ?_⟩
  refine hl1.read r1 rfl hlen ?_
  simp only [DI_int', DB_bool, DS_string, DP_pointer, DSl_slice, DM_map, DA_agg, DTup_tuple, DCons_cons, DNil_nil, NN_some, BIf_true, BIf_false, BIf_same, List.toList_toArray, Bool.not_true, Bool.not_false]
  refine ⟨by decide, ?_⟩
  refine hl1.read r1 rfl hlen ?_
  simp only [DI_int', DB_bool, DS_string, DP_pointer, DSl_slice, DM_map, DA_agg, DTup_tuple, DCons_cons, DNil_nil, NN_some, BIf_true, BIf_false, BIf_same, List.toList_toArray, Bool.not_true, Bool.not_false]
  refine ⟨by decide, ?_⟩
  refine hl1.read r1 rfl hlen ?_
  simp only [DI_int', DB_bool, DS_string, DP_pointer, DSl_slice, DM_map, DA_agg, DTup_tuple, DCons_cons, DNil_nil, NN_some, BIf_true, BIf_false, BIf_same, List.toList_toArray, Bool.not_true, Bool.not_false]
  refine ⟨by decide, ?_⟩
  refine hl1.read r2 rfl hlen ?_
  simp only [DI_int', DB_bool, DS_string, DP_pointer, DSl_slice, DM_map, DA_agg, DTup_tuple, DCons_cons, DNil_nil, NN_some, BIf_true, BIf_false, BIf_same, List.toList_toArray, Bool.not_true, Bool.not_false]
  refine ⟨by decide, ?_⟩
  refine hl1.read r2 rfl hlen ?_
  simp only [DI_int', DB_bool, DS_string, DP_pointer, DSl_slice, DM_map, DA_agg, DTup_tuple, DCons_cons, DNil_nil, NN_some, BIf_true, BIf_false, BIf_same, List.toList_toArray, Bool.not_true, Bool.not_false]
  have s8 : shrI .u64 (b : Int) 8 = ((b / 256 : Nat) : Int) := shrN (k := .u64) (a := b) (i := 8) (n := 8) rfl (by decide)
  have s16 : shrI .u64 (b : Int) 16 = ((b / 65536 : Nat) : Int) := shrN (k := .u64) (a := b) (i := 16) (n := 16) rfl (by decide)
  have s24 : shrI .u64 (b : Int) 24 = ((b / 16777216 : Nat) : Int) := shrN (k := .u64) (a := b) (i := 24) (n := 24) rfl (by decide)
  have s32 : shrI .u64 (b : Int) 32 = ((b / 4294967296 : Nat) : Int) := shrN (k := .u64) (a := b) (i := 32) (n := 32) rfl (by decide)
  have t32 : shrI .u64 (c : Int) 32 = ((c / 4294967296 : Nat) : Int) := shrN (k := .u64) (a := c) (i := 32) (n := 32) rfl (by decide)
  rw [s8, s16, s24, s32, t32, mask48 ha, mask8 hb, mask8 (x := b / 65536) (by omega), mask8 (x := b / 256) (by omega), mask8 (x := b / 16777216) (by omega), i64n (n := b % 256) (by omega), i64n (n := b / 65536 % 256) (by omega), i64n (n := b / 256 % 256) (by omega), i64n (n := b / 16777216 % 256) (by omega),
    u32n (n := b / 4294967296) (by omega), u32n (n := c / 4294967296) (by omega), u32m c]
  refine hs.stw 1 rfl rfl rfl rfl fun H1 hs => ?_
  refine hs.ldw 1 rfl rfl ?_
  exact hs.fin 0 rfl _)

/-- The words of a form. -/
def wds (bs : List UInt8) (n : Nat) : List Nat := (List.range n).map fun i => wordN bs (8 * i)
theorem wds_succ (bs : List UInt8) (n : Nat) : wds bs (n + 1) = wds bs n ++ [wordN bs (8 * n)] := by
  unfold wds
  rw [List.range_succ, List.map_append]; rfl
def nought (bs : List UInt8) : Bool := decide (∀ x ∈ bs.drop 32, x = 0)

theorem all_loop (K : Value → Hp → Prop) {A : Option Addr} {n m : Nat} {bs : List UInt8} {R : As} (hR : ∀ H, R H → Cells H A (byteVals bs)) (hn : n = bs.length) (hnm : n ≤ m) (h32 : 32 ≤ n) (hbig : n ≤ 1000000)
    (hK : ∀ A' m' H, 4 ≤ m' → Sep [R, Own 60 1 A' 4 m' (Gen.natV (wds bs 4))] H → K (.tuple #[.slice A' 4 m', .bool (nought bs)]) H) :
    ∀ (t i : Nat) (A' : Option Addr) (m' : Nat) (H : Hp), i + t = 4 → i ≤ m' → Sep [R, Own 60 1 A' i m' (Gen.natV (wds bs i))] H → W_record_all.l2 K (t + 1) A n m A' i m' (i : Int) H
  | 0, i, A', m', H, hi, hm', hs => by
    obtain rfl : i = 4 := by omega
    have hc : Cells H A (byteVals bs) := by
      obtain ⟨H1, h1, hle⟩ := hs.see 0 rfl
      exact (hR H1 h1).le hle
    unfold W_record_all.l2
    refine BIf_dneg (by decide) ?_
    refine slB_from (l := 32) rfl h32 ?_
    have h1 : Cells H (slA A m 32 1) (byteVals (bs.drop 32)) := by
      have := hc.shift (m := m) (l := 32) (by rw [byteVals_length]; omega)
      rw [show (byteVals bs).drop 32 = byteVals (bs.drop 32) by unfold byteVals; rw [List.map_drop]] at this
      exact this
    refine BsK_of h1 (by rw [List.length_drop]; omega) ?_
    refine HCalls.use (Trim_hc ⟨(bs.drop 32).toArray⟩ 0 (by decide) (by show (bs.drop 32).toArray.size ≤ _; simp; omega) H) ?_
    simp only [DI_int', DB_bool, DS_string, DP_pointer, DSl_slice, DM_map, DA_agg, DTup_tuple, DCons_cons, DNil_nil, NN_some, BIf_true, BIf_false, BIf_same, List.toList_toArray, Bool.not_true, Bool.not_false]
    have he : ((⟨(Go.Lib.trimB (bs.drop 32) 0).toArray⟩ : ByteArray).toList == (⟨#[]⟩ : ByteArray).toList) = nought bs := by
      rw [ByteArray.toList_mk, show (⟨#[]⟩ : ByteArray).toList = [] from ByteArray.toList_mk []]
      unfold nought
      by_cases h : Go.Lib.trimB (bs.drop 32) 0 = []
      · rw [h, decide_eq_true ((trimB_nil _ _).1 h)]; rfl
      · rw [decide_eq_false (fun g => h ((trimB_nil _ _).2 g)), beq_eq_false_iff_ne.2 h]
    rw [he]
    exact hK A' m' H hm' hs
  | t + 1, i, A', m', H, hi, hm', hs => by
    have hc : Cells H A (byteVals bs) := by
      obtain ⟨H1, h1, hle⟩ := hs.see 0 rfl
      exact (hR H1 h1).le hle
    unfold W_record_all.l2
    refine BIf_dpos (by omega) ?_
    refine HCalls.use (FormP.Word_ok A n m hnm (by omega) bs hn i (by omega) H hc) ?_
    simp only [DI_int', DB_bool, DS_string, DP_pointer, DSl_slice, DM_map, DA_agg, DTup_tuple, DCons_cons, DNil_nil, NN_some, BIf_true, BIf_false, BIf_same, List.toList_toArray, Bool.not_true, Bool.not_false]
    refine Nw_cap ?_
    refine hs.app1 1 rfl Gen.cell_u64 (by omega) rfl (by omega) (by omega) fun A2 m2 H hs hcap => ?_
    simp only [DI_int', DB_bool, DS_string, DP_pointer, DSl_slice, DM_map, DA_agg, DTup_tuple, DCons_cons, DNil_nil, NN_some, BIf_true, BIf_false, BIf_same, List.toList_toArray, Bool.not_true, Bool.not_false]
    rw [i64w (x := (i : Int) + 1) (by omega) (by omega), show (i : Int) + 1 = ((i + 1 : Nat) : Int) by omega]
    refine all_loop K hR hn hnm h32 hbig hK t (i + 1) A2 m2 H (by omega) (hcap _ _ _ rfl) ?_
    rw [wds_succ, show Gen.natV (wds bs i ++ [wordN bs (8 * i)]) = Gen.natV (wds bs i) ++ [.int .u64 ((wordN bs (8 * i) : Nat) : Int)] by unfold Gen.natV; rw [List.map_append]; rfl]
    exact hs

theorem all_tr {A : Option Addr} {n m : Nat} {bs : List UInt8} {R : As} (hR : ∀ H, R H → Cells H A (byteVals bs)) (hn : n = bs.length) (hnm : n ≤ m) (h32 : 32 ≤ n) (hbig : n ≤ 1000000) :
    Tr Tryz.prog 121 #[.slice A n m] [R] fun v M => ∃ A' m', 4 ≤ m' ∧ v = .tuple #[.slice A' 4 m', .bool (nought bs)] ∧ M = [R, Own 60 1 A' 4 m' (Gen.natV (wds bs 4))] := fun H hs => by
  apply W_record_all.ok
  unfold W_record_all
  have e0 : Sep [R, Own 60 1 none 0 0 (Gen.natV (wds bs 0))] H := by
    have : Sep (Own 60 1 none 0 0 [] :: [R]) H := ⟨fun _ => none, H, fun _ _ h => (nomatch h), Hp.le_refl _, fun _ => .inl rfl, Own.none _ _ _, hs⟩
    exact this.re [1, 0] rfl
  refine ⟨5, ?_⟩
  refine all_loop _ hR hn hnm h32 hbig (fun A' m' H hm' hs => ?_) 4 0 none 0 H rfl (Nat.le_refl _) e0
  exact ⟨_, ⟨A', m', hm', rfl, rfl⟩, hs⟩

end Go.Proofs.YtlgpappgnndgiaaGreatDoor.Rec

end
