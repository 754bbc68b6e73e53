/- arena's law: awake, ArenaApart. -/
import Derived.Test.YtdjdielefolfbaaAreA
import Derived.Test.YtdjdielefolfbaaWabacistlaw14
set_option linter.unusedSimpArgs false
set_option linter.unusedVariables false
set_option linter.unnecessarySimpa false
set_option linter.unusedSectionVars false
namespace Go.Proofs.Ytdjdielefolfbaa.Are
open Go Go.Hw Go.Proofs.Ytdjdielefolfbaa.W

theorem awake_ok (H : Hp) : HCalls Try.prog 15 #[] H (RetE (.bool true) H) := by
  apply HCalls.ret
  apply W_abacistlaw14_awake.ok
  unfold W_abacistlaw14_awake
  refine (New_ok H 10 (by omega)).mono ?_
  rintro v H' ⟨mp, a, hmp, ha, hne, rfl, rfl⟩
  unfold ptrV
  simp only [DI_int', DB_bool, DS_string, DP_pointer, DSl_slice, DM_map, DA_agg, DTup_tuple, DCons_cons, DNil_nil, NN_some, BIf_true, BIf_false, BIf_same, List.toList_toArray, Bool.not_true, Bool.not_false]
  refine BIf_neg rfl ?_
  have ga : ((H.set mp (mapO [] 0)).set a (arenaO 10 0 0 mp)) a = some (arenaO 10 0 0 mp) := Hp.set_same _ _ _
  have gm : ((H.set mp (mapO [] 0)).set a (arenaO 10 0 0 mp)) mp = some (mapO [] 0) := by rw [Hp.set_other _ _ (Ne.symm hne)]; exact Hp.set_same _ _ _
  have gl : H.le ((H.set mp (mapO [] 0)).set a (arenaO 10 0 0 mp)) := Hp.le_set_of (Hp.le_set hmp) ha
  generalize ((H.set mp (mapO [] 0)).set a (arenaO 10 0 0 mp)) = H1 at ga gm gl ⊢
  refine (Take_ok H1 a mp 10 0 0 6 [] 0 (by omega) (by omega) hne ga gm (fun x hx => by simp at hx)).mono ?_
  rintro v H' ⟨rb, b, hrb, hb, hbr, rfl, rfl⟩
  unfold ptrV
  simp only [DI_int', DB_bool, DS_string, DP_pointer, DSl_slice, DM_map, DA_agg, DTup_tuple, DCons_cons, DNil_nil, NN_some, BIf_true, BIf_false, BIf_same, List.toList_toArray, Bool.not_true, Bool.not_false]
  have hab : a ≠ b := fun e => by rw [e, hb] at ga; cases ga
  have hmb : mp ≠ b := fun e => by rw [e, hb] at gm; cases gm
  have hH0b : H b = none := by
    cases hq : H b with
    | none => rfl
    | some o => rw [gl _ _ hq] at hb; cases hb
  have hH0r : H rb = none := by
    cases hq : H rb with
    | none => rfl
    | some o => rw [gl _ _ hq] at hrb; cases hrb
  generalize hH2 : (((H1.set rb (.row (zerosU64 (Int.toNat 6)) 38 (Int.toNat 6))).set b (bufO a (some ⟨rb, 0, none⟩) (Int.toNat 6) (Int.toNat 6))).set mp (mapO ([] ++ [(b, 6, 0)]) (0 + 1))).set a (arenaO 10 (0 + 6) (if (0 : Int) + 6 > 0 then 0 + 6 else 0) mp) = H2
  have g2 : H2 a = some (arenaO 10 (0 + 6) (if (0 : Int) + 6 > 0 then 0 + 6 else 0) mp) := by rw [← hH2]; exact Hp.set_same _ _ _
  have g3 : H2 b = some (bufO a (some ⟨rb, 0, none⟩) 6 6) := by
    rw [← hH2, Hp.set_other _ _ (Ne.symm hab), Hp.set_other _ _ (Ne.symm hmb)]; exact Hp.set_same _ _ _
  have g4 : H.le H2 := by
    rw [← hH2]
    exact Hp.le_set_of (Hp.le_set_of (Hp.le_set_of (Hp.le_set_of gl hH0r) hH0b) hmp) ha
  refine HCalls.use (Take_full H2 a mp 10 (0 + 6) _ 5 (by omega) (by omega) g2) ?_
  simp only [DI_int', DB_bool, DS_string, DP_pointer, DSl_slice, DM_map, DA_agg, DTup_tuple, DCons_cons, DNil_nil, NN_some, BIf_true, BIf_false, BIf_same, List.toList_toArray, Bool.not_true, Bool.not_false]
  refine BIf_pos rfl (BIf_pos rfl ?_)
  refine HCalls.use (Len_ok H2 b a _ 6 6 g3) ?_
  simp only [DI_int', DB_bool, DS_string, DP_pointer, DSl_slice, DM_map, DA_agg, DTup_tuple, DCons_cons, DNil_nil, NN_some, BIf_true, BIf_false, BIf_same, List.toList_toArray, Bool.not_true, Bool.not_false]
  refine BIf_pos rfl (BIf_pos rfl ?_)
  simp only [Addr.add_lit', Nat.zero_add]
  refine HCalls.use (used_ok H2 a mp 10 (0 + 6) _ g2) ?_
  simp only [DI_int', DB_bool, DS_string, DP_pointer, DSl_slice, DM_map, DA_agg, DTup_tuple, DCons_cons, DNil_nil, NN_some, BIf_true, BIf_false, BIf_same, List.toList_toArray, Bool.not_true, Bool.not_false]
  exact ⟨rfl, g4⟩

def valF (i k : Nat) : Value := .int .u64 ((100 * i + k + 1 : Nat) : Int)
def vals (i n : Nat) : List Value := (List.range n).map (valF i)

theorem val_wrap {i k : Nat} (hi : i ≤ 100) (hk : k ≤ 100) : IntKind.u64.wrap (IntKind.i64.wrap (IntKind.i64.wrap (IntKind.i64.wrap (100 * (i : Int)) + (k : Int)) + 1)) = ((100 * i + k + 1 : Nat) : Int) := by
  rw [i64w (x := 100 * (i : Int)) (by omega) (by omega), i64w (x := 100 * (i : Int) + k) (by omega) (by omega), i64w (by omega) (by omega), u64w (by omega) (by omega)]
  omega

set_option maxRecDepth 10000 in
theorem apart_fill (K : Value → Hp → Prop) (R10 : Option Addr → Nat → Nat → Option Addr → Option Addr → Nat → Nat → Int → Hp → Prop) (A5 : Option Addr) (n5 m5 : Nat) (p4 A6 : Option Addr) (n6 m6 i n rb : Nat) (p5 : Option Addr) (hi : i ≤ 8) (hn : n ≤ 64) (H1 : Hp) (e : TypeId)
    (hend : Nw (H1.set rb (.row (vals i n) e n)) (.row [.pointer p5] 32 1) fun b1 H6 => AppK Try.prog 32 (.slice A6 n6 m6) (.slice (some ⟨b1, 0, none⟩) 1 1) H6 fun v10 H7 => DSl v10 fun A8 n8 m8 => R10 A5 n5 m5 p4 A8 n8 m8 ((i + 1 : Nat) : Int) H7) :
    ∀ (d k : Nat), k + d = n → W_abacistlaw14_ArenaApart.l19 K R10 (d + 1) A5 n5 m5 p4 A6 n6 m6 (i : Int) p5 (some ⟨rb, 0, none⟩) n n (k : Int) (H1.set rb (.row (filled (valF i) (.int .u64 0) n k).toList e n))
  | 0, k, hk => by
    obtain rfl : k = n := by omega
    unfold W_abacistlaw14_ArenaApart.l19
    refine BIf_dneg (by omega) ?_
    rw [filled_all, i64w (by omega) (by omega)]
    exact hend
  | d + 1, k, hk => by
    unfold W_abacistlaw14_ArenaApart.l19
    refine BIf_dpos (by omega) ⟨by omega, by omega, ?_⟩
    simp only [NN_some, Addr.add_lit', Int.toNat_natCast, Nat.mul_one, Nat.zero_add, Nat.add_zero]
    refine Ld_row (Hp.set_same _ _ _) (v := .int .u64 0) (by
      have := filled_get (valF i) (.int .u64 0) (n := n) (i := k) (j := k) (by omega)
      rw [if_neg (Nat.lt_irrefl k)] at this
      simpa using this) ?_
    simp only [DI_int', DB_bool, DS_string, DP_pointer, DSl_slice, DM_map, DA_agg, DTup_tuple, DCons_cons, DNil_nil, NN_some, BIf_true, BIf_false, BIf_same, List.toList_toArray, Bool.not_true, Bool.not_false]
    refine BIf_neg rfl ⟨by omega, by omega, ?_⟩
    rw [val_wrap (by omega) (by omega)]
    refine St_row (Hp.set_same _ _ _) (by rw [Array.length_toList, filled_size]; omega) rfl ?_
    rw [Hp.set_set, i64w (x := (k : Int) + 1) (by omega) (by omega)]
    have := apart_fill K R10 A5 n5 m5 p4 A6 n6 m6 i n rb p5 hi hn H1 e hend d (k + 1) (by omega)
    rw [← filled_set (valF i) (.int .u64 0) (n := n) (i := k) (by omega), Array.toList_setIfInBounds] at this
    exact this

theorem zeros_filled (f : Nat → Value) (n : Nat) : zerosU64 n = (filled f (.int .u64 0) n 0).toList := by
  unfold zerosU64 filled
  rw [zeroRow_one]
  apply List.ext_getElem?
  intro j
  by_cases h : j < n <;> simp [h]

structure Inv (H0 H : Hp) (a mp cl : Nat) (tk : List (Nat × Int × Nat)) (used peak : Int) (bs : List (Nat × Nat × Nat)) (A : Option Addr) (n m : Nat) : Prop where
  le : H0.le H
  ne : a ≠ mp
  ha : H a = some (arenaO 1000 used peak mp)
  ha0 : H0 a = none
  hm : H mp = some (mapO tk cl)
  hm0 : H0 mp = none
  hl : ∀ x ∈ tk, PlainB H x.1
  hb : ∀ (j : Nat) (x : Nat × Nat × Nat), bs[j]? = some x → H x.1 = some (bufO a (some ⟨x.2.1, 0, none⟩) x.2.2 x.2.2) ∧ H x.2.1 = some (.row (vals j x.2.2) 38 x.2.2) ∧ x.2.2 ≤ 64
  hn : n = bs.length
  all : (A = none ∧ bs = [] ∧ m = 0) ∨ ∃ ab mm, A = some ⟨ab, 0, none⟩ ∧ H0 ab = none ∧ H ab = some (.row (bs.map fun x => ptrV x.1) 32 mm) ∧ m ≤ mm

theorem Inv.cells {H0 H : Hp} {a mp cl : Nat} {tk : List (Nat × Int × Nat)} {used peak : Int} {bs : List (Nat × Nat × Nat)} {A : Option Addr} {n m : Nat} (h : Inv H0 H a mp cl tk used peak bs A n m) : Cells H A (bs.map fun x => ptrV x.1) := by
  rcases h.all with ⟨rfl, rfl, _⟩ | ⟨ab, mm, rfl, _, hab, _⟩
  · exact Cells.nil _ _
  · have := Cells.row hab 0 bs.length
    rwa [List.drop_zero, List.take_of_length_le (by simp)] at this

theorem apart_word (K : Value → Hp → Prop) (R26 : Option Addr → Nat → Nat → Int → Hp → Prop) (A : Option Addr) (n m i rb w : Nat) (hi : i ≤ 8) (hw : w ≤ 64) (H : Hp) (hr : H rb = some (.row (vals i w) 38 w)) (hR : R26 A n m ((i + 1 : Nat) : Int) H) :
    ∀ (d k : Nat), k + d = w → W_abacistlaw14_ArenaApart.l30 K R26 (d + 1) A n m (i : Int) (some ⟨rb, 0, none⟩) w w (k : Int) H
  | 0, k, hk => by
    unfold W_abacistlaw14_ArenaApart.l30
    refine BIf_dneg (by omega) ?_
    rw [i64w (by omega) (by omega)]
    exact hR
  | d + 1, k, hk => by
    unfold W_abacistlaw14_ArenaApart.l30
    refine BIf_dpos (by omega) ⟨by omega, by omega, ?_⟩
    simp only [NN_some, Addr.add_lit', Int.toNat_natCast, Nat.mul_one, Nat.zero_add]
    refine Ld_row hr (v := valF i k) (by simp [vals, show k < w by omega]) ?_
    unfold valF
    simp only [DI_int', DB_bool, DS_string, DP_pointer, DSl_slice, DM_map, DA_agg, DTup_tuple, DCons_cons, DNil_nil, NN_some, BIf_true, BIf_false, BIf_same, List.toList_toArray, Bool.not_true, Bool.not_false]
    rw [val_wrap (by omega) (by omega), i64w (x := (k : Int) + 1) (by omega) (by omega)]
    exact BIf_neg (by simp) (apart_word K R26 A n m i rb w hi hw H hr hR d (k + 1) (by omega))

theorem apart_check (K : Value → Hp → Prop) {H0 H : Hp} {a mp cl : Nat} {tk : List (Nat × Int × Nat)} {used peak : Int} {bs : List (Nat × Nat × Nat)} {A : Option Addr} {n m : Nat} (h : Inv H0 H a mp cl tk used peak bs A n m) (h8 : n ≤ 8) (hK : K (.bool true) H) :
    ∀ (d i : Nat), i + d = n → W_abacistlaw14_ArenaApart.l26 K (d + 1) A n m (i : Int) H
  | 0, i, hi => by
    unfold W_abacistlaw14_ArenaApart.l26
    exact BIf_dneg (by omega) hK
  | d + 1, i, hi => by
    unfold W_abacistlaw14_ArenaApart.l26
    refine BIf_dpos (by omega) ?_
    have hlt : i < bs.length := by have := h.hn; omega
    obtain ⟨g1, g2, g3⟩ := h.hb i bs[i] (List.getElem?_eq_getElem hlt)
    refine h.cells.read (i := i) (v := ptrV bs[i].1) (by rw [List.getElem?_map, List.getElem?_eq_getElem hlt]; rfl) rfl (by rw [List.length_map, h.hn]; exact Nat.le_refl _) ?_
    unfold ptrV
    simp only [DI_int', DB_bool, DS_string, DP_pointer, DSl_slice, DM_map, DA_agg, DTup_tuple, DCons_cons, DNil_nil, NN_some, BIf_true, BIf_false, BIf_same, List.toList_toArray, Bool.not_true, Bool.not_false]
    refine HCalls.use (Words_ok H _ a _ _ _ g1) ?_
    simp only [DI_int', DB_bool, DS_string, DP_pointer, DSl_slice, DM_map, DA_agg, DTup_tuple, DCons_cons, DNil_nil, NN_some, BIf_true, BIf_false, BIf_same, List.toList_toArray, Bool.not_true, Bool.not_false]
    exact ⟨bs[i].2.2 + 1, apart_word K _ A n m i bs[i].2.1 bs[i].2.2 (by omega) g3 H g2 (apart_check K h h8 hK d (i + 1) (by omega)) bs[i].2.2 0 (by omega)⟩

end Go.Proofs.Ytdjdielefolfbaa.Are
