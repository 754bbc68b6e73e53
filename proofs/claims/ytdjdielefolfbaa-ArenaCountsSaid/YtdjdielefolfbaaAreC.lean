/- The law ArenaApart. -/
import Derived.Test.YtdjdielefolfbaaAreB
set_option linter.unusedSimpArgs false
set_option linter.unusedVariables false
set_option linter.unnecessarySimpa false
set_option linter.unusedSectionVars false
namespace Go.Proofs.Ytdjdielefolfbaa.Are
open Go Go.Hw Go.Proofs.Ytdjdielefolfbaa.W

theorem cell_ptr : cellInfo Try.prog 32 = some (1, 8, some #[.pointer none]) := by kernel_rfl

theorem Inv.next {H0 H H2 H4 : Hp} {a mp cl : Nat} {tk : List (Nat × Int × Nat)} {used peak : Int} {bs : List (Nat × Nat × Nat)} {A : Option Addr} {n m : Nat} (h : Inv H0 H a mp cl tk used peak bs A n m) {b rb w : Nat} (hw : 1 ≤ w ∧ w ≤ 64) {peak' : Int} (hrb : H rb = none) (hb : H b = none) (hbr : b ≠ rb)
    (h2 : H2 = ((((H.set rb (.row (zerosU64 w) 38 w)).set b (bufO a (some ⟨rb, 0, none⟩) w w)).set mp (mapO (tk ++ [(b, (w : Int), cl)]) (cl + 1))).set a (arenaO 1000 (used + w) peak' mp)).set rb (.row (vals bs.length w) 38 w))
    {b' c mm : Nat} (hb' : H0 b' = none) (h4 : H4 b' = some (.row ((bs ++ [(b, rb, w)]).map fun x => ptrV x.1) 32 mm)) (hc : c ≤ mm) (hk : ∀ q o, H2 q = some o → (∀ ab, A = some ⟨ab, 0, none⟩ → q ≠ ab) → H4 q = some o) :
    Inv H0 H4 a mp (cl + 1) (tk ++ [(b, (w : Int), cl)]) (used + w) peak' (bs ++ [(b, rb, w)]) (some ⟨b', 0, none⟩) (n + 1) c := by
  have har : a ≠ rb := fun e => by have := h.ha; rw [e, hrb] at this; cases this
  have hab : a ≠ b := fun e => by have := h.ha; rw [e, hb] at this; cases this
  have hmr : mp ≠ rb := fun e => by have := h.hm; rw [e, hrb] at this; cases this
  have hmb : mp ≠ b := fun e => by have := h.hm; rw [e, hb] at this; cases this
  have hne := h.ne
  have keep1 : ∀ q o, H q = some o → q ≠ a → q ≠ mp → H2 q = some o := fun q o hq h5 h6 => by
    have h7 : q ≠ rb := fun e => by rw [e, hrb] at hq; cases hq
    have h8 : q ≠ b := fun e => by rw [e, hb] at hq; cases hq
    rw [h2, Hp.set_other _ _ h7, Hp.set_other _ _ h5, Hp.set_other _ _ h6, Hp.set_other _ _ h8, Hp.set_other _ _ h7]
    exact hq
  have ga : H2 a = some (arenaO 1000 (used + w) peak' mp) := by rw [h2, Hp.set_other _ _ har]; exact Hp.set_same _ _ _
  have gm : H2 mp = some (mapO (tk ++ [(b, (w : Int), cl)]) (cl + 1)) := by rw [h2, Hp.set_other _ _ hmr, Hp.set_other _ _ (Ne.symm hne)]; exact Hp.set_same _ _ _
  have gb : H2 b = some (bufO a (some ⟨rb, 0, none⟩) w w) := by rw [h2, Hp.set_other _ _ hbr, Hp.set_other _ _ (Ne.symm hab), Hp.set_other _ _ (Ne.symm hmb)]; exact Hp.set_same _ _ _
  have gr : H2 rb = some (.row (vals bs.length w) 38 w) := by rw [h2]; exact Hp.set_same _ _ _
  have hA : ∀ ab, A = some ⟨ab, 0, none⟩ → H0 ab = none ∧ ∃ mm, H ab = some (.row (bs.map fun x => ptrV x.1) 32 mm) := fun ab e => by
    rcases h.all with ⟨h5, _⟩ | ⟨ab', mm', h5, h6, h7, _⟩
    · rw [h5] at e; cases e
    · rw [h5] at e; cases e; exact ⟨h6, mm', h7⟩
  have isRow : ∀ q o, H q = some o → (∀ xs mm, o ≠ .row xs 32 mm) → ∀ ab, A = some ⟨ab, 0, none⟩ → q ≠ ab := fun q o hq hno ab e e2 => by
    obtain ⟨_, mm, h7⟩ := hA ab e
    rw [e2, h7] at hq; cases hq
    exact hno _ _ rfl
  have fresh : ∀ q, H q = none → ∀ ab, A = some ⟨ab, 0, none⟩ → q ≠ ab := fun q hq ab e e2 => by
    obtain ⟨_, mm, h7⟩ := hA ab e
    rw [e2, h7] at hq; cases hq
  refine ⟨fun q o hq => ?_, hne, hk _ _ ga (isRow a _ h.ha (fun _ _ => by unfold arenaO; intro e; cases e)), h.ha0, hk _ _ gm (isRow mp _ h.hm (fun _ _ => by unfold mapO; intro e; cases e)), h.hm0, fun x hx => ?_, fun j x hj => ?_, ?_, .inr ⟨b', mm, rfl, hb', h4, hc⟩⟩
  · have h5 : q ≠ a := fun e => by rw [e, h.ha0] at hq; cases hq
    have h6 : q ≠ mp := fun e => by rw [e, h.hm0] at hq; cases hq
    exact hk _ _ (keep1 q o (h.le _ _ hq) h5 h6) (fun ab e e2 => by rw [e2, (hA ab e).1] at hq; cases hq)
  · rcases List.mem_append.1 hx with hx | hx
    · obtain ⟨c', e', h9⟩ := h.hl x hx
      by_cases e1 : x.1 = a
      · exact ⟨_, _, by rw [e1]; exact hk _ _ ga (isRow a _ h.ha (fun _ _ => by unfold arenaO; intro e; cases e))⟩
      · have e3 : x.1 ≠ mp := fun e => by have := h.hm; rw [← e, h9] at this; unfold mapO at this; cases this
        exact ⟨_, _, hk _ _ (keep1 _ _ h9 e1 e3) (isRow _ _ h9 (fun _ _ => by intro e; cases e))⟩
    · simp at hx; subst hx
      exact ⟨_, _, hk _ _ gb (fresh b hb)⟩
  · rw [List.getElem?_append] at hj
    split at hj
    · obtain ⟨g1, g2, g3⟩ := h.hb j x hj
      have e1 : x.1 ≠ a := fun e => by rw [e, h.ha] at g1; unfold arenaO bufO at g1; cases g1
      have e2 : x.1 ≠ mp := fun e => by rw [e, h.hm] at g1; unfold mapO bufO at g1; cases g1
      have e3 : x.2.1 ≠ a := fun e => by rw [e, h.ha] at g2; unfold arenaO at g2; cases g2
      have e4 : x.2.1 ≠ mp := fun e => by rw [e, h.hm] at g2; unfold mapO at g2; cases g2
      exact ⟨hk _ _ (keep1 _ _ g1 e1 e2) (isRow _ _ g1 (fun _ _ => by unfold bufO; intro e; cases e)), hk _ _ (keep1 _ _ g2 e3 e4) (isRow _ _ g2 (fun _ _ => by intro e; cases e)), g3⟩
    · rename_i hlt
      have hj0 : j = bs.length := by
        have := (List.getElem?_eq_some_iff.1 hj).1
        simp at this; omega
      subst hj0
      simp at hj; subst hj
      exact ⟨hk _ _ gb (fresh b hb), hk _ _ gr (fresh rb hrb), hw.2⟩
  · rw [List.length_append, h.hn]; rfl

set_option maxRecDepth 10000 in
theorem apart_loop (K : Value → Hp → Prop) (H0 : Hp) (hK : ∀ H, H0.le H → K (.bool true) H) (A2 : Option Addr) (n2 m2 : Nat) (ss : List UInt8) (hn2 : n2 = ss.length) (h8 : n2 ≤ 8) (hs : Cells H0 A2 (byteVals ss)) (a mp : Nat) :
    ∀ (d i : Nat) (H : Hp) (cl : Nat) (tk : List (Nat × Int × Nat)) (used peak : Int) (bs : List (Nat × Nat × Nat)) (A : Option Addr) (m : Nat), i + d = n2 → Inv H0 H a mp cl tk used peak bs A i m → 0 ≤ used ∧ used ≤ 64 * i →
      W_abacistlaw14_ArenaApart.l10 K (d + 1) A2 n2 m2 (some ⟨a, 0, none⟩) A i m (i : Int) H
  | 0, i, H, cl, tk, used, peak, bs, A, m, hi, h, hu => by
    unfold W_abacistlaw14_ArenaApart.l10
    exact BIf_dneg (by omega) ⟨i + 1, apart_check K h (by omega) (hK H h.le) i 0 (by omega)⟩
  | d + 1, i, H, cl, tk, used, peak, bs, A, m, hi, h, hu => by
    unfold W_abacistlaw14_ArenaApart.l10
    refine BIf_dpos (by omega) ?_
    have hlt : i < ss.length := by omega
    have hcell : (byteVals ss)[i]? = some (.int .u8 (ss[i].toNat : Int)) := by rw [byteVals_get, List.getElem?_eq_getElem hlt]; rfl
    refine (hs.le h.le).read (i := i) hcell rfl (by rw [byteVals_length, hn2]; exact Nat.le_refl _) ?_
    simp only [DI_int', DB_bool, DS_string, DP_pointer, DSl_slice, DM_map, DA_agg, DTup_tuple, DCons_cons, DNil_nil, NN_some, BIf_true, BIf_false, BIf_same, List.toList_toArray, Bool.not_true, Bool.not_false]
    obtain ⟨w, hw, hw1, hw2⟩ : ∃ w : Nat, IntKind.i64.wrap (1 + IntKind.i64.wrap (Int.tmod (ss[i].toNat : Int) 64)) = (w : Int) ∧ 1 ≤ w ∧ w ≤ 64 := by
      refine ⟨1 + ss[i].toNat % 64, ?_, by omega, by omega⟩
      rw [show Int.tmod (ss[i].toNat : Int) 64 = ((ss[i].toNat % 64 : Nat) : Int) from rfl, i64n (by omega), i64w (by omega) (by omega)]
      omega
    rw [hw]
    refine ⟨by omega, by simp, ?_⟩
    refine (Take_ok H a mp 1000 used peak (w : Int) tk cl (by omega) (by omega) h.ne h.ha h.hm h.hl).mono ?_
    rintro v H' ⟨rb, b, hrb, hb, hbr, rfl, hH'⟩
    rw [Int.toNat_natCast] at hH'
    unfold ptrV
    simp only [DI_int', DB_bool, DS_string, DP_pointer, DSl_slice, DM_map, DA_agg, DTup_tuple, DCons_cons, DNil_nil, NN_some, BIf_true, BIf_false, BIf_same, List.toList_toArray, Bool.not_true, Bool.not_false]
    refine BIf_neg rfl (BIf_neg rfl ?_)
    have har : a ≠ rb := fun e => by have := h.ha; rw [e, hrb] at this; cases this
    have hab : a ≠ b := fun e => by have := h.ha; rw [e, hb] at this; cases this
    have hmr : mp ≠ rb := fun e => by have := h.hm; rw [e, hrb] at this; cases this
    have hmb : mp ≠ b := fun e => by have := h.hm; rw [e, hb] at this; cases this
    have gb : H' b = some (bufO a (some ⟨rb, 0, none⟩) w w) := by rw [hH', Hp.set_other _ _ (Ne.symm hab), Hp.set_other _ _ (Ne.symm hmb)]; exact Hp.set_same _ _ _
    have gr : H' rb = some (.row (zerosU64 w) 38 w) := by rw [hH', Hp.set_other _ _ (Ne.symm har), Hp.set_other _ _ (Ne.symm hmr), Hp.set_other _ _ (Ne.symm hbr)]; exact Hp.set_same _ _ _
    have hle' : H0.le H' := by
      have n1 : H0 rb = none := by
        cases hq : H0 rb with
        | none => rfl
        | some o => rw [h.le _ _ hq] at hrb; cases hrb
      have n2 : H0 b = none := by
        cases hq : H0 b with
        | none => rfl
        | some o => rw [h.le _ _ hq] at hb; cases hb
      rw [hH']
      exact Hp.le_set_of (Hp.le_set_of (Hp.le_set_of (Hp.le_set_of h.le n1) n2) h.hm0) h.ha0
    refine HCalls.use (Words_ok H' b a _ w w gb) ?_
    simp only [DI_int', DB_bool, DS_string, DP_pointer, DSl_slice, DM_map, DA_agg, DTup_tuple, DCons_cons, DNil_nil, NN_some, BIf_true, BIf_false, BIf_same, List.toList_toArray, Bool.not_true, Bool.not_false]
    refine (hs.le hle').read (i := i) hcell rfl (by rw [byteVals_length, hn2]; exact Nat.le_refl _) ?_
    simp only [DI_int', DB_bool, DS_string, DP_pointer, DSl_slice, DM_map, DA_agg, DTup_tuple, DCons_cons, DNil_nil, NN_some, BIf_true, BIf_false, BIf_same, List.toList_toArray, Bool.not_true, Bool.not_false]
    rw [hw]
    refine ⟨by omega, by simp, BIf_neg (by simp) ⟨w + 1, ?_⟩⟩
    have hid : H' = H'.set rb (.row (filled (valF i) (.int .u64 0) w 0).toList 38 w) := by rw [← zeros_filled]; exact (Hp.set_id gr).symm
    rw [hid]
    refine apart_fill K _ A2 n2 m2 (some ⟨a, 0, none⟩) A i m i w rb (some ⟨b, 0, none⟩) (by omega) hw2 H' 38 ?_ w 0 (by omega)
    intro b1 hb1
    have hlen : i = bs.length := h.hn
    have src : srcCells ((H'.set rb (.row (vals i w) 38 w)).set b1 (.row [ptrV b] 32 1)) 1 1 (.slice (some ⟨b1, 0, none⟩) 1 1) = some [ptrV b] := src_of (Cells.row (Hp.set_same _ _ _) 0 1) rfl
    have nx := fun (H4 : Hp) (b' c mm : Nat) => Inv.next (H4 := H4) (b' := b') (c := c) (mm := mm) h (b := b) (rb := rb) (w := w) ⟨hw1, hw2⟩ hrb hb hbr (H2 := H'.set rb (.row (vals bs.length w) 38 w)) (by rw [hH'])
    rw [← hlen] at nx
    have n0 : ∀ q, (H'.set rb (.row (vals i w) 38 w)) q = none → H0 q = none := fun q hq => by
      obtain ⟨_, h5⟩ := Hp.set_none hq
      cases h6 : H0 q with
      | none => rfl
      | some o => rw [hle' _ _ h6] at h5; cases h5
    rcases h.all with ⟨rfl, hbs, rfl⟩ | ⟨ab, mm, rfl, hab0, habH, hmm⟩
    · subst hbs
      obtain rfl : i = 0 := hlen
      refine AppK_nil cell_ptr rfl (by omega) (n := 1) rfl src rfl (by intro y hy; simp at hy; subst hy; rfl) (by omega) (by omega) (fun h => by omega) ?_
      intro _ b' c hc hb'
      obtain ⟨hb'1, hb'2⟩ := Hp.set_none hb'
      simp only [DI_int', DB_bool, DS_string, DP_pointer, DSl_slice, DM_map, DA_agg, DTup_tuple, DCons_cons, DNil_nil, NN_some, BIf_true, BIf_false, BIf_same, List.toList_toArray, Bool.not_true, Bool.not_false]
      refine apart_loop K H0 hK A2 n2 m2 ss hn2 h8 hs a mp d 1 _ (cl + 1) _ (used + w) _ _ _ c (by omega) (nx _ b' c (c * 1) (n0 _ hb'2) (Hp.set_same _ _ _) (by omega) (fun q o hq _ => ?_)) (by omega)
      have e1 : q ≠ b1 := fun e => by rw [e, hb1] at hq; cases hq
      have e2 : q ≠ b' := fun e => by rw [e, hb'2] at hq; cases hq
      rw [Hp.set_other _ _ e2, Hp.set_other _ _ e1]; exact hq
    · have e4 : ab ≠ b1 := fun e => by
        have e5 : ab ≠ a := fun e => by rw [e, h.ha] at habH; unfold arenaO at habH; cases habH
        have e6 : ab ≠ mp := fun e => by rw [e, h.hm] at habH; unfold mapO at habH; cases habH
        have e7 : ab ≠ rb := fun e => by rw [e, hrb] at habH; cases habH
        have e8 : ab ≠ b := fun e => by rw [e, hb] at habH; cases habH
        rw [← e, Hp.set_other _ _ e7, hH', Hp.set_other _ _ e5, Hp.set_other _ _ e6, Hp.set_other _ _ e8, Hp.set_other _ _ e7, habH] at hb1
        cases hb1
      have g5 : ((H'.set rb (.row (vals i w) 38 w)).set b1 (.row [ptrV b] 32 1)) ab = some (.row (bs.map fun x => ptrV x.1) 32 mm) := by
        have e5 : ab ≠ a := fun e => by rw [e, h.ha] at habH; unfold arenaO at habH; cases habH
        have e6 : ab ≠ mp := fun e => by rw [e, h.hm] at habH; unfold mapO at habH; cases habH
        have e7 : ab ≠ rb := fun e => by rw [e, hrb] at habH; cases habH
        have e8 : ab ≠ b := fun e => by rw [e, hb] at habH; cases habH
        rw [Hp.set_other _ _ e4, Hp.set_other _ _ e7, hH', Hp.set_other _ _ e5, Hp.set_other _ _ e6, Hp.set_other _ _ e8, Hp.set_other _ _ e7]; exact habH
      refine AppK_own cell_ptr rfl (by omega) g5 (len := i) (by rw [List.length_map]; omega) (by omega) (n := 1) rfl src rfl (by intro y hy; simp at hy; subst hy; rfl) (by omega) (by omega) ?_
      intro b' c m' hc1 hc2 hb'
      simp only [DI_int', DB_bool, DS_string, DP_pointer, DSl_slice, DM_map, DA_agg, DTup_tuple, DCons_cons, DNil_nil, NN_some, BIf_true, BIf_false, BIf_same, List.toList_toArray, Bool.not_true, Bool.not_false]
      have hbe : ∀ q o, (H'.set rb (.row (vals i w) 38 w)) q = some o → q ≠ ab → q ≠ b' := fun q o hq hqab e => by
        have e1 : q ≠ b1 := fun e => by rw [e, hb1] at hq; cases hq
        rw [← e] at hb'
        unfold Hp.erase at hb'
        rw [if_neg hqab, Hp.set_other _ _ e1, hq] at hb'
        cases hb'
      have hb'0 : H0 b' = none := by
        by_cases e : b' = ab
        · rw [e]; exact hab0
        · cases hq : H0 b' with
          | none => rfl
          | some o =>
            have h6 : (H'.set rb (.row (vals i w) 38 w)) b' = some o := by
              rw [Hp.set_other _ _ (fun e2 => by rw [e2] at hq; have := hle' _ _ hq; rw [gr] at this; have h7 := h.le _ _ hq; rw [hrb] at h7; cases h7)]
              exact hle' _ _ hq
            exact absurd rfl (hbe _ _ h6 e)
      refine apart_loop K H0 hK A2 n2 m2 ss hn2 h8 hs a mp d (i + 1) _ (cl + 1) _ (used + w) _ _ _ c (by omega) (nx _ b' c m' hb'0 (by rw [Hp.set_same, List.map_append]; rfl) (by omega) (fun q o hq hqab => ?_)) (by omega)
      have hqab' := hqab ab rfl
      have e1 : q ≠ b1 := fun e => by rw [e, hb1] at hq; cases hq
      rw [Hp.set_other _ _ (hbe _ _ hq hqab')]
      unfold Hp.erase
      rw [if_neg hqab', Hp.set_other _ _ e1]; exact hq

theorem ArenaApart_ok (A : Option Addr) (n m : Nat) (ss : List UInt8) (hn : n = ss.length) (H : Hp) (hs : Cells H A (byteVals ss)) :
    HCalls Try.prog 4 #[.slice A n m] H (RetE (.bool true) H) := by
  apply HCalls.ret
  apply W_abacistlaw14_ArenaApart.ok
  unfold W_abacistlaw14_ArenaApart
  refine HCalls.use (awake_ok H) ?_
  try simp only [DI_int', DB_bool, DS_string, DP_pointer, DSl_slice, DM_map, DA_agg, DTup_tuple, DCons_cons, DNil_nil, NN_some, BIf_true, BIf_false, BIf_same, List.toList_toArray, Bool.not_true, Bool.not_false]
  rw [BIf_decide]
  split
  · exact ⟨rfl, Hp.le_refl _⟩
  refine (New_ok H 1000 (by omega)).mono ?_
  rintro v H' ⟨mp, a, hmp, ha, hne, rfl, rfl⟩
  unfold ptrV
  simp only [DI_int', DB_bool, DS_string, DP_pointer, DSl_slice, DM_map, DA_agg, DTup_tuple, DCons_cons, DNil_nil, NN_some, BIf_true, BIf_false, BIf_same, List.toList_toArray, Bool.not_true, Bool.not_false]
  refine BIf_neg rfl ⟨n + 1, ?_⟩
  refine apart_loop _ H (fun H' hl => ⟨rfl, hl⟩) A n m ss hn (by omega) hs a mp n 0 _ 0 [] 0 0 [] none 0 (by omega) ?_ (by omega)
  exact ⟨Hp.le_set_of (Hp.le_set hmp) ha, hne, Hp.set_same _ _ _, ha, by rw [Hp.set_other _ _ (Ne.symm hne)]; exact Hp.set_same _ _ _, hmp, fun x hx => by simp at hx, fun j x hj => by simp at hj, rfl, .inl ⟨rfl, rfl, rfl⟩⟩

end Go.Proofs.Ytdjdielefolfbaa.Are
