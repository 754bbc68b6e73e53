import Derived.Test.YtnknippcbecmeaaGreatDoorPkExecAll7
set_option maxRecDepth 100000
set_option linter.unusedSimpArgs false
set_option linter.unusedVariables false
set_option linter.unnecessarySimpa false
set_option linter.unusedSectionVars false
section
/- law 25: ExecAll. -/
namespace Go.Proofs.YtnknippcbecmeaaGreatDoor.Eng
open Go Go.Hw Go.Form W Shp Dsk Str Are Trn Ker Fft Pas Pln
theorem p_ops : plain64 Tryz.prog 43 3 := ⟨by kernel_rfl, by kernel_rfl, by kernel_rfl, by kernel_rfl⟩
abbrev opO (o : O3) : AO := .obj (.cells (opRow o).toArray 43)
abbrev rigO (dp ap kk : Nat) : AO := .obj (.cells (rigV dp ap kk) 35)
structure Lp (kk k words : Nat) (l : List UInt64) (ps : List Pz) (d0 d : D) (c : Cn) (j e : Nat) (cs : List O3) : Prop where
  rg : Rg d c kk
  cl : CostL kk k words (ps.take j) cs
  wn : Went d0 d (sumO cs).1 (sumO cs).2.1 (sumO cs).2.2
  e4 : e < 4
  cw : cws c 4 (exX kk 4 e k).f (2 ^ k) = apL (ps.take j) l
  ch : chn (ps.drop j) e
  rd : d.rd ≤ 1000 + 1000 * j
  wr : d.wr ≤ 1000 + 1000 * j
  sy : d.sy ≤ 1000 + 1000 * j
section
variable {H0 : Hp} (hT : T64 H0) {A : Option Addr} {n m : Nat} {l : List UInt64} (hl : l.length = n) {k kk words : Nat} (hn : n = 2 ^ k) (hk6 : k ≤ 6) (hk : k ≤ kk) (hkk : kk ≤ 7) (hA : Cells H0 A (wordVals l)) {d : Bool} (hw : leastN k 4 ≤ words ∧ words ≤ 1000) {dp ap b1 bp b2 b3 : Nat} {d0 : D}
include hT hl hn hk6 hk hkk hA hw
theorem exec_end {ds : D} {c : Cn} {j e : Nat} {cs : List O3} {pk : Int} {H : Hp} (hL : Lp kk k words l (planL d k 4 words) d0 ds c j e cs) (hj : j = (planL d k 4 words).length) (hpk : pk ≤ words) (t : Nat) {x : Int}
    (hs : Sep [own H0, Dk dp ds, Ar ap words pk [], pts b1 (rigO dp ap kk), pts bp (.row (passV (planL d k 4 words)) 64 ((planL d k 4 words).length * 8)), pts b2 (opO (d0.rd, d0.wr, d0.sy)), pts b3 (opO (sumO cs))] H) :
    W_abacistlaw25_ExecAll.l15 (Ret (.bool true) H0) (t + 1) A n m (if d = true then 1 else 0) (k : Int) (words : Int) ⟨b1, 0, none⟩ (some ⟨bp, 0, none⟩) (planL d k 4 words).length (planL d k 4 words).length x ⟨b2, 0, none⟩ ⟨b3, 0, none⟩ (j : Int) H := by
  have hp5 := (planL_len d k 4 words).2
  have hrd := hL.rd; have hwr := hL.wr; have hsy := hL.sy
  have hper := hL.rg.per
  have hcl := hL.cl
  have hch := hL.ch
  have hcw := hL.cw
  have hwn1 := hL.wn.rd; have hwn2 := hL.wn.wr; have hwn3 := hL.wn.sy
  rw [hj, List.take_length] at hcl hcw
  rw [hj, List.drop_length] at hch
  obtain rfl : e = 3 := hch
  rw [plan_is d k 4 words (by omega) l (hl.trans hn)] at hcw
  unfold W_abacistlaw25_ExecAll.l15
  refine BIf_dneg (by omega) ?_
  try simp only [NN_some, Addr.add_lit', Addr.add_zero, Nat.zero_add, Nat.add_zero]
  refine hs.ld 3 (v := .pointer (some ⟨dp, 0, none⟩)) rfl rfl ?_
  simp only [HV]
  try simp only [NN_some, Addr.add_lit', Addr.add_zero, Nat.zero_add, Nat.add_zero]
  refine HCalls.use (Count_s hs 1 rfl) ?_
  simp only [HV]
  refine hs.nw fun b11 H hs => ?_
  refine hs.stw 7 (y := (opRow (ds.rd, ds.wr, ds.sy)).toArray) rfl rfl rfl rfl fun H hs => ?_
  refine hs.lda 3 (off := 2) (n := 17) rfl (by show 2 + 17 ≤ 19; omega) ?_
  have eb : (((rigV dp ap kk).toList.drop 2).take 17).toArray = Lay.layV kk 4 := rfl
  rw [eb]
  refine (eAll_ok (most := kk) (by omega) hk hk6 hw d H (hT.le (hs.ow 0 rfl))).mono ?_
  rintro _ H' ⟨cs', hC', rfl, hle⟩
  obtain rfl := hC'.uniq hcl
  have hs := Sep.up hs hle
  simp only [HV]
  refine hs.nw fun b12 H hs => ?_
  refine hs.stw 8 (y := (opRow (sumO cs')).toArray) rfl rfl rfl rfl fun H hs => ?_
  have hs : Sep [own H0, Dk dp ds, Ar ap words pk [], pts b1 (rigO dp ap kk), pts bp (.row (passV (planL d k 4 words)) 64 ((planL d k 4 words).length * 8)), pts b2 (opO (d0.rd, d0.wr, d0.sy)), pts b3 (opO (sumO cs')), pts b11 (opO (ds.rd, ds.wr, ds.sy)), pts b12 (opO (sumO cs'))] H := hs
  generalize sumO cs' = o at *
  obtain ⟨o1, o2, o3⟩ := o
  simp only at hwn1 hwn2 hwn3
  refine BIf_bnen rfl ?_
  refine hs.ldw 8 rfl rfl ?_
  refine hs.ldw 6 rfl rfl ?_
  try simp only [Array.toArray_toList]
  have hr : ∀ x ∈ [(o1 : Int), (o2 : Int), (o3 : Int)], -9223372036854775808 ≤ x ∧ x ≤ 9223372036854775807 := by
    intro x hx
    simp only [List.mem_cons, List.not_mem_nil, or_false] at hx
    omega
  refine EqI_neq p_ops (a := [(o1 : Int), (o2 : Int), (o3 : Int)]) (b := [(o1 : Int), (o2 : Int), (o3 : Int)]) rfl rfl hr hr rfl rfl ?_
  rw [decide_eq_true rfl]
  refine BIf_neg rfl ?_
  refine hs.ld 7 (v := .int .i64 (ds.rd : Int)) rfl rfl ?_
  simp only [HV]
  refine hs.ld 5 (v := .int .i64 (d0.rd : Int)) rfl rfl ?_
  simp only [HV]
  refine hs.ld 8 (v := .int .i64 (o1 : Int)) rfl rfl ?_
  simp only [HV]
  refine BIf_bnen (by rw [i64w (by omega) (by omega)]; omega) ?_
  refine hs.ld 7 (v := .int .i64 (ds.wr : Int)) rfl rfl ?_
  simp only [HV]
  refine hs.ld 5 (v := .int .i64 (d0.wr : Int)) rfl rfl ?_
  simp only [HV]
  refine hs.ld 8 (v := .int .i64 (o2 : Int)) rfl rfl ?_
  simp only [HV]
  refine BIf_bnen (by rw [i64w (by omega) (by omega)]; omega) ?_
  refine hs.ld 7 (v := .int .i64 (ds.sy : Int)) rfl rfl ?_
  simp only [HV]
  refine hs.ld 5 (v := .int .i64 (d0.sy : Int)) rfl rfl ?_
  simp only [HV]
  refine hs.ld 8 (v := .int .i64 (o3 : Int)) rfl rfl ?_
  simp only [HV]
  refine BIf_bnen (by rw [i64w (by omega) (by omega)]; omega) ?_
  refine hs.ld 3 (v := .pointer (some ⟨ap, 0, none⟩)) rfl rfl ?_
  simp only [HV]
  try simp only [NN_some, Addr.add_lit', Addr.add_zero, Nat.zero_add, Nat.add_zero]
  refine HCalls.use (peak_s hs 2 rfl) ?_
  simp only [HV]
  refine BIf_dneg (by omega) ?_
  refine hs.ldw 3 rfl rfl ?_
  try simp only [Array.toArray_toList]
  refine (Words_tr (dp := dp) (ap := ap) (kk := kk) (i := 3) (k := k) hL.rg (by omega) hk (by omega) (by omega)).use hs [1] rfl rfl ?_
  rintro _ _ H ⟨b, t, ht, rfl, rfl⟩ hs
  simp only [HV]
  rw [hcw] at hs
  refine (Transform_tr (R := own H0) (A := A) (n := n) (m := m) (k := k) (l := l) (fun H h => hA.le h) hl hn (by omega) d).use hs [2] rfl rfl ?_
  rintro _ _ H ⟨A2, m2, rfl, rfl⟩ hs
  simp only [HV]
  have hlen := tfL_len d k l
  have h64 := two6 hk6
  refine HCalls.use (SameU_ok (some ⟨b, 0, none⟩) A2 (2 ^ k) n (2 ^ k) m2 (tfL d k l) hlen.symm (hn.trans hlen.symm) (by omega) H ?_ (ownS_cells (hs.own 0 rfl))) ?_
  · have := Cells.row (hs.get 3 (b := b) rfl) 0 (wordVals (tfL d k l)).length
    rwa [List.drop_zero, List.take_length] at this
  simp only [HV]
  exact hs.fin 1 rfl _
theorem exec_loop : ∀ (t j : Nat) (ds : D) (c : Cn) (e : Nat) (cs : List O3) (pk : Int) (x : Int) (H : Hp), j + t = (planL d k 4 words).length → Lp kk k words l (planL d k 4 words) d0 ds c j e cs → pk ≤ words → x = (crcU (apL ((planL d k 4 words).take j) l) : Int) →
    Sep [own H0, Dk dp ds, Ar ap words pk [], pts b1 (rigO dp ap kk), pts bp (.row (passV (planL d k 4 words)) 64 ((planL d k 4 words).length * 8)), pts b2 (opO (d0.rd, d0.wr, d0.sy)), pts b3 (opO (sumO cs))] H →
    W_abacistlaw25_ExecAll.l15 (Ret (.bool true) H0) (t + 1) A n m (if d = true then 1 else 0) (k : Int) (words : Int) ⟨b1, 0, none⟩ (some ⟨bp, 0, none⟩) (planL d k 4 words).length (planL d k 4 words).length x ⟨b2, 0, none⟩ ⟨b3, 0, none⟩ (j : Int) H := fun t => by
  induction t with
  | zero => exact fun j ds c e cs pk x H hj hL hpk hx hs => exec_end hT hl hn hk6 hk hkk hA hw hL (by omega) hpk 0 hs
  | succ t ih =>
    intro j ds c e cs pk x H hj hL hpk hx hs
    have hp5 := (planL_len d k 4 words).2
    have hrd := hL.rd; have hwr := hL.wr; have hsy := hL.sy
    have hper := hL.rg.per
    have hjl : j < (planL d k 4 words).length := by omega
    have hg : (planL d k 4 words)[j]? = some ((planL d k 4 words)[j]'hjl) := List.getElem?_eq_getElem hjl
    have hz := planL_ok (by omega) hw.1 _ (List.getElem_mem hjl)
    have hch := hL.ch
    rw [List.drop_eq_getElem_cons hjl] at hch
    have htk : (planL d k 4 words).take (j + 1) = (planL d k 4 words).take j ++ [(planL d k 4 words)[j]'hjl] := List.take_succ_eq_append_getElem hjl
    have hget := passV_get _ _ _ hg
    have hlenV := passV_len (planL d k 4 words)
    generalize (planL d k 4 words)[j]'hjl = pz at hz htk hch hget
    obtain ⟨rfl, hch⟩ := hch
    obtain ⟨r0, w0, hcost, hcall0⟩ := eCost_ok (most := kk) (by omega) hk hk6 hz hw.2 H0 hT
    have hcall : ∀ (H : Hp) (K : Value → Prop), H0.le H → K (.tuple #[.agg (opRow (r0 + Lay.roomN k 4, w0, 1)).toArray, .int .i64 0]) → QCall Tryz.prog 12 #[.agg (Lay.layV kk 4), .int .i64 (k : Int), .agg pz.c, .int .i64 (words : Int)] H K := fun H K hle hK => by
      obtain ⟨r', w', hc', h'⟩ := eCost_ok (most := kk) (by omega) hk hk6 hz hw.2 H (hT.le hle)
      obtain ⟨rfl, rfl⟩ := hcost.unique hc'
      exact QCall.use h' hK
    have hle := CostP_le hcost hz.k
    have h64 := two6 hk6
    have hroom : Lay.roomN k 4 ≤ 64 := (room8 (kk := k) (by omega)).2
    unfold W_abacistlaw25_ExecAll.l15
    refine BIf_dpos (by omega) ⟨by omega, by omega, ?_⟩
    have eb : (((rigV dp ap kk).toList.drop 2).take 17).toArray = Lay.layV kk 4 := rfl
    have hS : (rigV dp ap kk).size = 19 := rfl
    have j18 : ∀ b4 H, Sep [own H0, Dk dp ds, Ar ap words pk [], pts b1 (rigO dp ap kk), pts bp (.row (passV (planL d k 4 words)) 64 ((planL d k 4 words).length * 8)), pts b2 (opO (d0.rd, d0.wr, d0.sy)), pts b3 (opO (sumO cs)), pts b4 (opO (r0 + Lay.roomN k 4, w0, 1))] H →
        W_abacistlaw25_ExecAll.j18 (Ret (.bool true) H0) (W_abacistlaw25_ExecAll.l15 (Ret (.bool true) H0) (t + 1)) A n m (if d = true then 1 else 0) (k : Int) (words : Int) ⟨b1, 0, none⟩ (some ⟨bp, 0, none⟩) (planL d k 4 words).length (planL d k 4 words).length x ⟨b2, 0, none⟩ ⟨b3, 0, none⟩ (j : Int) ⟨b4, 0, none⟩ 0 H := fun b4 H hs => by
      unfold W_abacistlaw25_ExecAll.j18
      try simp only [NN_some, Addr.add_lit', Addr.add_zero, Nat.zero_add, Nat.add_zero]
      refine hs.ld 3 (v := .pointer (some ⟨dp, 0, none⟩)) rfl rfl ?_
      simp only [HV]
      refine hs.ld 3 (v := .pointer (some ⟨ap, 0, none⟩)) rfl rfl ?_
      simp only [HV]
      refine hs.lda 3 (off := 2) (n := 17) rfl (by rw [hS]; omega) ?_
      rw [eb]
      refine ⟨by omega, by omega, ?_⟩
      simp only [NN_some, Addr.add_lit', Nat.zero_add, Int.toNat_natCast]
      refine ldr hs 4 rfl (by omega) hget ?_
      try simp only [Array.toArray_toList]
      have hdo := Do_tr (dp := dp) (ap := ap) (d := ds) (c := c) (most := kk) (k := k) (pz := pz) (cap := words) (peak := pk) (TT := own H0) (fun H1 h => hT.le h) hL.rg.cl (hL.rg.lay (by omega)) hk (by omega) (by omega) hpk (by rw [hper]; exact hz)
      unfold doP at hdo
      simp only [hper, hL.cw] at hdo
      rw [hx]
      refine hdo.use hs [1, 2, 0] rfl rfl ?_
      rintro _ _ H ⟨pk', hpk', r, w, hcost', ⟨d', c', hgo, hcl', hsam, hcw', rfl, rfl⟩ | ⟨d', hcut, _⟩⟩ hs
      · obtain ⟨rfl, rfl⟩ := hcost.unique hcost'
        simp only [HV]
        refine BIf_bnen rfl (BIf_bnen rfl ?_)
        have h1 := hgo.rd
        have h2 := hgo.wr
        have h3 := hgo.sy
        have hcl := hL.cl
        have hwn := hL.wn
        rw [nS_room] at h1 hgo
        have hcl2 : CostL kk k words ((planL d k 4 words).take (j + 1)) (cs ++ [(r0 + Lay.roomN k 4, w0, 1)]) := by
          rw [htk]
          exact hcl.snoc hcost rfl ⟨by show r0 + Lay.roomN k 4 ≤ _; omega, by show w0 ≤ _; omega, by show 1 ≤ _; omega⟩
        have hsum : sumO (cs ++ [(r0 + Lay.roomN k 4, w0, 1)]) = addO (sumO cs) (r0 + Lay.roomN k 4, w0, 1) := by unfold sumO; rw [List.foldl_append]; rfl
        have hwn2 := hwn.trans hgo
        have hap : apL ((planL d k 4 words).take (j + 1)) l = pz.ap (apL ((planL d k 4 words).take j) l) := by rw [htk, apL_app]; rfl
        have hb1 := hwn.rd
        have hb2 := hwn.wr
        have hb3 := hwn.sy
        have fin : ∀ H, Sep [own H0, Dk dp d', Ar ap words pk' [], pts b1 (rigO dp ap kk), pts bp (.row (passV (planL d k 4 words)) 64 ((planL d k 4 words).length * 8)), pts b2 (opO (d0.rd, d0.wr, d0.sy)), pts b3 (opO (addO (sumO cs) (r0 + Lay.roomN k 4, w0, 1)))] H →
            W_abacistlaw25_ExecAll.l15 (Ret (.bool true) H0) (t + 1) A n m (if d = true then 1 else 0) (k : Int) (words : Int) ⟨b1, 0, none⟩ (some ⟨bp, 0, none⟩) (planL d k 4 words).length (planL d k 4 words).length (crcU (pz.ap (apL ((planL d k 4 words).take j) l)) : Int) ⟨b2, 0, none⟩ ⟨b3, 0, none⟩ ((j + 1 : Nat) : Int) H := fun H hs => by
          refine ih (j + 1) d' c' pz.o _ pk' _ H (by omega) ⟨hL.rg.went hgo hcl', hcl2, ?_, hz.o, ?_, ?_, by omega, by omega, by omega⟩ hpk' (by rw [hap]) (by rw [hsum]; exact hs)
          · rw [hsum]
            have e : r0 + Lay.roomN k 4 = Lay.roomN k 4 + r0 := Nat.add_comm _ _
            rw [e]; exact hwn2
          · rw [hcw', hap]
          · have : (planL d k 4 words).drop (j + 1) = (planL d k 4 words).drop (j + 1) := rfl
            exact hch
        generalize sumO cs = o at *
        obtain ⟨o1, o2, o3⟩ := o
        simp only at hb1 hb2 hb3
        refine hs.ld 6 (v := .int .i64 (o1 : Int)) rfl rfl ?_
        simp only [HV]
        refine hs.ld 7 (v := .int .i64 ((r0 + Lay.roomN k 4 : Nat) : Int)) rfl rfl ?_
        simp only [HV]
        rw [i64w (x := (o1 : Int) + ((r0 + Lay.roomN k 4 : Nat) : Int)) (by omega) (by omega)]
        refine hs.st 6 rfl (by show 0 < 3; omega) rfl fun H hs => ?_
        refine hs.ld 6 (v := .int .i64 (o2 : Int)) rfl rfl ?_
        simp only [HV]
        refine hs.ld 7 (v := .int .i64 (w0 : Int)) rfl rfl ?_
        simp only [HV]
        rw [i64w (x := (o2 : Int) + (w0 : Int)) (by omega) (by omega)]
        refine hs.st 6 rfl (by show 1 < 3; omega) rfl fun H hs => ?_
        refine hs.ld 6 (v := .int .i64 (o3 : Int)) rfl rfl ?_
        simp only [HV]
        refine hs.ld 7 (v := .int .i64 1) rfl rfl ?_
        simp only [HV]
        rw [i64w (x := (o3 : Int) + 1) (by omega) (by omega), i64w (x := (j : Int) + 1) (by omega) (by omega)]
        refine hs.st 6 rfl (by show 2 < 3; omega) rfl fun H hs => ?_
        exact fin H (hs.re [2, 0, 1, 3, 4, 5, 6] rfl)
      · exact (hcut.calm hL.rg.fz).elim
    simp only [NN_some, Addr.add_lit', Nat.zero_add, Int.toNat_natCast]
    repeat' first
      | exact j18 _ _ hs
      | (refine hs.lda 3 (off := 2) (n := 17) rfl (by rw [hS]; omega) ?_; rw [eb])
      | (refine ldr hs 4 rfl (by omega) hget ?_; try simp only [Array.toArray_toList])
      | (refine hcall _ _ (hs.ow 0 rfl) ?_)
      | refine hs.nw fun b4 H hs => ?_
      | refine hs.stw 7 (y := (opRow (r0 + Lay.roomN k 4, w0, 1)).toArray) rfl rfl rfl rfl fun H hs => ?_
      | (simp only [HV]; try simp only [NN_some, Addr.add_lit', Addr.add_zero, Nat.zero_add, Nat.add_zero, Int.toNat_natCast, Array.toArray_toList])
      | refine ⟨?_, ?_⟩
end
theorem ExecAll_ok (A : Option Addr) (n m : Nat) (l : List UInt64) (hl : l.length = n) (hm : n ≤ m) (x : Nat) (hx : x ≤ 255) (dir : Int) (w : Nat) (hw : w ≤ 65535) (H : Hp) (hT : T64 H) (hA : Cells H A (wordVals l)) :
    HCalls Tryz.prog 3 #[.slice A n m, .int .u8 (x : Int), .int .i64 dir, .int .u16 (w : Int)] H (Ret (.bool true) H) := by
  apply W_abacistlaw25_ExecAll.ok
  unfold W_abacistlaw25_ExecAll
  refine HCalls.use (awake25_ok H hT) ?_
  try simp only [HV]
  refine HCalls.use (rFits_ok (n : Int) H) ?_
  simp only [HV]
  by_cases h64 : (n : Int) > 64
  · exact BIf_dpos h64 ⟨rfl, Hp.le_refl _⟩
  refine BIf_dneg h64 ?_
  cases hlg : lg (n : Int) with
  | none =>
    refine BIf_dpos ?_ ⟨rfl, Hp.le_refl _⟩
    unfold rfitsN; rw [hlg]; decide
  | some k =>
    obtain ⟨hk32, hnk⟩ := lg_some hlg
    have hnk : n = 2 ^ k := by omega
    have hk6 : k ≤ 6 := by
      rcases Nat.lt_or_ge 6 k with h | h
      · have : 2 ^ 7 ≤ 2 ^ k := Nat.pow_le_pow_right (by omega) h
        omega
      · exact h
    have hfit : rfitsN (n : Int) = (k : Int) := by unfold rfitsN; rw [hlg]
    rw [hfit]
    refine BIf_dneg (by omega) ?_
    have j6 : ∀ d : Bool, dir = (if d = true then 1 else 0) → W_abacistlaw25_ExecAll.j6 (Ret (.bool true) H) A n m (x : Int) dir (w : Int) (k : Int) H := fun d hd => by
      unfold W_abacistlaw25_ExecAll.j6
      refine HCalls.use (rLeast_ok k 4 (by omega) (by omega) H) ?_
      have hls : leastN k 4 ≤ 20 := by
        have : 2 ^ ((k + 1) / 2) ≤ 2 ^ 3 := Nat.pow_le_pow_right (by omega) (by omega)
        unfold leastN; omega
      have e1 : IntKind.i64.wrap ((leastN k 4 : Int) + Int.tmod (IntKind.i64.wrap (w : Int)) 200) = ((leastN k 4 + w % 200 : Nat) : Int) := by
        rw [i64n (n := w) (by omega), show Int.tmod (w : Int) 200 = ((w % 200 : Nat) : Int) from rfl, i64w (by omega) (by omega)]; omega
      have e2 : (if (7 : Int) < IntKind.i64.wrap ((k : Int) + Int.tmod (IntKind.i64.wrap (x : Int)) 3) then (7 : Int) else IntKind.i64.wrap ((k : Int) + Int.tmod (IntKind.i64.wrap (x : Int)) 3)) = ((min (k + x % 3) 7 : Nat) : Int) := by
        rw [i64n (n := x) (by omega), show Int.tmod (x : Int) 3 = ((x % 3 : Nat) : Int) from rfl, i64w (x := (k : Int) + ((x % 3 : Nat) : Int)) (by omega) (by omega)]
        split <;> omega
      simp only [HV]
      rw [e1, e2]
      refine ⟨by decide, by simp, by decide, by simp, ?_⟩
      generalize hkk : min (k + x % 3) 7 = kk
      generalize hws : leastN k 4 + w % 200 = words
      have hw2 : leastN k 4 ≤ words ∧ words ≤ 1000 := ⟨by omega, by omega⟩
      refine (Make_tr (kk := kk) (k := k) (words := words) (A := A) (n := n) (m := m) (l := l) (R := own H) (by omega) (by omega) (hl.trans hnk) hl.symm hm ⟨by unfold leastN at hw2; omega, hw2.2⟩ (fun H h => hA.le h)).use (Sep.start H) [0] rfl rfl ?_
      rintro _ _ H1 ⟨dp, ap, d0, c, rfl, hg, rfl⟩ hs
      simp only [HV]
      refine hs.nw fun b1 H1 hs => ?_
      refine hs.stw 3 (y := rigV dp ap kk) rfl rfl rfl rfl fun H1 hs => ?_
      subst hd
      refine (rPasses_tr (k := k) (per := 4) (words := words) (by omega) (by omega) (by omega) d).use hs [] rfl rfl ?_
      rintro _ _ H1 ⟨bp, rfl, rfl⟩ hs
      simp only [HV]
      have hs : Sep [pts bp (.row (passV (planL d k 4 words)) 64 ((planL d k 4 words).length * 8)), Dk dp d0, Ar ap words 0 [], own H, pts b1 (rigO dp ap kk)] H1 := hs
      refine HCalls.use (CrcP.rOfWords_ok A n m l hl.symm (by omega) H1 (hA.le (hs.ow 3 rfl))) ?_
      simp only [HV]
      try simp only [NN_some, Addr.add_lit', Addr.add_zero, Nat.zero_add, Nat.add_zero]
      refine hs.ld 4 (v := .pointer (some ⟨dp, 0, none⟩)) rfl rfl ?_
      simp only [HV]
      try simp only [NN_some, Addr.add_lit', Addr.add_zero, Nat.zero_add, Nat.add_zero]
      refine HCalls.use (Count_s hs 1 rfl) ?_
      simp only [HV]
      refine hs.nw fun b2 H1 hs => ?_
      refine hs.stw 5 (y := (opRow (d0.rd, d0.wr, d0.sy)).toArray) rfl rfl rfl rfl fun H1 hs => ?_
      refine hs.nw fun b3 H1 hs => ?_
      refine hs.stw 6 (y := (opRow (0, 0, 0)).toArray) rfl rfl rfl rfl fun H1 hs => ⟨(planL d k 4 words).length + 1, ?_⟩
      have h1 := hg.rd; have h2 := hg.wr; have h3 := hg.sy
      have hf9 : (exX kk 4 0 k).f = 9 := by show 9 + 0 * _ = 9; omega
      exact exec_loop hT hl hnk hk6 (by omega) (by omega) hA hw2 (planL d k 4 words).length 0 d0 c 0 [] 0 _ H1 (by omega) ⟨hg.rg, ⟨rfl, fun i pz o hi _ => by simp at hi⟩, Went.refl d0, by omega, by rw [hf9]; exact hg.cw, chn_plan d k 4 words, by omega, by omega, by omega⟩ (by omega) rfl (hs.re [3, 1, 2, 4, 0, 5, 6] rfl)
    by_cases h0 : dir = 0
    · exact BIf_bnen h0 (j6 false h0)
    · refine BIf_bnep h0 ?_
      by_cases h1 : dir = 1
      · exact BIf_bnen h1 (j6 true h1)
      · exact BIf_bnep h1 ⟨rfl, Hp.le_refl _⟩
end Go.Proofs.YtnknippcbecmeaaGreatDoor.Eng
end
