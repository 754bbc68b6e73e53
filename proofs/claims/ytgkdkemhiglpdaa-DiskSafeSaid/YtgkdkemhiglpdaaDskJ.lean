/- The law DiskSafe. -/
import Derived.Test.YtgkdkemhiglpdaaDskI
import Derived.Test.YtgkdkemhiglpdaaHwQ
set_option maxRecDepth 100000
set_option linter.unusedSimpArgs false
set_option linter.unusedVariables false
set_option linter.unnecessarySimpa false
set_option linter.unusedSectionVars false
namespace Go.Proofs.Ytgkdkemhiglpdaa.Dsk
open Go Go.Hw Go.Form Go.Proofs.Ytgkdkemhiglpdaa.W

section
variable (K : Value → Hp → Prop) {H0 : Hp} (hK : ∀ H, H0.le H → K (.bool true) H) {p : Nat} {A : Option Addr} {n m : Nat} {l : List Act} (hl : l.length = n) (hn : n ≤ 40) (hc : CellsS 4 H0 A (l.map actRow)) (hall : ∀ a ∈ l, OkA H0 a)
  {A' : Option Addr} {n' m' : Nat} {ks : List Bool} (hn' : n' = ks.length) (hks : Cells H0 A' (boolVals ks))
include hK hl hn hc hall hn' hks

theorem first_loop {b1 b2 : Nat} {S : Mb} : ∀ (t j c : Nat) (d : D) (c1 c2 : Array Value) (H : Hp), j + t = 12 → c ≤ 300 + j → On12 S (fun _ => none) c d → Str12 c1 (satS S) j → Str12 c2 (satS S) j → Sep [own H0, Dk p d, arr b1 c1, arr b2 c2] H →
      W_abacistlaw15_DiskSafe.l19 K (t + 1) A n m A' n' m' (some ⟨p, 0, none⟩) ⟨b1, 0, none⟩ ⟨b2, 0, none⟩ (j : Int) H := fun t => by
  induction t with
  | zero =>
    intro j c d c1 c2 H hj hcj hd h1 h2 hs
    unfold W_abacistlaw15_DiskSafe.l19
    refine BIf_dneg (by omega) ⟨n + 1, ?_⟩
    obtain rfl : j = 12 := by omega
    exact more_loop K hK h1 hl hn hc hall hn' hks n 0 c (fun _ => none) d c2 H (by omega) (by omega) hd h2 hs
  | succ t ih =>
    intro j c d c1 c2 H hj hcj hd h1 h2 hs
    unfold W_abacistlaw15_DiskSafe.l19
    refine BIf_dpos (by omega) ?_
    refine (read12 hd (by omega) (j : Int) (by omega) (by omega)).use hs [1] rfl rfl ?_
    rintro _ _ H1 ⟨b, mm, d', hd', hlen, ⟨cc, rfl⟩, rfl⟩ hs
    have e : nowS S (fun _ => none) (j : Int) = satS S j := rfl
    rw [e] at hs hlen
    simp only [DI_int', DB_bool, DS_string, DP_pointer, DSl_slice, DM_map, DA_agg, DTup_tuple, DCons_cons, DNil_nil, NN_some, BIf_true, BIf_false, BIf_same, List.toList_toArray, Bool.not_true, Bool.not_false]
    refine BIf_bnen rfl ?_
    have hs : Sep [Dk p d', pts b (.row (byteVals (satS S j)) 5 mm), own H0, pts b1 (.obj (.cells c1 90)), pts b2 (.obj (.cells c2 90))] H1 := hs
    have hcell : ∀ {L : List As} {H1 : Hp}, Sep L H1 → L[1]? = some (pts b (.row (byteVals (satS S j)) 5 mm)) → Cells H1 (some ⟨b, 0, none⟩) (byteVals (satS S j)) := fun hs h => by
      have := Cells.row (hs.get 1 (b := b) (o := .row (byteVals (satS S j)) 5 mm) h) 0 32
      rw [List.drop_zero, List.take_of_length_le (by rw [byteVals_length]; omega)] at this
      exact this
    refine BsK_of (hcell hs rfl) hlen.symm ⟨by omega, by omega, ?_⟩
    rw [ad]
    try simp only [NN_some, Addr.add_lit', Addr.add_zero, Nat.zero_add, Nat.add_zero]
    refine hs.st 3 (b := b1) (j := j) rfl (by rw [h1.size]; omega) rfl fun H1 hs => ?_
    refine BsK_of (hcell hs rfl) hlen.symm ⟨by omega, by omega, ?_⟩
    rw [Int.toNat_natCast, Nat.mul_one]
    try simp only [NN_some, Addr.add_lit', Addr.add_zero, Nat.zero_add, Nat.add_zero]
    refine hs.st 4 (b := b2) (j := j) rfl (by rw [h2.size]; omega) rfl fun H1 hs => ?_
    rw [i64w (x := (j : Int) + 1) (by omega) (by omega)]
    exact ih (j + 1) (c + 1) d' _ _ H1 (by omega) (by omega) hd' (h1.set (by omega)) (h2.set (by omega)) (hs.re [2, 0, 3, 4] rfl)

theorem j15_ok {c : Nat} {d : D} {S C : Mb} (hcc : c ≤ 200) (hd : On12 S C c d) {H : Hp} (hs : Sep [own H0, Dk p d] H) : W_abacistlaw15_DiskSafe.j15 K A n m A' n' m' (some ⟨p, 0, none⟩) H := by
  unfold W_abacistlaw15_DiskSafe.j15
  have hrd := hd.rd
  have hwr := hd.wr
  have hsy := hd.sy
  have eE : d.syncE = 0 := by unfold D.syncE; rw [hd.calm.down, hd.calm.burns]; rfl
  have eD : d.syncD = d.synced := by unfold D.syncD; rw [hd.calm.down, hd.calm.burns]; rfl
  have hnx := Next.sync hd.ok hd.dom
  refine (Sync_tr (p := p) (d := d) hd.ok (by omega)).use hs [1] rfl rfl ?_
  rintro _ _ H1 ⟨rfl, rfl⟩ hs
  rw [eD] at hs hnx
  rw [eE]
  simp only [DI_int', DB_bool, DS_string, DP_pointer, DSl_slice, DM_map, DA_agg, DTup_tuple, DCons_cons, DNil_nil, NN_some, BIf_true, BIf_false, BIf_same, List.toList_toArray, Bool.not_true, Bool.not_false]
  refine BIf_bnen rfl ?_
  refine hs.nw fun b1 H1 hs => ?_
  refine hs.nw fun b2 H1 hs => ⟨13, ?_⟩
  have hbt := hd.calm.burnt
  have hd2 : On12 (mergeB d.safe d.cache) (fun _ => none) (c + 1) d.synced := by
    have h1 := hnx.rd
    have h2 := hnx.wr
    have h3 := hnx.sy
    refine ⟨hnx.ok, hnx.dom, ⟨?_, ?_⟩, hnx.sec.trans hd.sec, hnx.size.trans hd.size, rfl, rfl, by omega, by omega, by omega⟩
    · show d.burnt.down = false; rw [hbt]; exact hd.calm.down
    · show d.burnt.fuse = 0; rw [hbt]; exact hd.calm.fuse
  exact first_loop K hK hl hn hc hall hn' hks 12 0 (c + 1) d.synced _ _ H1 (by omega) (by omega) hd2 ⟨rfl, fun i hi => by omega⟩ ⟨rfl, fun i hi => by omega⟩ (hs.re [1, 0, 2, 3] rfl)

/-- A disk of twelve sectors, whatever was done with it. -/
structure Any12 (c : Nat) (d : D) : Prop where
  ok : Ok d
  dom : Dom d
  sec : d.sec = 12
  size : d.size = 32
  rd : d.rd ≤ c
  wr : d.wr ≤ c
  sy : d.sy ≤ c

theorem acts_loop {A0 : Option Addr} {n0 m0 : Nat} {l0 : List Act} (hl0 : l0.length = n0) (hn0 : n0 ≤ 40) (hc0 : CellsS 4 H0 A0 (l0.map actRow)) (hall0 : ∀ a ∈ l0, OkA H0 a) :
    ∀ (t j : Nat) (d : D) (H : Hp), j + t = n0 → Any12 j d → Sep [own H0, Dk p d] H → W_abacistlaw15_DiskSafe.l9 K (t + 1) A0 n0 m0 A n m A' n' m' (some ⟨p, 0, none⟩) (j : Int) H := fun t => by
  induction t with
  | zero =>
    intro j d H hj hd hs
    unfold W_abacistlaw15_DiskSafe.l9
    refine BIf_dneg (by omega) ?_
    try simp only [NN_some, Addr.add_lit', Addr.add_zero, Nat.zero_add, Nat.add_zero]
    refine (Fuse_tr (p := p) (d := d) 0).use hs [1] rfl rfl ?_
    rintro _ _ H1 ⟨rfl, rfl⟩ hs
    have hok1 : Ok { d with fuse := (0 : Int).toNat } := Ok.fused hd.ok 0 (by omega)
    try simp only [NN_some, Addr.add_lit', Addr.add_zero, Nat.zero_add, Nat.add_zero]
    refine HCalls.use (Down_s hs 0 rfl) ?_
    simp only [DI_int', DB_bool, DS_string, DP_pointer, DSl_slice, DM_map, DA_agg, DTup_tuple, DCons_cons, DNil_nil, NN_some, BIf_true, BIf_false, BIf_same, List.toList_toArray, Bool.not_true, Bool.not_false]
    have hrd := hd.rd
    have hwr := hd.wr
    have hsy := hd.sy
    cases hdn : d.down with
    | false =>
      refine BIf_neg rfl ?_
      exact j15_ok K hK hl hn hc hall hn' hks (c := 100) (S := d.safe) (C := d.cache) (by omega) ⟨hok1, hd.dom, ⟨hdn, rfl⟩, hd.sec, hd.size, rfl, rfl, by show d.rd ≤ _; omega, by show d.wr ≤ _; omega, by show d.sy ≤ _; omega⟩ (hs.re [1, 0] rfl)
    | true =>
      refine BIf_pos rfl ?_
      refine (Boot_tr (p := p) (d := { d with fuse := (0 : Int).toNat }) hok1 hd.dom hdn .none 0 0 [] rfl (own H0) (fun H h => Cells.nil _ _)).use hs [0, 1] rfl rfl ?_
      rintro _ _ H1 ⟨kk, hkk, rfl, rfl⟩ hs
      simp only [DI_int', DB_bool, DS_string, DP_pointer, DSl_slice, DM_map, DA_agg, DTup_tuple, DCons_cons, DNil_nil, NN_some, BIf_true, BIf_false, BIf_same, List.toList_toArray, Bool.not_true, Bool.not_false]
      have hb := Next.boot hok1 hd.dom hkk []
      exact j15_ok K hK hl hn hc hall hn' hks (c := 100) (S := _) (C := _) (by omega) ⟨hb.ok, hb.dom, ⟨rfl, rfl⟩, hd.sec, hd.size, rfl, rfl, by show d.rd ≤ _; omega, by show d.wr ≤ _; omega, by show d.sy ≤ _; omega⟩ (hs.re [1, 0] rfl)
  | succ t ih =>
    intro j d H hj hd hs
    have hjl : j < l0.length := by omega
    have hOK := hall0 (l0[j]'hjl) (List.getElem_mem _)
    have hrd := hd.rd
    have hwr := hd.wr
    have hsy := hd.sy
    unfold W_abacistlaw15_DiskSafe.l9
    refine BIf_dpos (by omega) ?_
    have hrow : (l0.map actRow)[j]? = some (actRow (l0[j]'hjl)) := by rw [List.getElem?_map, List.getElem?_eq_getElem hjl]; rfl
    refine CellsS.rdA (hc0.le (hs.ow 0 rfl)) hrow rfl rfl (by rw [List.length_map]; omega) ?_
    refine (run_tr (p := p) (d := d) hd.ok hd.dom hd.size ⟨by omega, by omega, by omega⟩ (l0[j]'hjl) (own H0) (fun H h => hOK.le h) hOK.i.2 hOK.n hOK.n').use hs [1, 0] rfl rfl ?_
    rintro _ _ H3 ⟨e, s, d', rfl, rfl, hnx, hef⟩ hs
    simp only [DI_int', DB_bool, DS_string, DP_pointer, DSl_slice, DM_map, DA_agg, DTup_tuple, DCons_cons, DNil_nil, NN_some, BIf_true, BIf_false, BIf_same, List.toList_toArray, Bool.not_true, Bool.not_false]
    rw [i64w (x := (j : Int) + 1) (by omega) (by omega)]
    have h1 := hnx.rd
    have h2 := hnx.wr
    have h3 := hnx.sy
    exact ih (j + 1) d' H3 (by omega) ⟨hnx.ok, hnx.dom, hnx.sec.trans hd.sec, hnx.size.trans hd.size, by omega, by omega, by omega⟩ (hs.re [1, 0] rfl)
end

theorem DiskSafe_ok (A0 : Option Addr) (n0 m0 : Nat) (l0 : List Act) (hl0 : l0.length = n0) (A : Option Addr) (n m : Nat) (l : List Act) (hl : l.length = n) (A' : Option Addr) (n' m' : Nat) (ks : List Bool) (hn' : n' = ks.length) (H : Hp)
    (hc0 : CellsS 4 H A0 (l0.map actRow)) (hall0 : ∀ a ∈ l0, OkA H a) (hc : CellsS 4 H A (l.map actRow)) (hall : ∀ a ∈ l, OkA H a) (hks : Cells H A' (boolVals ks)) :
    HCalls Try.prog 7 #[.slice A0 n0 m0, .slice A n m, .slice A' n' m'] H (Ret (.bool true) H) := by
  apply W_abacistlaw15_DiskSafe.ok
  unfold W_abacistlaw15_DiskSafe
  refine HCalls.use (awake_ok H) ?_
  try simp only [DI_int', DB_bool, DS_string, DP_pointer, DSl_slice, DM_map, DA_agg, DTup_tuple, DCons_cons, DNil_nil, NN_some, BIf_true, BIf_false, BIf_same, List.toList_toArray, Bool.not_true, Bool.not_false]
  refine (few_ok A0 n0 m0 l0 hl0 H hc0).mono ?_
  rintro _ _ ⟨rfl, c, rfl, hf0⟩
  simp only [DI_int', DB_bool, DS_string, DP_pointer, DSl_slice, DM_map, DA_agg, DTup_tuple, DCons_cons, DNil_nil, NN_some, BIf_true, BIf_false, BIf_same, List.toList_toArray, Bool.not_true, Bool.not_false]
  cases c with
  | false => exact BIf_pos rfl ⟨rfl, Hp.le_refl _⟩
  | true =>
    refine BIf_neg rfl ?_
    have hn0 := hf0 rfl
    refine (few_ok A n m l hl _ hc).mono ?_
    rintro _ _ ⟨rfl, c, rfl, hf⟩
    simp only [DI_int', DB_bool, DS_string, DP_pointer, DSl_slice, DM_map, DA_agg, DTup_tuple, DCons_cons, DNil_nil, NN_some, BIf_true, BIf_false, BIf_same, List.toList_toArray, Bool.not_true, Bool.not_false]
    cases c with
    | false => exact BIf_pos rfl ⟨rfl, Hp.le_refl _⟩
    | true =>
      refine BIf_neg rfl ?_
      have hn := hf rfl
      by_cases h40 : n' > 40
      · exact BIf_dpos (by omega) ⟨rfl, Hp.le_refl _⟩
      refine BIf_dneg (by omega) ?_
      refine (New_tr 12 32 (by omega) (by decide) (by omega)).use (Sep.start _) [] rfl rfl ?_
      rintro _ _ H1 ⟨p, rfl, rfl⟩ hs
      simp only [DI_int', DB_bool, DS_string, DP_pointer, DSl_slice, DM_map, DA_agg, DTup_tuple, DCons_cons, DNil_nil, NN_some, BIf_true, BIf_false, BIf_same, List.toList_toArray, Bool.not_true, Bool.not_false]
      refine BIf_neg rfl ⟨n0 + 1, ?_⟩
      have hok : Ok (D.fresh 12 32) := Ok.fresh (by omega) (by decide) (by omega)
      exact acts_loop _ (fun H h => ⟨rfl, h⟩) hl hn hc hall hn' hks hl0 hn0 hc0 hall0 n0 0 (D.fresh 12 32) H1 (by omega) ⟨hok, Dom.fresh 12 32, rfl, rfl, Nat.le_refl _, Nat.le_refl _, Nat.le_refl _⟩ (hs.re [1, 0] rfl)

section
open Go.RowKit Go.ChangeShapes Go.WideShapes Go.ChangeAt
variable {H : Type} {enc : TypeId × Value → H} {W : World}
theorem acts_of {A : Option Addr} {n : Nat} {rows : List (List Value)} (hl : rows.length = n)
    (h : ∀ (i : Nat) (r : List Value), rows[i]? = some r → ∃ a, A = some a ∧ (∀ j v, r[j]? = some v → (Full W).cell? (a.add (i * Try.prog.cellsOf 86 + j)) = some v) ∧ r.length = Try.prog.cellsOf 86 ∧
      ∃ f d' p', DataW.trod enc Try.prog W 0 (fun _ => true) true f 86 r = some (d', p')) : ∃ l : List Act, l.length = n ∧ CellsS 4 (Full W) A (l.map actRow) ∧ ∀ a ∈ l, OkA (Full W) a := by
  have hc : Try.prog.cellsOf 86 = 4 := by kernel_rfl
  refine rows_st hl fun i r hi => ?_
  obtain ⟨a, ha, h1, h2, f, d', p', h3⟩ := h i r hi
  rw [hc] at h1 h2
  refine ⟨a, ha, h1, ?_⟩
  obtain ⟨_, f', h4⟩ := trod_st Try.underlying86 h3
  obtain ⟨x, hx, _⟩ := trod_fint (o := 0) Try.underlying3 (by kernel_rfl) (h4 0 _ rfl)
  obtain ⟨y, hy, wy⟩ := trod_fint (o := 1) Try.underlying3 (by kernel_rfl) (h4 1 _ rfl)
  obtain ⟨B, nB, mB, _, _, hB, tB⟩ := trod_fsl (o := 2) Try.underlying24 (by kernel_rfl) (h4 2 _ rfl)
  obtain ⟨G, nG, mG, _, _, hG, tG⟩ := trod_fsl (o := 3) Try.underlying81 (by kernel_rfl) (h4 3 _ rfl)
  obtain ⟨_, _, _, e1, _, _, bs, hbl, hbc⟩ := trod_bytes Try.underlying24 Try.underlying5 (by kernel_rfl) tB
  obtain ⟨rfl, rfl, rfl⟩ : B = _ ∧ nB = _ ∧ mB = _ := by simpa using e1
  obtain ⟨_, _, _, e2, _, _, gs, hgl, hgc⟩ := trod_bools Try.underlying81 Try.underlying4 (by kernel_rfl) tG
  obtain ⟨rfl, rfl, rfl⟩ : G = _ ∧ nG = _ ∧ mG = _ := by simpa using e2
  exact ⟨⟨x, y, B, nB, mB, bs, G, nG, mG, gs⟩, list4 h2 hx hy hB hG, ⟨hbl.symm, hbc, hgl.symm, hgc, wf_int wy⟩⟩
end

end Go.Proofs.Ytgkdkemhiglpdaa.Dsk
