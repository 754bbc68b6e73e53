/- disk: an act of the law DiskSafe. -/
import Derived.Test.YtgkdkemhiglpdaaDskF
set_option maxRecDepth 100000
set_option linter.unusedSimpArgs false
set_option linter.unusedVariables false
set_option linter.unnecessarySimpa false
set_option linter.unusedSectionVars false
namespace Go.Proofs.Ytgkdkemhiglpdaa.Dsk
open Go Go.Hw Go.Form Go.Proofs.Ytgkdkemhiglpdaa.W

structure Calm (d : D) : Prop where
  down : d.down = false
  fuse : d.fuse = 0

/-- A disk goes on. -/
structure Next (d d' : D) : Prop where
  ok : Ok d'
  dom : Dom d'
  sec : d'.sec = d.sec
  size : d'.size = d.size
  rd : d'.rd ≤ d.rd + 1
  wr : d'.wr ≤ d.wr + 1
  sy : d'.sy ≤ d.sy + 1

section
variable {d : D} (h : Ok d) (hd : Dom d)
include h hd
theorem Next.refl : Next d d := ⟨h, hd, rfl, rfl, by omega, by omega, by omega⟩
theorem Next.burnt : Next d d.burnt := by
  have hb := burnt_rd d
  refine ⟨Ok.burnt h, fun k hk => ?_, hb.2.2.2.2.1, hb.2.2.2.1, by rw [hb.1]; omega, by rw [hb.2.1]; omega, by rw [hb.2.2.1]; omega⟩
  rw [hb.2.2.2.2.2.2.1] at hk
  rw [hb.2.2.2.2.1]; exact hd k hk
theorem Next.read : Next d { d.burnt with rd := d.rd + 1 } := by
  have hb := Next.burnt h hd
  exact ⟨⟨hb.ok.sec, hb.ok.size, hb.ok.big, hb.ok.per, hb.ok.safe, hb.ok.cache, hb.ok.fz⟩, hb.dom, hb.sec, hb.size, Nat.le_refl _, hb.wr, hb.sy⟩
theorem Next.write (i : Int) (bs : List UInt8) : Next d (d.writeD i bs) := by
  have hb := burnt_rd d
  have h1 := Ok.writeD h i bs
  have h2 := Dom.writeD hd i bs
  have hn := Next.burnt h hd
  unfold D.writeD at h1 h2 ⊢
  split
  · exact Next.refl h hd
  · rename_i c1
    rw [if_neg c1] at h1 h2
    split
    · exact Next.refl h hd
    · rename_i c2
      rw [if_neg c2] at h1 h2
      split
      · exact hn
      · rename_i c3
        rw [if_neg c3] at h1 h2
        exact ⟨h1, h2, hn.sec, hn.size, hn.rd, Nat.le_refl _, hn.sy⟩
theorem Next.sync : Next d d.syncD := by
  have hn := Next.burnt h hd
  have hb := burnt_rd d
  unfold D.syncD
  split
  · exact Next.refl h hd
  · split
    · exact hn
    · refine ⟨⟨hn.ok.sec, hn.ok.size, hn.ok.big, hn.ok.per, fun k b hk => ?_, fun k b hk => (by cases hk), hn.ok.fz⟩, fun k hk => (by cases hk), hn.sec, hn.size, hn.rd, hn.wr, Nat.le_refl _⟩
      have hk' : mergeB d.safe d.cache k = some b := hk
      show b.length = d.burnt.size
      rw [hb.2.2.2.1]
      unfold mergeB at hk'
      split at hk'
      · rename_i b' hc; cases hk'; exact h.cache k b hc
      · exact h.safe k b hk'
theorem Next.crash : Next d { d with down := true, fuse := 0 } := ⟨Ok.crash h, hd, rfl, rfl, Nat.le_succ _, Nat.le_succ _, Nat.le_succ _⟩
theorem Next.fused (n : Nat) (hn : n ≤ 9223372036854775807) : Next d { d with fuse := n } := ⟨Ok.fused h n hn, hd, rfl, rfl, Nat.le_succ _, Nat.le_succ _, Nat.le_succ _⟩
theorem Next.boot {ks : List Int} (hk : KeysOf (strM d.cache) ks) (keep : List Bool) : Next d (D.boot d ks keep) := ⟨Ok.boot h hk keep, Dom.boot d ks keep, rfl, rfl, Nat.le_succ _, Nat.le_succ _, Nat.le_succ _⟩
end

/-- What an act does to a disk whose power stays. -/
def Eff (d d' : D) (a : Act) (e : Int) : Prop := Calm d → a.k ≤ 2 → Calm d' ∧ d'.safe = d.safe ∧
  ((0 ≤ a.k ∧ a.k ≤ 1 ∧ e = 0) → (0 ≤ a.i ∧ a.i < d.sec) ∧ d'.cache = updB d.cache a.i (laidB a.b)) ∧ (¬ (0 ≤ a.k ∧ a.k ≤ 1 ∧ e = 0) → d'.cache = d.cache)

theorem Calm.burns {d : D} (h : Calm d) : d.burns = false := by unfold D.burns; rw [h.fuse]; rfl
theorem Calm.burnt {d : D} (h : Calm d) : d.burnt = d := by unfold D.burnt; rw [if_pos h.fuse]

theorem Eff.same {d : D} {a : Act} {e : Int} (h : ¬ (0 ≤ a.k ∧ a.k ≤ 1 ∧ e = 0)) : Eff d d a e := fun hc _ => ⟨hc, rfl, fun h' => absurd h' h, fun _ => rfl⟩
theorem Eff.late {d d' : D} {a : Act} {e : Int} (h : a.k > 2) : Eff d d' a e := fun _ h' => by omega
theorem Eff.write {d : D} {a : Act} (hz : d.size = 32) (hk : 0 ≤ a.k ∧ a.k ≤ 1) : Eff d (d.writeD a.i (laidB a.b)) a (d.writeE a.i 32) := fun hc _ => by
  have hl := laidB_len a.b
  by_cases h0 : d.chk a.i = 0
  · have e1 : d.writeE a.i 32 = 0 := by
      unfold D.writeE
      rw [if_neg (by rw [h0]; simp), if_neg (by omega), hc.burns]; rfl
    have e2 : d.writeD a.i (laidB a.b) = d.wrote a.i (laidB a.b) := by
      unfold D.writeD
      rw [if_neg (by rw [h0]; simp), if_neg (by omega), hc.burns]; rfl
    rw [e1, e2]
    have hb := hc.burnt
    have hr := chk_in h0
    unfold D.wrote
    rw [hb]
    exact ⟨⟨hc.down, hc.fuse⟩, rfl, fun _ => ⟨⟨hr.1, hr.2.1⟩, rfl⟩, fun h => absurd ⟨hk.1, hk.2, rfl⟩ h⟩
  · have e1 : d.writeE a.i 32 = d.chk a.i := by unfold D.writeE; rw [if_pos h0]
    have e2 : d.writeD a.i (laidB a.b) = d := by unfold D.writeD; rw [if_pos h0]
    rw [e1, e2]
    exact ⟨hc, rfl, fun h => absurd h.2.2 h0, fun _ => rfl⟩
theorem Eff.read {d : D} {a : Act} {e : Int} (hk : a.k = 2) : Eff d { d.burnt with rd := d.rd + 1 } a e := fun hc _ => by
  rw [hc.burnt]
  exact ⟨⟨hc.down, hc.fuse⟩, rfl, fun h => by omega, fun _ => rfl⟩
theorem Eff.burnt {d : D} {a : Act} {e : Int} (hk : a.k = 2) : Eff d d.burnt a e := fun hc _ => by
  rw [hc.burnt]
  exact ⟨hc, rfl, fun h => by omega, fun _ => rfl⟩



set_option maxHeartbeats 1000000 in
theorem run_tr {p : Nat} {d : D} (hok : Ok d) (hdom : Dom d) (hz : d.size = 32) (hb : d.rd ≤ 1000 ∧ d.wr ≤ 1000 ∧ d.sy ≤ 1000) (a : Act) (R : As) (hR : ∀ H, R H → OkA H a) (hi : a.i ≤ 9223372036854775807) (hn : a.n = a.b.length) (hn' : a.n' = a.ks.length) :
    Tr Try.prog 34 #[.pointer (some ⟨p, 0, none⟩), .agg #[.int .i64 a.k, .int .i64 a.i, .slice a.A a.n a.m, .slice a.A' a.n' a.m'], .int .i64 32] [Dk p d, R] fun v M =>
      ∃ e s d', v = .tuple #[.int .i64 e, .string s] ∧ M = [Dk p d', R] ∧ Next d d' ∧ Eff d d' a e := fun H hs => by
  apply W_abacistlaw15_run.ok
  unfold W_abacistlaw15_run
  refine hs.nw fun b1 H1 hs => ?_
  refine hs.ld 2 rfl rfl ?_
  simp only [DI_int', DB_bool, DS_string, DP_pointer, DSl_slice, DM_map, DA_agg, DTup_tuple, DCons_cons, DNil_nil, NN_some, BIf_true, BIf_false, BIf_same, List.toList_toArray, Bool.not_true, Bool.not_false]
  have hs : Sep [Dk p d, R, pts b1 (.obj (.cells #[.int .i64 a.k, .int .i64 a.i, .slice a.A a.n a.m, .slice a.A' a.n' a.m'] 86))] H1 := hs
  have none0 : ∀ (H : Hp) (K : ByteArray → Prop), (∀ s, K s) → BsK H .none 0 K := fun H K k => BsK_of (bs := []) (Cells.nil _ _) rfl (k _)
  have wr : 0 ≤ a.k ∧ a.k ≤ 1 → ∀ (b : Nat) (H2 : Hp), Sep [R, pts b (.row (byteVals (laidB a.b)) 5 32), Dk p d, pts b1 (.obj (.cells #[.int .i64 a.k, .int .i64 a.i, .slice a.A a.n a.m, .slice a.A' a.n' a.m'] 86))] H2 →
      HCalls Try.prog 64 #[.pointer (some ⟨p, 0, none⟩), .int .i64 a.i, .slice (some ⟨b, 0, none⟩) 32 32] H2 fun v5 H3 => DI .i64 v5 fun x6 => BsK H3 none 0 fun s1 => ∃ M, (∃ e s d', (.tuple #[.int .i64 x6, .string s1] : Value) = .tuple #[.int .i64 e, .string s] ∧ M = [Dk p d', R] ∧ Next d d' ∧ Eff d d' a e) ∧ Sep M H3 := fun hk b H2 hs => by
    have hl := laidB_len a.b
    refine (Write_tr (p := p) (d := d) hok (by omega) a.i (some ⟨b, 0, none⟩) 32 32 (laidB a.b) hl.symm (pts b (.row (byteVals (laidB a.b)) 5 32)) (fun H h => ?_)).use hs [2, 1] rfl rfl ?_
    · have := Cells.row h 0 32
      rw [List.drop_zero, List.take_of_length_le (by rw [byteVals_length, hl]; omega)] at this
      exact this
    rintro _ _ H3 ⟨rfl, rfl⟩ hs
    simp only [DI_int', DB_bool, DS_string, DP_pointer, DSl_slice, DM_map, DA_agg, DTup_tuple, DCons_cons, DNil_nil, NN_some, BIf_true, BIf_false, BIf_same, List.toList_toArray, Bool.not_true, Bool.not_false]
    exact none0 _ _ fun s => ⟨_, ⟨_, s, _, rfl, rfl, Next.write hok hdom a.i _, Eff.write hz hk⟩, hs.re [0, 2] rfl⟩
  by_cases hk01 : 0 ≤ a.k ∧ a.k ≤ 1
  · have ll : HCalls Try.prog 39 #[.slice a.A a.n a.m, .int .i64 32] H1 fun v4 H2 => DSl v4 fun A4 n4 m4 => HCalls Try.prog 64 #[.pointer (some ⟨p, 0, none⟩), .int .i64 a.i, .slice A4 n4 m4] H2 fun v5 H3 => DI .i64 v5 fun x6 => BsK H3 none 0 fun s1 => ∃ M, (∃ e s d', (.tuple #[.int .i64 x6, .string s1] : Value) = .tuple #[.int .i64 e, .string s] ∧ M = [Dk p d', R] ∧ Next d d' ∧ Eff d d' a e) ∧ Sep M H3 := by
      refine (laid_tr a.A a.n a.m a.b hn R (fun H h => (hR H h).b)).use hs [1] rfl rfl ?_
      rintro _ _ H2 ⟨b, rfl, rfl⟩ hs
      simp only [DI_int', DB_bool, DS_string, DP_pointer, DSl_slice, DM_map, DA_agg, DTup_tuple, DCons_cons, DNil_nil, NN_some, BIf_true, BIf_false, BIf_same, List.toList_toArray, Bool.not_true, Bool.not_false]
      exact wr hk01 b H2 (hs.re [0, 1, 2, 3] rfl)
    by_cases k0 : a.k = 0
    · refine BIf_beqp k0 (BIf_beqp k0 ?_)
      refine ⟨?_, ?_⟩
      · refine hs.ld 2 rfl rfl ?_
        simp only [DI_int', DB_bool, DS_string, DP_pointer, DSl_slice, DM_map, DA_agg, DTup_tuple, DCons_cons, DNil_nil, NN_some, BIf_true, BIf_false, BIf_same, List.toList_toArray, Bool.not_true, Bool.not_false]
        refine hs.ld 2 rfl rfl ?_
        simp only [DI_int', DB_bool, DS_string, DP_pointer, DSl_slice, DM_map, DA_agg, DTup_tuple, DCons_cons, DNil_nil, NN_some, BIf_true, BIf_false, BIf_same, List.toList_toArray, Bool.not_true, Bool.not_false]
        exact ll
      · refine hs.ld 2 rfl rfl ?_
        simp only [DI_int', DB_bool, DS_string, DP_pointer, DSl_slice, DM_map, DA_agg, DTup_tuple, DCons_cons, DNil_nil, NN_some, BIf_true, BIf_false, BIf_same, List.toList_toArray, Bool.not_true, Bool.not_false]
        refine ⟨?_, ?_⟩
        · refine hs.ld 2 rfl rfl ?_
          simp only [DI_int', DB_bool, DS_string, DP_pointer, DSl_slice, DM_map, DA_agg, DTup_tuple, DCons_cons, DNil_nil, NN_some, BIf_true, BIf_false, BIf_same, List.toList_toArray, Bool.not_true, Bool.not_false]
          exact ll
        · refine (laid_tr a.A a.n a.m a.b hn R (fun H h => (hR H h).b)).use hs [1] rfl rfl ?_
          rintro _ _ H2 ⟨b, rfl, rfl⟩ hs
          simp only [DI_int', DB_bool, DS_string, DP_pointer, DSl_slice, DM_map, DA_agg, DTup_tuple, DCons_cons, DNil_nil, NN_some, BIf_true, BIf_false, BIf_same, List.toList_toArray, Bool.not_true, Bool.not_false]
          refine hs.ld 3 rfl rfl ?_
          simp only [DI_int', DB_bool, DS_string, DP_pointer, DSl_slice, DM_map, DA_agg, DTup_tuple, DCons_cons, DNil_nil, NN_some, BIf_true, BIf_false, BIf_same, List.toList_toArray, Bool.not_true, Bool.not_false]
          exact wr (by omega) b H2 (hs.re [0, 1, 2, 3] rfl)
    · refine BIf_beqn k0 (BIf_beqp (by omega) ?_)
      refine ⟨?_, ?_⟩
      · refine hs.ld 2 rfl rfl ?_
        simp only [DI_int', DB_bool, DS_string, DP_pointer, DSl_slice, DM_map, DA_agg, DTup_tuple, DCons_cons, DNil_nil, NN_some, BIf_true, BIf_false, BIf_same, List.toList_toArray, Bool.not_true, Bool.not_false]
        refine hs.ld 2 rfl rfl ?_
        simp only [DI_int', DB_bool, DS_string, DP_pointer, DSl_slice, DM_map, DA_agg, DTup_tuple, DCons_cons, DNil_nil, NN_some, BIf_true, BIf_false, BIf_same, List.toList_toArray, Bool.not_true, Bool.not_false]
        exact ll
      · refine hs.ld 2 rfl rfl ?_
        simp only [DI_int', DB_bool, DS_string, DP_pointer, DSl_slice, DM_map, DA_agg, DTup_tuple, DCons_cons, DNil_nil, NN_some, BIf_true, BIf_false, BIf_same, List.toList_toArray, Bool.not_true, Bool.not_false]
        refine ⟨?_, ?_⟩
        · refine hs.ld 2 rfl rfl ?_
          simp only [DI_int', DB_bool, DS_string, DP_pointer, DSl_slice, DM_map, DA_agg, DTup_tuple, DCons_cons, DNil_nil, NN_some, BIf_true, BIf_false, BIf_same, List.toList_toArray, Bool.not_true, Bool.not_false]
          exact ll
        · refine (laid_tr a.A a.n a.m a.b hn R (fun H h => (hR H h).b)).use hs [1] rfl rfl ?_
          rintro _ _ H2 ⟨b, rfl, rfl⟩ hs
          simp only [DI_int', DB_bool, DS_string, DP_pointer, DSl_slice, DM_map, DA_agg, DTup_tuple, DCons_cons, DNil_nil, NN_some, BIf_true, BIf_false, BIf_same, List.toList_toArray, Bool.not_true, Bool.not_false]
          refine hs.ld 3 rfl rfl ?_
          simp only [DI_int', DB_bool, DS_string, DP_pointer, DSl_slice, DM_map, DA_agg, DTup_tuple, DCons_cons, DNil_nil, NN_some, BIf_true, BIf_false, BIf_same, List.toList_toArray, Bool.not_true, Bool.not_false]
          exact wr (by omega) b H2 (hs.re [0, 1, 2, 3] rfl)
  refine BIf_beqn (by omega) (BIf_beqn (by omega) ?_)
  by_cases k2 : a.k = 2
  · refine BIf_beqp k2 ?_
    refine hs.ld 2 rfl rfl ?_
    simp only [DI_int', DB_bool, DS_string, DP_pointer, DSl_slice, DM_map, DA_agg, DTup_tuple, DCons_cons, DNil_nil, NN_some, BIf_true, BIf_false, BIf_same, List.toList_toArray, Bool.not_true, Bool.not_false]
    refine (Read_tr (p := p) (d := d) hok (by omega) a.i).use hs [0] rfl rfl ?_
    rintro _ _ H2 (⟨h, rfl, rfl⟩ | ⟨_, h, rfl, rfl⟩ | ⟨_, _, b2, c, m, rfl, hcm, rfl⟩) hs
    · simp only [DI_int', DB_bool, DS_string, DP_pointer, DSl_slice, DM_map, DA_agg, DTup_tuple, DCons_cons, DNil_nil, NN_some, BIf_true, BIf_false, BIf_same, List.toList_toArray, Bool.not_true, Bool.not_false]
      exact none0 _ _ fun s => ⟨_, ⟨_, s, _, rfl, rfl, Next.refl hok hdom, Eff.same (by omega)⟩, hs.re [0, 1] rfl⟩
    · simp only [DI_int', DB_bool, DS_string, DP_pointer, DSl_slice, DM_map, DA_agg, DTup_tuple, DCons_cons, DNil_nil, NN_some, BIf_true, BIf_false, BIf_same, List.toList_toArray, Bool.not_true, Bool.not_false]
      exact none0 _ _ fun s => ⟨_, ⟨_, s, _, rfl, rfl, Next.burnt hok hdom, Eff.burnt k2⟩, hs.re [0, 1] rfl⟩
    · simp only [DI_int', DB_bool, DS_string, DP_pointer, DSl_slice, DM_map, DA_agg, DTup_tuple, DCons_cons, DNil_nil, NN_some, BIf_true, BIf_false, BIf_same, List.toList_toArray, Bool.not_true, Bool.not_false]
      have hnow := hok.now a.i
      have hcell : Cells H2 (some ⟨b2, 0, none⟩) (byteVals (d.now a.i)) := by
        have := Cells.row (hs.get 1 (b := b2) (o := .row (byteVals (d.now a.i)) 5 m) rfl) 0 d.size
        rw [List.drop_zero, List.take_of_length_le (by rw [byteVals_length]; omega)] at this
        exact this
      refine BsK_of hcell hnow.symm ?_
      exact ⟨_, ⟨_, _, _, rfl, rfl, Next.read hok hdom, Eff.read k2⟩, hs.re [0, 2] rfl⟩
  refine BIf_beqn k2 ?_
  by_cases k3 : a.k = 3
  · refine BIf_beqp k3 ?_
    refine (Sync_tr (p := p) (d := d) hok (by omega)).use hs [0] rfl rfl ?_
    rintro _ _ H2 ⟨rfl, rfl⟩ hs
    simp only [DI_int', DB_bool, DS_string, DP_pointer, DSl_slice, DM_map, DA_agg, DTup_tuple, DCons_cons, DNil_nil, NN_some, BIf_true, BIf_false, BIf_same, List.toList_toArray, Bool.not_true, Bool.not_false]
    exact none0 _ _ fun s => ⟨_, ⟨_, s, _, rfl, rfl, Next.sync hok hdom, Eff.late (by omega)⟩, hs.re [0, 1] rfl⟩
  refine BIf_beqn k3 ?_
  by_cases k4 : a.k = 4
  · refine BIf_beqp k4 ?_
    try simp only [NN_some, Addr.add_lit', Addr.add_zero, Nat.zero_add, Nat.add_zero]
    refine (Crash_tr (p := p) (d := d)).use hs [0] rfl rfl ?_
    rintro _ _ H2 ⟨rfl, rfl⟩ hs
    exact none0 _ _ fun s => ⟨_, ⟨_, s, _, rfl, rfl, Next.crash hok hdom, Eff.late (by omega)⟩, hs.re [0, 1] rfl⟩
  refine BIf_beqn k4 ?_
  by_cases k5 : a.k = 5
  · refine BIf_beqp k5 (BIf_beqp k5 ?_)
    refine hs.ld 2 rfl rfl ?_
    simp only [DI_int', DB_bool, DS_string, DP_pointer, DSl_slice, DM_map, DA_agg, DTup_tuple, DCons_cons, DNil_nil, NN_some, BIf_true, BIf_false, BIf_same, List.toList_toArray, Bool.not_true, Bool.not_false]
    cases hdn : d.down with
    | false =>
      refine HCalls.use (Boot_up hdn a.A' a.n' a.m' hs 0 rfl) ?_
      try simp only [DI_int', DB_bool, DS_string, DP_pointer, DSl_slice, DM_map, DA_agg, DTup_tuple, DCons_cons, DNil_nil, NN_some, BIf_true, BIf_false, BIf_same, List.toList_toArray, Bool.not_true, Bool.not_false]
      exact none0 _ _ fun s => ⟨_, ⟨_, s, _, rfl, rfl, Next.refl hok hdom, Eff.late (by omega)⟩, hs.re [0, 1] rfl⟩
    | true =>
      refine (Boot_tr (p := p) (d := d) hok hdom hdn a.A' a.n' a.m' a.ks hn' R (fun H h => (hR H h).ks)).use hs [0, 1] rfl rfl ?_
      rintro _ _ H2 ⟨ks, hks, rfl, rfl⟩ hs
      simp only [DI_int', DB_bool, DS_string, DP_pointer, DSl_slice, DM_map, DA_agg, DTup_tuple, DCons_cons, DNil_nil, NN_some, BIf_true, BIf_false, BIf_same, List.toList_toArray, Bool.not_true, Bool.not_false]
      exact none0 _ _ fun s => ⟨_, ⟨_, s, _, rfl, rfl, Next.boot hok hdom hks a.ks, Eff.late (by omega)⟩, hs.re [0, 1] rfl⟩
  refine BIf_beqn k5 ?_
  by_cases k6 : a.k = 6
  · refine BIf_beqp k6 ?_
    refine hs.ld 2 rfl rfl ?_
    simp only [DI_int', DB_bool, DS_string, DP_pointer, DSl_slice, DM_map, DA_agg, DTup_tuple, DCons_cons, DNil_nil, NN_some, BIf_true, BIf_false, BIf_same, List.toList_toArray, Bool.not_true, Bool.not_false]
    cases hdn : d.down with
    | false =>
      refine HCalls.use (Boot_up hdn a.A' a.n' a.m' hs 0 rfl) ?_
      try simp only [DI_int', DB_bool, DS_string, DP_pointer, DSl_slice, DM_map, DA_agg, DTup_tuple, DCons_cons, DNil_nil, NN_some, BIf_true, BIf_false, BIf_same, List.toList_toArray, Bool.not_true, Bool.not_false]
      exact none0 _ _ fun s => ⟨_, ⟨_, s, _, rfl, rfl, Next.refl hok hdom, Eff.late (by omega)⟩, hs.re [0, 1] rfl⟩
    | true =>
      refine (Boot_tr (p := p) (d := d) hok hdom hdn a.A' a.n' a.m' a.ks hn' R (fun H h => (hR H h).ks)).use hs [0, 1] rfl rfl ?_
      rintro _ _ H2 ⟨ks, hks, rfl, rfl⟩ hs
      simp only [DI_int', DB_bool, DS_string, DP_pointer, DSl_slice, DM_map, DA_agg, DTup_tuple, DCons_cons, DNil_nil, NN_some, BIf_true, BIf_false, BIf_same, List.toList_toArray, Bool.not_true, Bool.not_false]
      exact none0 _ _ fun s => ⟨_, ⟨_, s, _, rfl, rfl, Next.boot hok hdom hks a.ks, Eff.late (by omega)⟩, hs.re [0, 1] rfl⟩
  refine BIf_beqn k6 ?_
  by_cases k7 : a.k = 7
  · refine BIf_beqp k7 ?_
    try simp only [NN_some, Addr.add_lit', Addr.add_zero, Nat.zero_add, Nat.add_zero]
    refine hs.ld 2 rfl rfl ?_
    simp only [DI_int', DB_bool, DS_string, DP_pointer, DSl_slice, DM_map, DA_agg, DTup_tuple, DCons_cons, DNil_nil, NN_some, BIf_true, BIf_false, BIf_same, List.toList_toArray, Bool.not_true, Bool.not_false]
    refine (Fuse_tr (p := p) (d := d) a.i).use hs [0] rfl rfl ?_
    rintro _ _ H2 ⟨rfl, rfl⟩ hs
    exact none0 _ _ fun s => ⟨_, ⟨_, s, _, rfl, rfl, Next.fused hok hdom _ (by omega), Eff.late (by omega)⟩, hs.re [0, 1] rfl⟩
  refine BIf_beqn k7 ?_
  by_cases k8 : a.k = 8
  · refine BIf_beqp k8 ?_
    refine hs.ld 2 rfl rfl ?_
    simp only [DI_int', DB_bool, DS_string, DP_pointer, DSl_slice, DM_map, DA_agg, DTup_tuple, DCons_cons, DNil_nil, NN_some, BIf_true, BIf_false, BIf_same, List.toList_toArray, Bool.not_true, Bool.not_false]
    refine hs.ld 2 rfl rfl ?_
    simp only [DI_int', DB_bool, DS_string, DP_pointer, DSl_slice, DM_map, DA_agg, DTup_tuple, DCons_cons, DNil_nil, NN_some, BIf_true, BIf_false, BIf_same, List.toList_toArray, Bool.not_true, Bool.not_false]
    refine (Write_tr (p := p) (d := d) hok (by omega) a.i a.A a.n a.m a.b hn R (fun H h => (hR H h).b)).use hs [0, 1] rfl rfl ?_
    rintro _ _ H2 ⟨rfl, rfl⟩ hs
    simp only [DI_int', DB_bool, DS_string, DP_pointer, DSl_slice, DM_map, DA_agg, DTup_tuple, DCons_cons, DNil_nil, NN_some, BIf_true, BIf_false, BIf_same, List.toList_toArray, Bool.not_true, Bool.not_false]
    exact none0 _ _ fun s => ⟨_, ⟨_, s, _, rfl, rfl, Next.write hok hdom a.i _, Eff.late (by omega)⟩, hs.re [0, 1] rfl⟩
  refine BIf_beqn k8 ?_
  exact none0 _ _ fun s => ⟨_, ⟨_, s, _, rfl, rfl, Next.refl hok hdom, Eff.same (by omega)⟩, hs.re [0, 1] rfl⟩

end Go.Proofs.Ytgkdkemhiglpdaa.Dsk
