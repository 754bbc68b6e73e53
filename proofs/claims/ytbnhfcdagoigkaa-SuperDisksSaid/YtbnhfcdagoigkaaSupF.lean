/- The law SuperDisks. -/
import Derived.Test.YtbnhfcdagoigkaaSupE
set_option maxRecDepth 100000
set_option linter.unusedSimpArgs false
set_option linter.unusedVariables false
set_option linter.unnecessarySimpa false
set_option linter.unusedSectionVars false
namespace Go.Proofs.Ytbnhfcdagoigkaa.Sup
open Go Go.Hw Go.Form Go.Proofs.Ytbnhfcdagoigkaa.W Go.Proofs.Ytbnhfcdagoigkaa.Lay Go.Proofs.Ytbnhfcdagoigkaa.Dsk

theorem Touched_none {p : Nat} {d : D} (ht : d.tch = fun _ => false) : Tr Try.prog 11 #[.pointer (some ⟨p, 3, none⟩)] [Dk p d] fun v M => ∃ A cap, v = .slice A 0 cap ∧ M = [Dk p d] := fun H hs => by
  obtain ⟨r1, r2, r3, hs⟩ := Dk.open hs
  apply W_disk_counts_Touched.ok
  unfold W_disk_counts_Touched
  simp only [NN_some, Addr.add_lit', Addr.add_zero, Nat.zero_add, Nat.add_zero]
  refine hs.ld 0 rfl rfl ?_
  simp only [DI_int', DB_bool, DS_string, DP_pointer, DSl_slice, DM_map, DA_agg, DTup_tuple, DCons_cons, DNil_nil, NN_some, BIf_true, BIf_false, BIf_same, List.toList_toArray, Bool.not_true, Bool.not_false]
  refine (Keys_int r2 H).mono ?_
  rintro _ _ ⟨b, hb, rfl, rfl⟩
  have hs := hs.new hb (.obj (.cells #[.map (some r2)] 37))
  obtain ⟨H1, ⟨l, clock, hr1, hgk⟩, hle⟩ := hs.see 2 rfl
  have hno : ∀ k, tchM d.tch k = none := fun k => by unfold tchM; rw [ht]; rfl
  refine (Sorted_int hgk (N := 1) (by omega) (fun k hk => by rw [hno k] at hk; cases hk) _ (hle _ _ hr1) (hs.get 4 rfl)).mono ?_
  rintro _ _ ⟨ks, hks, hkl, hcase⟩
  have h0 : ks = [] := by
    cases ks with
    | nil => rfl
    | cons k ks =>
      have := (hks.mem k).1 (by simp)
      rw [hno k] at this; cases this
  subst h0
  rcases hcase with ⟨_, rfl, rfl⟩ | ⟨b', cap, rfl, hcap, hn, rfl⟩
  · simp only [DI_int', DB_bool, DS_string, DP_pointer, DSl_slice, DM_map, DA_agg, DTup_tuple, DCons_cons, DNil_nil, NN_some, BIf_true, BIf_false, BIf_same, List.toList_toArray, Bool.not_true, Bool.not_false]
    exact ⟨_, ⟨_, _, rfl, rfl⟩, Dk.shut (hs.re [0, 1, 2, 3] rfl)⟩
  · simp only [DI_int', DB_bool, DS_string, DP_pointer, DSl_slice, DM_map, DA_agg, DTup_tuple, DCons_cons, DNil_nil, NN_some, BIf_true, BIf_false, BIf_same, List.toList_toArray, Bool.not_true, Bool.not_false]
    have hs2 := hs.new hn (.row (([] : List Int).map (Value.int .i64)) 3 cap)
    exact ⟨_, ⟨_, _, rfl, rfl⟩, Dk.shut (hs2.re [0, 1, 2, 3] rfl)⟩

theorem eq_sup {x y : Sb} (hx : ∀ z ∈ sbL x, -9223372036854775808 ≤ z ∧ z ≤ 9223372036854775807) (hy : ∀ z ∈ sbL y, -9223372036854775808 ≤ z ∧ z ≤ 9223372036854775807) {K : Bool → Prop} (k : K (decide (sbL x = sbL y))) :
    EqV Try.prog .eql 23 (.agg (sbV x)) (.agg (sbV y)) K := EqI_eql p_sup (a := sbL x) (b := sbL y) rfl rfl hx hy rfl rfl k

theorem zero_range : ∀ z ∈ sbL ((0, 0, 0, 0) : Sb), -9223372036854775808 ≤ z ∧ z ≤ 9223372036854775807 := by
  intro z hz
  simp [sbL] at hz
  omega

section
variable {k sec s ar : Int} (hg : goodB k sec s ar = true) (hr : ∀ z ∈ sbL ((k, sec, s, ar) : Sb), -9223372036854775808 ≤ z ∧ z ≤ 9223372036854775807) {n zn : Nat} (hn : sec = n) (hz : s = zn)
include hg hr hn hz

theorem rd_sup {d : D} (h1 : d.sec = n) (h2 : d.size = zn) : rdV d (supF k sec s ar) = ((k, sec, s, ar), 0) := by
  have hsec : sec ≤ 9223372036854775807 := (hr sec (by simp [sbL])).2
  unfold rdV
  rw [takeV_supF k sec s ar hg hsec]
  rw [if_neg (by simp), if_pos]
  show decide (sec = (d.sec : Int) ∧ s = (d.size : Int)) = true
  rw [h1, h2]
  simp [hn, hz]
theorem rd_zero {d : D} : rdV d (List.replicate zn 0) = ((0, 0, 0, 0), 10) := by
  have hper : 0 < perN zn := by
    unfold goodB at hg
    simp only [decide_eq_true_eq] at hg
    rw [← hz]; exact hg.2.2.1
  unfold rdV
  rw [takeV_zero zn hper, if_pos (by simp)]

/-- Behind the crash. -/
theorem j23_ok {H0 : Hp} {p bx : Nat} {d : D} {e : Int} {c9 : Bool} (hok : Ok d) (hdom : Dom d) (h1 : d.sec = n) (h2 : d.size = zn) (hrd : d.rd ≤ 100)
    (hc : (e = 0 ∧ d.safe 0 = some (supF k sec s ar) ∧ ∀ i, d.cache i = none) ∨ (e = 8 ∧ d.safe 0 = none ∧ (d.cache 0 = none ∨ d.cache 0 = some (supF k sec s ar)))) {H : Hp}
    (hs : Sep [own H0, Dk p d, pts bx (.obj (.cells (supV k sec s ar) 23))] H) : W_abacistlaw18_SuperDisks.j23 (Ret (.bool true) H0) c9 ⟨bx, 0, none⟩ (some ⟨p, 0, none⟩) e H := by
  unfold W_abacistlaw18_SuperDisks.j23
  try simp only [NN_some, Addr.add_lit', Addr.add_zero, Nat.zero_add, Nat.add_zero]
  refine (Crash_tr (p := p) (d := d)).use hs [1] rfl rfl ?_
  rintro _ _ H1 ⟨rfl, rfl⟩ hs
  have hok1 := Ok.crash hok
  refine (sRead_down (p := p) (d := { d with down := true, fuse := 0 }) hok1 (by show d.rd ≤ _; omega) rfl).use hs [0] rfl rfl ?_
  rintro _ _ H1 ⟨rfl, rfl⟩ hs
  simp only [DI_int', DB_bool, DS_string, DP_pointer, DSl_slice, DM_map, DA_agg, DTup_tuple, DCons_cons, DNil_nil, NN_some, BIf_true, BIf_false, BIf_same, List.toList_toArray, Bool.not_true, Bool.not_false]
  refine hs.nw fun b4 H1 hs => ?_
  refine hs.stw 3 rfl rfl rfl rfl fun H1 hs => ?_
  refine BIf_bnen rfl ?_
  refine hs.nw fun b5 H1 hs => ?_
  refine (Boot_tr (p := p) (d := { d with down := true, fuse := 0 }) hok1 hdom rfl (some ⟨b5, 0, none⟩) 1 1 [c9] rfl (pts b5 (.row [.bool c9] 4 1)) (fun H h => Cells.row h 0 1)).use hs [0, 4] rfl rfl ?_
  rintro _ _ H1 ⟨ks, hks, rfl, rfl⟩ hs
  simp only [DI_int', DB_bool, DS_string, DP_pointer, DSl_slice, DM_map, DA_agg, DTup_tuple, DCons_cons, DNil_nil, NN_some, BIf_true, BIf_false, BIf_same, List.toList_toArray, Bool.not_true, Bool.not_false]
  refine BIf_bnen rfl ?_
  have hok2 := Ok.boot hok1 hks [c9]
  have hsz : (D.boot { d with down := true, fuse := 0 } ks [c9]).size = zn := h2
  have hchk : (D.boot { d with down := true, fuse := 0 } ks [c9]).chk 0 = 0 := by
    have := hok.sec
    unfold D.chk
    rw [if_neg (by show ¬ (false = true); simp), if_neg (by show ¬ ((0 : Int) < 0 ∨ (0 : Int) ≥ (d.sec : Int)); omega)]
  have hor := bootS_or (c := d.cache) ks [c9] d.safe (fun k hm => by have := (hks.mem k).1 hm; rw [strM_some] at this; exact this) 0
  have hnow : (D.boot { d with down := true, fuse := 0 } ks [c9]).now 0 = (bootS d.cache d.safe ks [c9] 0).getD (List.replicate zn 0) := by
    rw [← h2]; rfl
  have hout : (e = 0 ∧ (D.boot { d with down := true, fuse := 0 } ks [c9]).now 0 = supF k sec s ar) ∨ (e = 8 ∧ ((D.boot { d with down := true, fuse := 0 } ks [c9]).now 0 = supF k sec s ar ∨ (D.boot { d with down := true, fuse := 0 } ks [c9]).now 0 = List.replicate zn 0)) := by
    rw [hnow]
    rcases hc with ⟨he, hs0, hc0⟩ | ⟨he, hs0, hc0⟩
    · left
      refine ⟨he, ?_⟩
      rcases hor with h | ⟨h, _⟩
      · rw [h, hs0]; rfl
      · rw [hc0 0] at h; cases h
    · right
      refine ⟨he, ?_⟩
      rcases hor with h | ⟨h, h'⟩
      · right; rw [h, hs0]; rfl
      · left
        rcases hc0 with h0 | h0
        · rw [h0] at h; cases h
        · rw [h', h0]; rfl
  refine (sRead_tr (p := p) (d := D.boot { d with down := true, fuse := 0 } ks [c9]) hok2 (by show d.rd ≤ _; omega) hchk rfl).use hs [0] rfl rfl ?_
  rintro _ _ H1 ⟨rfl, rfl⟩ hs
  simp only [DI_int', DB_bool, DS_string, DP_pointer, DSl_slice, DM_map, DA_agg, DTup_tuple, DCons_cons, DNil_nil, NN_some, BIf_true, BIf_false, BIf_same, List.toList_toArray, Bool.not_true, Bool.not_false]
  refine hs.nw fun b6 H1 hs => ?_
  have hsup : (D.boot { d with down := true, fuse := 0 } ks [c9]).now 0 = supF k sec s ar → rdV (D.boot { d with down := true, fuse := 0 } ks [c9]) ((D.boot { d with down := true, fuse := 0 } ks [c9]).now 0) = ((k, sec, s, ar), 0) := fun h => by
    rw [h]; exact rd_sup hg hr hn hz h1 h2
  have hzer : (D.boot { d with down := true, fuse := 0 } ks [c9]).now 0 = List.replicate zn 0 → rdV (D.boot { d with down := true, fuse := 0 } ks [c9]) ((D.boot { d with down := true, fuse := 0 } ks [c9]).now 0) = ((0, 0, 0, 0), 10) := fun h => by
    rw [h]; exact rd_zero hg hr hn hz
  generalize rdV (D.boot { d with down := true, fuse := 0 } ks [c9]) ((D.boot { d with down := true, fuse := 0 } ks [c9]).now 0) = rv at *
  generalize (D.boot { d with down := true, fuse := 0 } ks [c9]).now 0 = nw at *
  have hs : Sep [Dk p { (D.boot { d with down := true, fuse := 0 } ks [c9]).burnt with rd := (D.boot { d with down := true, fuse := 0 } ks [c9]).rd + 1 }, pts b5 (.row [.bool c9] 4 1), own H0, pts bx (.obj (.cells (supV k sec s ar) 23)), pts b4 (.obj (.cells (supV 0 0 0 0) 23)), pts b6 (.obj (.cells (supV 0 0 0 0) 23))] H1 := hs
  rcases hout with ⟨rfl, h⟩ | ⟨rfl, h | h⟩
  · obtain rfl := hsup h
    refine hs.stw 5 rfl rfl rfl rfl fun H1 hs => ?_
    refine BIf_beqp rfl (BIf_beqp rfl ?_)
    refine hs.ldw 5 rfl rfl ?_
    refine hs.ldw 3 rfl rfl ?_
    refine eq_sup (x := (k, sec, s, ar)) (y := (k, sec, s, ar)) hr hr ?_
    rw [decide_eq_true rfl]
    exact hs.fin 2 rfl _
  · obtain rfl := hsup h
    refine hs.stw 5 rfl rfl rfl rfl fun H1 hs => ?_
    refine BIf_beqn (by omega) (BIf_beqp rfl ?_)
    refine hs.ldw 5 rfl rfl ?_
    refine hs.ldw 3 rfl rfl ?_
    refine eq_sup (x := (k, sec, s, ar)) (y := (k, sec, s, ar)) hr hr ?_
    rw [decide_eq_true rfl]
    exact BIf_pos rfl (hs.fin 2 rfl _)
  · obtain rfl := hzer h
    refine hs.stw 5 rfl rfl rfl rfl fun H1 hs => ?_
    refine BIf_beqn (by omega) (BIf_beqn (by simp) (BIf_beqp rfl ?_))
    refine hs.ldw 5 rfl rfl ?_
    refine eq_sup (x := (0, 0, 0, 0)) (y := (0, 0, 0, 0)) zero_range zero_range ?_
    rw [decide_eq_true rfl]
    exact hs.fin 2 rfl _

theorem j18_ok {H0 : Hp} {p bx : Nat} {d : D} {e : Int} {c9 : Bool} (hok : Ok d) (hdom : Dom d) (h1 : d.sec = n) (h2 : d.size = zn) (hrd : d.rd ≤ 50)
    (hc : (e = 0 ∧ d.safe 0 = some (supF k sec s ar) ∧ ∀ i, d.cache i = none) ∨ (e = 8 ∧ d.safe 0 = none ∧ (d.cache 0 = none ∨ d.cache 0 = some (supF k sec s ar)))) (hdn : e = 0 → d.down = false) {H : Hp}
    (hs : Sep [own H0, Dk p d, pts bx (.obj (.cells (supV k sec s ar) 23))] H) : W_abacistlaw18_SuperDisks.j18 (Ret (.bool true) H0) c9 ⟨bx, 0, none⟩ (some ⟨p, 0, none⟩) e H := by
  unfold W_abacistlaw18_SuperDisks.j18
  by_cases he : e = 0
  · refine BIf_beqp he ?_
    have hdn0 := hdn he
    obtain ⟨_, hs0, hc0⟩ : e = 0 ∧ d.safe 0 = some (supF k sec s ar) ∧ ∀ i, d.cache i = none := hc.resolve_right (by omega)
    try simp only [NN_some, Addr.add_lit', Addr.add_zero, Nat.zero_add, Nat.add_zero]
    refine (Fuse_tr (p := p) (d := d) 0).use hs [1] rfl rfl ?_
    rintro _ _ H1 ⟨rfl, rfl⟩ hs
    have hok1 : Ok { d with fuse := (0 : Int).toNat } := Ok.fused hok 0 (by omega)
    have hchk : ({ d with fuse := (0 : Int).toNat } : D).chk 0 = 0 := by
      have := hok.sec
      unfold D.chk
      rw [if_neg (by show ¬ (d.down = true); rw [hdn0]; simp), if_neg (by show ¬ ((0 : Int) < 0 ∨ (0 : Int) ≥ (d.sec : Int)); omega)]
    have hnow : ({ d with fuse := (0 : Int).toNat } : D).now 0 = supF k sec s ar := by
      unfold D.now D.sat
      show (d.cache 0).getD ((d.safe 0).getD _) = _
      rw [hc0, hs0]; rfl
    refine (sRead_tr (p := p) (d := { d with fuse := (0 : Int).toNat }) hok1 (by show d.rd ≤ _; omega) hchk rfl).use hs [0] rfl rfl ?_
    rintro _ _ H1 ⟨rfl, rfl⟩ hs
    rw [hnow, rd_sup hg hr hn hz (d := { d with fuse := (0 : Int).toNat }) h1 h2]
    simp only [DI_int', DB_bool, DS_string, DP_pointer, DSl_slice, DM_map, DA_agg, DTup_tuple, DCons_cons, DNil_nil, NN_some, BIf_true, BIf_false, BIf_same, List.toList_toArray, Bool.not_true, Bool.not_false]
    refine hs.nw fun b3 H1 hs => ?_
    have hs : Sep [Dk p { d with fuse := 0, rd := d.rd + 1 }, own H0, pts bx (.obj (.cells (supV k sec s ar) 23)), pts b3 (.obj (.cells (supV 0 0 0 0) 23))] H1 := hs
    refine hs.stw 3 rfl rfl rfl rfl fun H1 hs => ?_
    refine BIf_bnen rfl ?_
    refine hs.ldw 3 rfl rfl ?_
    refine hs.ldw 2 rfl rfl ?_
    refine EqI_neq p_sup (a := sbL (k, sec, s, ar)) (b := sbL (k, sec, s, ar)) rfl rfl hr hr rfl rfl ?_
    rw [decide_eq_true rfl]
    refine BIf_neg rfl ?_
    have hok2 : Ok { d with fuse := 0, rd := d.rd + 1 } := ⟨hok.sec, hok.size, hok.big, hok.per, hok.safe, hok.cache, Nat.zero_le _⟩
    exact j23_ok hg hr hn hz hok2 hdom h1 h2 (by show d.rd + 1 ≤ _; omega) hc (hs.re [1, 0, 2] rfl)
  · refine BIf_beqn he ?_
    exact j23_ok hg hr hn hz hok hdom h1 h2 (by omega) hc hs
end

theorem size8 (x : Nat) : ∃ t, t < 8 ∧ 0 ≤ IntKind.u64.wrap (Int.tmod (x : Int) 8) ∧ shlI .i64 32 (IntKind.u64.wrap (Int.tmod (x : Int) 8)) = ((32 * 2 ^ t : Nat) : Int) := by
  refine ⟨x % 8, Nat.mod_lt _ (by omega), ?_⟩
  rw [show Int.tmod (x : Int) 8 = ((x % 8 : Nat) : Int) from rfl]
  have := Nat.mod_lt x (show 0 < 8 by omega)
  generalize x % 8 = t at *
  have ht : t = 0 ∨ t = 1 ∨ t = 2 ∨ t = 3 ∨ t = 4 ∨ t = 5 ∨ t = 6 ∨ t = 7 := by omega
  rcases ht with rfl | rfl | rfl | rfl | rfl | rfl | rfl | rfl <;> decide

theorem per8 {t : Nat} (h : t < 8) : 0 < perN ((32 * 2 ^ t : Nat) : Int) ∧ 32 * 2 ^ t ≤ 4096 := by
  have ht : t = 0 ∨ t = 1 ∨ t = 2 ∨ t = 3 ∨ t = 4 ∨ t = 5 ∨ t = 6 ∨ t = 7 := by omega
  rcases ht with rfl | rfl | rfl | rfl | rfl | rfl | rfl | rfl <;> decide

end Go.Proofs.Ytbnhfcdagoigkaa.Sup
