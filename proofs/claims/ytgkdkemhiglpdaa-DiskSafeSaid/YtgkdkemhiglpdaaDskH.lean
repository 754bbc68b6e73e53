/- The law DiskSafe. -/
import Derived.Test.YtgkdkemhiglpdaaDskG
set_option maxRecDepth 100000
set_option linter.unusedSimpArgs false
set_option linter.unusedVariables false
set_option linter.unnecessarySimpa false
set_option linter.unusedSectionVars false
namespace Go.Proofs.Ytgkdkemhiglpdaa.Dsk
open Go Go.Hw Go.Form Go.Proofs.Ytgkdkemhiglpdaa.W

abbrev Mb := Int → Option (List UInt8)
/-- A disk of twelve sectors whose power stays. -/
structure On12 (S C : Mb) (c : Nat) (d : D) : Prop where
  ok : Ok d
  dom : Dom d
  calm : Calm d
  sec : d.sec = 12
  size : d.size = 32
  safe : d.safe = S
  cache : d.cache = C
  rd : d.rd ≤ c
  wr : d.wr ≤ c
  sy : d.sy ≤ c
def satS (S : Mb) (i : Int) : List UInt8 := (S i).getD (List.replicate 32 0)
def nowS (S C : Mb) (i : Int) : List UInt8 := (C i).getD (satS S i)

theorem On12.now {S C : Mb} {c : Nat} {d : D} (h : On12 S C c d) (i : Int) : d.now i = nowS S C i := by
  unfold D.now D.sat nowS satS
  rw [h.cache, h.safe, h.size]

theorem read12 {p : Nat} {S C : Mb} {c : Nat} {d : D} (h : On12 S C c d) (hc : c ≤ 1000) (i : Int) (h0 : 0 ≤ i) (h1 : i < 12) : Tr Try.prog 38 #[.pointer (some ⟨p, 0, none⟩), .int .i64 i] [Dk p d] fun v M =>
    ∃ b m d', On12 S C (c + 1) d' ∧ (nowS S C i).length = 32 ∧ (∃ cc, v = .tuple #[.slice (some ⟨b, 0, none⟩) 32 cc, .int .i64 0]) ∧ M = [Dk p d', pts b (.row (byteVals (nowS S C i)) 5 m)] := fun H hs => by
  have hrd := h.rd
  have hsec := h.sec
  have hchk : d.chk i = 0 := by
    unfold D.chk
    rw [h.calm.down, if_neg (by simp), if_neg (by omega)]
  have hl : (nowS S C i).length = 32 := by rw [← h.now, h.ok.now, h.size]
  refine (Read_tr (p := p) (d := d) h.ok (by omega) i H hs).mono ?_
  rintro v H' ⟨M, (⟨h2, _⟩ | ⟨_, h2, _⟩ | ⟨_, _, b, cc, m, rfl, hcc, rfl⟩), hM⟩
  · exact absurd hchk h2
  · rw [h.calm.burns] at h2; cases h2
  · have hn := Next.read h.ok h.dom
    rw [h.calm.burnt] at hn hM
    rw [h.now, h.size] at *
    exact ⟨_, ⟨b, m, _, ⟨hn.ok, hn.dom, ⟨h.calm.down, h.calm.fuse⟩, h.sec, h.size, h.safe, h.cache, by show d.rd + 1 ≤ _; omega, by have := h.wr; show d.wr ≤ _; omega, by have := h.sy; show d.sy ≤ _; omega⟩, hl, ⟨cc, rfl⟩, rfl⟩, hM⟩

/-- An array's first cells are known. -/
structure Str12 (c : Array Value) (f : Int → List UInt8) (j : Nat) : Prop where
  size : c.size = 12
  get : ∀ i : Nat, i < j → c[i]? = some (strV (f i))

theorem Str12.set {c : Array Value} {f : Int → List UInt8} {j : Nat} (h : Str12 c f j) (hj : j < 12) : Str12 (c.setIfInBounds j (strV (f j))) f (j + 1) := by
  refine ⟨by simp [h.size], fun i hi => ?_⟩
  rw [Array.getElem?_setIfInBounds]
  by_cases e : j = i
  · subst e; rw [if_pos rfl, if_pos (by rw [h.size]; exact hj)]
  · rw [if_neg e]; exact h.get i (by omega)
theorem Str12.upd {c : Array Value} {f g : Int → List UInt8} (h : Str12 c f 12) (j : Nat) (hj : j < 12) (b : List UInt8) (hg : ∀ i : Nat, g i = if i = j then b else f i) : Str12 (c.setIfInBounds j (strV b)) g 12 := by
  refine ⟨by simp [h.size], fun i hi => ?_⟩
  rw [Array.getElem?_setIfInBounds, hg]
  by_cases e : j = i
  · subst e; rw [if_pos rfl, if_pos (by rw [h.size]; exact hj), if_pos rfl]
  · rw [if_neg e, if_neg (Ne.symm e)]; exact h.get i hi

theorem BIf_two {c : Bool} {X Y : Prop} (hx : X) (hy : Y) : BIf c X Y := by cases c <;> assumption

def arr (b : Nat) (c : Array Value) : As := pts b (.obj (.cells c 90))

theorem ad (b j : Nat) : (Addr.add (⟨b, 0, none⟩ : Addr) (((j : Nat) : Int).toNat * 1)) = ⟨b, j, none⟩ := by
  rw [Int.toNat_natCast, Nat.mul_one, Addr.add_lit', Nat.zero_add]

theorem strV_string (b : List UInt8) : Value.string ⟨b.toArray⟩ = strV b := rfl

/-- The last look at the disk. -/
theorem look_loop (K : Value → Hp → Prop) {H0 : Hp} (hK : ∀ H, H0.le H → K (.bool true) H) {p b1 b2 : Nat} {S S' C : Mb} {c1 c2 : Array Value} (h1 : Str12 c1 (satS S) 12) (h2 : Str12 c2 (nowS S C) 12) (hS : ∀ i, satS S' i = satS S i ∨ satS S' i = nowS S C i) :
    ∀ (t j c : Nat) (d : D) (H : Hp), j + t = 12 → c ≤ 500 + j → On12 S' (fun _ => none) c d → Sep [own H0, Dk p d, arr b1 c1, arr b2 c2] H →
      W_abacistlaw15_DiskSafe.l38 K (t + 1) (some ⟨p, 0, none⟩) ⟨b1, 0, none⟩ ⟨b2, 0, none⟩ (j : Int) H
  | 0, j, c, d, H, hj, hc, hd, hs => by
    unfold W_abacistlaw15_DiskSafe.l38
    refine BIf_dneg (by omega) ?_
    refine (Dirty_tr hd.ok hd.dom).use hs [1] rfl rfl ?_
    rintro _ _ H1 ⟨ks, A, cap, hks, hkl, rfl, rfl⟩ hs
    simp only [DI_int', DB_bool, DS_string, DP_pointer, DSl_slice, DM_map, DA_agg, DTup_tuple, DCons_cons, DNil_nil, NN_some, BIf_true, BIf_false, BIf_same, List.toList_toArray, Bool.not_true, Bool.not_false]
    have hk0 : ks = [] := by
      cases ks with
      | nil => rfl
      | cons k ks =>
        have := (hks.mem k).1 (by simp)
        rw [hd.cache] at this
        cases this
    subst hk0
    exact hK _ (hs.ow 2 rfl)
  | t + 1, j, c, d, H, hj, hc, hd, hs => by
    unfold W_abacistlaw15_DiskSafe.l38
    refine BIf_dpos (by omega) ?_
    refine (read12 hd (by omega) (j : Int) (by omega) (by omega)).use hs [1] rfl rfl ?_
    rintro _ _ H1 ⟨b, m, d', hd', hl, ⟨cc, rfl⟩, rfl⟩ hs
    have e : nowS S' (fun _ => none) (j : Int) = satS S' j := rfl
    rw [e] at hs hl
    simp only [DI_int', DB_bool, DS_string, DP_pointer, DSl_slice, DM_map, DA_agg, DTup_tuple, DCons_cons, DNil_nil, NN_some, BIf_true, BIf_false, BIf_same, List.toList_toArray, Bool.not_true, Bool.not_false]
    refine BIf_bnen rfl ?_
    have hs : Sep [Dk p d', pts b (.row (byteVals (satS S' j)) 5 m), own H0, arr b1 c1, arr b2 c2] H1 := hs
    have hcell : Cells H1 (some ⟨b, 0, none⟩) (byteVals (satS S' j)) := by
      have := Cells.row (hs.get 1 (b := b) (o := .row (byteVals (satS S' j)) 5 m) rfl) 0 32
      rw [List.drop_zero, List.take_of_length_le (by rw [byteVals_length]; omega)] at this
      exact this
    have go : W_abacistlaw15_DiskSafe.l38 K (t + 1) (some ⟨p, 0, none⟩) ⟨b1, 0, none⟩ ⟨b2, 0, none⟩ (IntKind.i64.wrap ((j : Int) + 1)) H1 := by
      rw [i64w (x := (j : Int) + 1) (by omega) (by omega)]
      exact look_loop K hK h1 h2 hS t (j + 1) (c + 1) d' H1 (by omega) (by omega) hd' (hs.re [2, 0, 3, 4] rfl)
    refine BsK_of hcell hl.symm ⟨by omega, by omega, ?_⟩
    rw [ad]
    refine hs.ld 3 (b := b1) (j := j) (v := strV (satS S j)) rfl (by rw [nthV_eq, Array.getElem?_toList]; exact h1.get j (by omega)) ?_
    show DS (.string ⟨(satS S j).toArray⟩) _
    simp only [DI_int', DB_bool, DS_string, DP_pointer, DSl_slice, DM_map, DA_agg, DTup_tuple, DCons_cons, DNil_nil, NN_some, BIf_true, BIf_false, BIf_same, List.toList_toArray, Bool.not_true, Bool.not_false]
    by_cases he : satS S' j = satS S j
    · rw [he]
      exact BIf_neg (by simp) go
    · have hn : satS S' j = nowS S C j := (hS j).resolve_left he
      have fin : BsK H1 (some ⟨b, 0, none⟩) 32 fun s11 => ixI (j : Int) 12 (Ld H1 (Addr.add ⟨b2, 0, none⟩ ((j : Int).toNat * 1)) fun v38 => DS v38 fun s12 => BIf (!(s11.toList == s12.toList)) (K (.bool false) H1) (W_abacistlaw15_DiskSafe.l38 K (t + 1) (some ⟨p, 0, none⟩) ⟨b1, 0, none⟩ ⟨b2, 0, none⟩ (IntKind.i64.wrap ((j : Int) + 1)) H1)) := by
        refine BsK_of hcell hl.symm ⟨by omega, by omega, ?_⟩
        rw [ad]
        refine hs.ld 4 (b := b2) (j := j) (v := strV (nowS S C j)) rfl (by rw [nthV_eq, Array.getElem?_toList]; exact h2.get j (by omega)) ?_
        show DS (.string ⟨(nowS S C j).toArray⟩) _
        simp only [DI_int', DB_bool, DS_string, DP_pointer, DSl_slice, DM_map, DA_agg, DTup_tuple, DCons_cons, DNil_nil, NN_some, BIf_true, BIf_false, BIf_same, List.toList_toArray, Bool.not_true, Bool.not_false]
        rw [hn]
        exact BIf_neg (by simp) go
      exact BIf_two fin go

end Go.Proofs.Ytgkdkemhiglpdaa.Dsk
