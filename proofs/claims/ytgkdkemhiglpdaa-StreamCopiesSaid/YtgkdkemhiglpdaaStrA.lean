/- stream: pipes; a sector's words loaded and stored. -/
import Derived.Test.YtgkdkemhiglpdaaAreT
import Derived.Test.YtgkdkemhiglpdaaDskB
import Derived.Test.YtgkdkemhiglpdaaLayB
import Derived.Test.YtgkdkemhiglpdaaFormB
import Derived.Test.YtgkdkemhiglpdaaHwV
import Derived.Test.YtgkdkemhiglpdaaWstream
set_option maxRecDepth 100000
set_option linter.unusedSimpArgs false
set_option linter.unusedVariables false
set_option linter.unnecessarySimpa false
set_option linter.unusedSectionVars false
namespace Go.Proofs.Ytgkdkemhiglpdaa.Str
open Go Go.Hw Go.Form Go.Proofs.Ytgkdkemhiglpdaa.W Go.Proofs.Ytgkdkemhiglpdaa.Dsk Go.Proofs.Ytgkdkemhiglpdaa.Are

/-- An extent. -/
structure X where
  f : Nat
  s : Nat
  w : Nat

/-- A pipe's cells. -/
def pipO (dp ap : Nat) (x : X) : AO := .obj (.cells #[.pointer (some ⟨dp, 0, none⟩), .pointer (some ⟨ap, 0, none⟩), .int .i64 x.f, .int .i64 x.s, .int .i64 x.w] 119)
def D.per (d : D) : Nat := d.size / 8

/-- Is the extent on the disk? -/
structure On (d : D) (x : X) : Prop where
  w1 : 1 ≤ x.w
  s1 : 1 ≤ x.s
  fit : x.f + x.s ≤ d.sec
  room : x.w ≤ x.s * D.per d

theorem Ok.per_le {d : D} (h : Ok d) : 4 ≤ D.per d ∧ D.per d ≤ 512 ∧ 8 * D.per d = d.size := by
  have h1 := h.size
  have h2 := h.per
  unfold D.per
  omega

section
variable {L : List As} {H : Hp} {p dp ap : Nat} {d : D} {x : X}
theorem pipe_get (h : Sep L H) (i : Nat) (hi : L[i]? = some (pts p (pipO dp ap x))) : H p = some (pipO dp ap x) := h.get i hi

theorem per_s (h : Sep L H) (i j : Nat) (hi : L[i]? = some (pts p (pipO dp ap x))) (hj : L[j]? = some (Dk dp d)) (hok : Ok d) : HCalls Try.prog 57 #[.pointer (some ⟨p, 0, none⟩)] H (RetE (.int .i64 (D.per d : Int)) H) := by
  have hsz := hok.size
  apply W_stream_means_per.ok
  unfold W_stream_means_per
  simp only [NN_some, Addr.add_lit', Addr.add_zero, Nat.zero_add, Nat.add_zero]
  refine Ld_obj (h.get i hi) (v := .pointer (some ⟨dp, 0, none⟩)) rfl ?_
  simp only [DI_int', DB_bool, DS_string, DP_pointer, DSl_slice, DM_map, DA_agg, DTup_tuple, DCons_cons, DNil_nil, NN_some, BIf_true, BIf_false, BIf_same, List.toList_toArray, Bool.not_true, Bool.not_false]
  try simp only [NN_some, Addr.add_lit', Addr.add_zero, Nat.zero_add, Nat.add_zero]
  refine HCalls.use (Size_s h j hj) ?_
  try simp only [DI_int', DB_bool, DS_string, DP_pointer, DSl_slice, DM_map, DA_agg, DTup_tuple, DCons_cons, DNil_nil, NN_some, BIf_true, BIf_false, BIf_same, List.toList_toArray, Bool.not_true, Bool.not_false]
  refine ⟨by decide, by simp, RetE.of ?_⟩
  rw [show Int.tdiv (d.size : Int) 8 = ((d.size / 8 : Nat) : Int) from rfl, i64n (by omega)]
  rfl
theorem words_s (h : Sep L H) (i : Nat) (hi : L[i]? = some (pts p (pipO dp ap x))) : HCalls Try.prog 54 #[.pointer (some ⟨p, 0, none⟩)] H (RetE (.int .i64 (x.w : Int)) H) := by
  apply W_stream_Pipe_Words.ok
  unfold W_stream_Pipe_Words
  simp only [NN_some, Addr.add_lit', Addr.add_zero, Nat.zero_add, Nat.add_zero]
  refine Ld_obj (h.get i hi) (v := .int .i64 x.w) rfl ?_
  simp only [DI_int', DB_bool, DS_string, DP_pointer, DSl_slice, DM_map, DA_agg, DTup_tuple, DCons_cons, DNil_nil, NN_some, BIf_true, BIf_false, BIf_same, List.toList_toArray, Bool.not_true, Bool.not_false]
  exact RetE.mk _ _
end

/-- The words of bytes. -/
def wordsB (bs : List UInt8) : List UInt64 := (List.range (bs.length / 8)).map fun i => UInt64.ofNat (wordN bs (8 * i))
theorem wordsB_len (bs : List UInt8) : (wordsB bs).length = bs.length / 8 := by simp [wordsB]
theorem wordsB_get (bs : List UInt8) (i : Nat) (h : i < bs.length / 8) : (wordsB bs)[i]? = some (UInt64.ofNat (wordN bs (8 * i))) := by
  unfold wordsB
  rw [List.getElem?_map, List.getElem?_range h]; rfl

theorem form_inj : ∀ {a b : List UInt64}, a.length = b.length → form a = form b → a = b
  | [], [], _, _ => rfl
  | x :: a, y :: b, hl, h => by
    have h' : formW x ++ form a = formW y ++ form b := h
    obtain ⟨h1, h2⟩ := List.append_inj h' (by rw [formW_length, formW_length])
    have e1 : x = y := by
      have := congrArg leN h1
      rw [leN_formW, leN_formW] at this
      exact UInt64.toNat_inj.1 this
    rw [e1, form_inj (by simpa using hl) h2]
  | [], _ :: _, hl, _ => by simp at hl
  | _ :: _, [], hl, _ => by simp at hl

theorem wordsB_form (l : List UInt64) : wordsB (form l) = l := by
  apply List.ext_getElem?
  intro i
  by_cases h : i < l.length
  · rw [wordsB_get _ _ (by rw [form_length]; omega)]
    have := wordN_form h []
    rw [List.append_nil] at this
    rw [this, List.getElem?_eq_getElem h]
    simp
  · rw [List.getElem?_eq_none (by rw [wordsB_len, form_length]; omega), List.getElem?_eq_none (by omega)]

/-- A disk whose power stays. -/
structure Calm (d : D) : Prop where
  down : d.down = false
  fuse : d.fuse = 0

theorem Calm.chk {d : D} (h : Calm d) {i : Int} (h0 : 0 ≤ i) (h1 : i < d.sec) : d.chk i = 0 := by
  unfold D.chk
  rw [h.down, if_neg (by simp), if_neg (by omega)]
theorem Calm.burns {d : D} (h : Calm d) : d.burns = false := by unfold D.burns; rw [h.fuse]; rfl
theorem Calm.burnt {d : D} (h : Calm d) : d.burnt = d := by unfold D.burnt; rw [if_pos h.fuse]

def D.more (d : D) : D := { d with rd := d.rd + 1 }

theorem readC_tr {p : Nat} {d : D} (hok : Ok d) (hc : Calm d) (ho : d.rd ≤ 4611686018427387904) (i : Int) (h0 : 0 ≤ i) (h1 : i < d.sec) : Tr Try.prog 38 #[.pointer (some ⟨p, 0, none⟩), .int .i64 i] [Dk p d] fun v M =>
    ∃ b c m, v = .tuple #[.slice (some ⟨b, 0, none⟩) d.size c, .int .i64 0] ∧ d.size ≤ c ∧ M = [Dk p (D.more d), pts b (.row (byteVals (d.now i)) 5 m)] := fun H hs =>
  (Read_tr hok ho i H hs).mono fun v H' ⟨M, hq, hM⟩ => by
    rcases hq with ⟨h, _⟩ | ⟨_, h, _⟩ | ⟨_, _, b, c, m, h2, h3, h4⟩
    · exact absurd (hc.chk h0 h1) h
    · rw [hc.burns] at h; cases h
    · rw [hc.burnt] at h4
      exact ⟨M, ⟨b, c, m, h2, h3, h4⟩, hM⟩

theorem load_loop (K : Value → Hp → Prop) (A : Option Addr) (n c : Nat) (bs : List UInt8) (hn : n = bs.length) (hnc : n ≤ c) (hn2 : n ≤ 4096) (rb per m : Nat) (hper : 8 * per = n) {L : List As} (i : Nat)
    (hK : ∀ H, Sep (L.set i (pts rb (.row (wordVals (wordsB bs)) 94 m))) H → K (.int .i64 0) H) (hb : ∀ xs H, Sep (L.set i (pts rb (.row xs 94 m))) H → Cells H A (byteVals bs)) (hi : i < L.length) : ∀ (d j : Nat) (xs : List Value) (H : Hp), j + d = per → xs.length = per → xs.take j = (wordVals (wordsB bs)).take j →
      Sep (L.set i (pts rb (.row xs 94 m))) H → W_stream_means_load.l6 K (d + 1) A n c (some ⟨rb, 0, none⟩) per per (per : Int) (j : Int) H
  | 0, j, xs, H, hj, hl, hx, hs => by
    unfold W_stream_means_load.l6
    refine BIf_dneg (by omega) (hK H ?_)
    rw [List.take_of_length_le (by omega), List.take_of_length_le (by rw [wordVals_length, wordsB_len]; omega)] at hx
    rw [← hx]; exact hs
  | d + 1, j, xs, H, hj, hl, hx, hs => by
    unfold W_stream_means_load.l6
    refine BIf_dpos (by omega) ?_
    refine HCalls.use (FormP.Word_ok A n c hnc (by omega) bs hn j (by omega) H (hb xs H hs)) ?_
    try simp only [DI_int', DB_bool, DS_string, DP_pointer, DSl_slice, DM_map, DA_agg, DTup_tuple, DCons_cons, DNil_nil, NN_some, BIf_true, BIf_false, BIf_same, List.toList_toArray, Bool.not_true, Bool.not_false]
    refine ⟨by omega, by omega, ?_⟩
    rw [Int.toNat_natCast, Nat.mul_one]
    show St H _ _ _
    rw [Addr.add_lit', Nat.zero_add, Addr.add_zero]
    refine hs.str i (b := rb) (xs := xs) (e := 94) (m := m) (by rw [List.getElem?_set]; simp [hi]) (by omega) rfl fun H hs => ?_
    rw [List.set_set] at hs
    rw [i64w (x := (j : Int) + 1) (by omega) (by omega)]
    refine load_loop K A n c bs hn hnc hn2 rb per m hper i hK hb hi d (j + 1) _ H (by omega) (by rw [List.length_set]; exact hl) ?_ hs
    have hw : (wordVals (wordsB bs))[j]? = some (.int .u64 (wordN bs (8 * j) : Nat)) := by
      rw [wordVals_get, wordsB_get _ _ (by omega)]
      simp only [Option.map_some]
      rw [UInt64.toNat_ofNat_of_lt' (wordN_lt bs (8 * j))]
    obtain ⟨hlt, hg⟩ := List.getElem?_eq_some_iff.1 hw
    rw [List.take_succ_eq_append_getElem hlt, hg, ← hx, List.take_succ_eq_append_getElem (by rw [List.length_set]; omega), List.take_set_of_le (by omega), List.getElem_set_self]

/-- A sector's words come into a buffer. -/
theorem load_tr {p dp ap : Nat} {d : D} {x : X} {cap peak : Int} {bufs : List (Nat × Nat × Option Addr)} {b rb m : Nat} {xs : List Value} (hok : Ok d) (hc : Calm d) (ho : d.rd ≤ 4611686018427387904) (i : Int) (h0 : 0 ≤ i) (h1 : i < d.sec)
    (hbm : (b, D.per d, some ⟨rb, 0, none⟩) ∈ bufs) (hxs : xs.length = D.per d) :
    Tr Try.prog 59 #[.pointer (some ⟨p, 0, none⟩), .int .i64 i, .pointer (some ⟨b, 0, none⟩)] [pts p (pipO dp ap x), Dk dp d, Ar ap cap peak bufs, pts rb (.row xs 94 m)] fun v M =>
      v = .int .i64 0 ∧ M = [pts p (pipO dp ap x), Dk dp (D.more d), Ar ap cap peak bufs, pts rb (.row (wordVals (wordsB (d.now i))) 94 m)] := fun H hs => by
  have hp := Ok.per_le hok
  have hnow := hok.now i
  have hsz := hok.size
  apply W_stream_means_load.ok
  unfold W_stream_means_load
  simp only [NN_some, Addr.add_lit', Addr.add_zero, Nat.zero_add, Nat.add_zero]
  refine hs.ld 0 rfl rfl ?_
  simp only [DI_int', DB_bool, DS_string, DP_pointer, DSl_slice, DM_map, DA_agg, DTup_tuple, DCons_cons, DNil_nil, NN_some, BIf_true, BIf_false, BIf_same, List.toList_toArray, Bool.not_true, Bool.not_false]
  refine (readC_tr hok hc ho i h0 h1).use hs [1] rfl rfl ?_
  rintro _ _ H ⟨br, c, mr, rfl, hcc, rfl⟩ hs
  simp only [DI_int', DB_bool, DS_string, DP_pointer, DSl_slice, DM_map, DA_agg, DTup_tuple, DCons_cons, DNil_nil, NN_some, BIf_true, BIf_false, BIf_same, List.toList_toArray, Bool.not_true, Bool.not_false]
  refine BIf_bnen rfl ?_
  refine HCalls.use (Words_s hs 3 rfl hbm) ?_
  try simp only [DI_int', DB_bool, DS_string, DP_pointer, DSl_slice, DM_map, DA_agg, DTup_tuple, DCons_cons, DNil_nil, NN_some, BIf_true, BIf_false, BIf_same, List.toList_toArray, Bool.not_true, Bool.not_false]
  refine ⟨D.per d + 1, ?_⟩
  refine load_loop _ (some ⟨br, 0, none⟩) d.size c (d.now i) hnow.symm hcc (by omega) rb (D.per d) m (by omega) (L := [Dk dp (D.more d), pts br (.row (byteVals (d.now i)) 5 mr), pts p (pipO dp ap x), Ar ap cap peak bufs, pts rb (.row xs 94 m)]) 4 (fun H hs => ?_) (fun ys H hs => ?_) (by simp) (D.per d) 0 xs H (by omega) hxs (by simp) hs
  · exact ⟨_, ⟨rfl, rfl⟩, hs.re [2, 0, 3, 4] rfl⟩
  · have := Cells.row (hs.get 1 (b := br) (o := .row (byteVals (d.now i)) 5 mr) rfl) 0 d.size
    rw [List.drop_zero, List.take_of_length_le (by rw [byteVals_length]; omega)] at this
    exact this

end Go.Proofs.Ytgkdkemhiglpdaa.Str
