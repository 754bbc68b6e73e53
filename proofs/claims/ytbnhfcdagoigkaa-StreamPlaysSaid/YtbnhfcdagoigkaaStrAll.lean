import Derived.Test.YtbnhfcdagoigkaaAreT
import Derived.Test.YtbnhfcdagoigkaaDskB
import Derived.Test.YtbnhfcdagoigkaaLayB
import Derived.Test.YtbnhfcdagoigkaaFormB
import Derived.Test.YtbnhfcdagoigkaaHwV
import Derived.Test.YtbnhfcdagoigkaaWstream
import Derived.Test.YtbnhfcdagoigkaaWabacistlaw19
import Derived.Test.YtbnhfcdagoigkaaWabacistref04
import Derived.Test.YtbnhfcdagoigkaaCrcK
import Derived.Test.YtbnhfcdagoigkaaDskG
import Derived.Test.YtbnhfcdagoigkaaCrcB
import Derived.Test.YtbnhfcdagoigkaaHwQ
/- stream: pipes; a sector's words loaded and stored. -/
set_option maxRecDepth 100000
set_option linter.unusedSimpArgs false
set_option linter.unusedVariables false
set_option linter.unnecessarySimpa false
set_option linter.unusedSectionVars false
namespace Go.Proofs.Ytbnhfcdagoigkaa.Str
open Go Go.Hw Go.Form Go.Proofs.Ytbnhfcdagoigkaa.W Go.Proofs.Ytbnhfcdagoigkaa.Dsk Go.Proofs.Ytbnhfcdagoigkaa.Are

/-- An extent. -/
structure X where
  f : Nat
  s : Nat
  w : Nat

/-- A pipe's cells. -/
def pipO (dp ap : Nat) (x : X) : AO := .obj (.cells #[.pointer (some ⟨dp, 0, none⟩), .pointer (some ⟨ap, 0, none⟩), .int .i64 x.f, .int .i64 x.s, .int .i64 x.w] 101)
def D.per (d : D) : Nat := d.size / 8

/-- Is the extent on the disk? -/
structure On (d : D) (x : X) : Prop where
  w1 : 1 ≤ x.w
  s1 : 1 ≤ x.s
  fit : x.f + x.s ≤ d.sec
  room : x.w ≤ x.s * D.per d

theorem Ok.per_le {d : D} (h : Ok d) : 4 ≤ D.per d ∧ D.per d ≤ 512 ∧ 8 * D.per d = d.size := by
  have h1 := h.size
  have h2 := h.per
  unfold D.per
  omega

section
variable {L : List As} {H : Hp} {p dp ap : Nat} {d : D} {x : X}
theorem pipe_get (h : Sep L H) (i : Nat) (hi : L[i]? = some (pts p (pipO dp ap x))) : H p = some (pipO dp ap x) := h.get i hi

theorem per_s (h : Sep L H) (i j : Nat) (hi : L[i]? = some (pts p (pipO dp ap x))) (hj : L[j]? = some (Dk dp d)) (hok : Ok d) : HCalls Try.prog 43 #[.pointer (some ⟨p, 0, none⟩)] H (RetE (.int .i64 (D.per d : Int)) H) := by
  have hsz := hok.size
  apply W_stream_means_per.ok
  unfold W_stream_means_per
  simp only [NN_some, Addr.add_lit', Addr.add_zero, Nat.zero_add, Nat.add_zero]
  refine Ld_obj (h.get i hi) (v := .pointer (some ⟨dp, 0, none⟩)) rfl ?_
  simp only [DI_int', DB_bool, DS_string, DP_pointer, DSl_slice, DM_map, DA_agg, DTup_tuple, DCons_cons, DNil_nil, NN_some, BIf_true, BIf_false, BIf_same, List.toList_toArray, Bool.not_true, Bool.not_false]
  try simp only [NN_some, Addr.add_lit', Addr.add_zero, Nat.zero_add, Nat.add_zero]
  refine HCalls.use (Size_s h j hj) ?_
  try simp only [DI_int', DB_bool, DS_string, DP_pointer, DSl_slice, DM_map, DA_agg, DTup_tuple, DCons_cons, DNil_nil, NN_some, BIf_true, BIf_false, BIf_same, List.toList_toArray, Bool.not_true, Bool.not_false]
  refine ⟨by decide, by simp, RetE.of ?_⟩
  rw [show Int.tdiv (d.size : Int) 8 = ((d.size / 8 : Nat) : Int) from rfl, i64n (by omega)]
  rfl
theorem words_s (h : Sep L H) (i : Nat) (hi : L[i]? = some (pts p (pipO dp ap x))) : HCalls Try.prog 18 #[.pointer (some ⟨p, 0, none⟩)] H (RetE (.int .i64 (x.w : Int)) H) := by
  apply W_stream_Pipe_Words.ok
  unfold W_stream_Pipe_Words
  simp only [NN_some, Addr.add_lit', Addr.add_zero, Nat.zero_add, Nat.add_zero]
  refine Ld_obj (h.get i hi) (v := .int .i64 x.w) rfl ?_
  simp only [DI_int', DB_bool, DS_string, DP_pointer, DSl_slice, DM_map, DA_agg, DTup_tuple, DCons_cons, DNil_nil, NN_some, BIf_true, BIf_false, BIf_same, List.toList_toArray, Bool.not_true, Bool.not_false]
  exact RetE.mk _ _
end

/-- The words of bytes. -/
def wordsB (bs : List UInt8) : List UInt64 := (List.range (bs.length / 8)).map fun i => UInt64.ofNat (wordN bs (8 * i))
theorem wordsB_len (bs : List UInt8) : (wordsB bs).length = bs.length / 8 := by simp [wordsB]
theorem wordsB_get (bs : List UInt8) (i : Nat) (h : i < bs.length / 8) : (wordsB bs)[i]? = some (UInt64.ofNat (wordN bs (8 * i))) := by
  unfold wordsB
  rw [List.getElem?_map, List.getElem?_range h]; rfl

theorem form_inj : ∀ {a b : List UInt64}, a.length = b.length → form a = form b → a = b
  | [], [], _, _ => rfl
  | x :: a, y :: b, hl, h => by
    have h' : formW x ++ form a = formW y ++ form b := h
    obtain ⟨h1, h2⟩ := List.append_inj h' (by rw [formW_length, formW_length])
    have e1 : x = y := by
      have := congrArg leN h1
      rw [leN_formW, leN_formW] at this
      exact UInt64.toNat_inj.1 this
    rw [e1, form_inj (by simpa using hl) h2]
  | [], _ :: _, hl, _ => by simp at hl
  | _ :: _, [], hl, _ => by simp at hl

theorem wordsB_form (l : List UInt64) : wordsB (form l) = l := by
  apply List.ext_getElem?
  intro i
  by_cases h : i < l.length
  · rw [wordsB_get _ _ (by rw [form_length]; omega)]
    have := wordN_form h []
    rw [List.append_nil] at this
    rw [this, List.getElem?_eq_getElem h]
    simp
  · rw [List.getElem?_eq_none (by rw [wordsB_len, form_length]; omega), List.getElem?_eq_none (by omega)]

/-- A disk whose power stays. -/
structure Calm (d : D) : Prop where
  down : d.down = false
  fuse : d.fuse = 0

theorem Calm.chk {d : D} (h : Calm d) {i : Int} (h0 : 0 ≤ i) (h1 : i < d.sec) : d.chk i = 0 := by
  unfold D.chk
  rw [h.down, if_neg (by simp), if_neg (by omega)]
theorem Calm.burns {d : D} (h : Calm d) : d.burns = false := by unfold D.burns; rw [h.fuse]; rfl
theorem Calm.burnt {d : D} (h : Calm d) : d.burnt = d := by unfold D.burnt; rw [if_pos h.fuse]

def D.more (d : D) : D := { d with rd := d.rd + 1 }

theorem readC_tr {p : Nat} {d : D} (hok : Ok d) (hc : Calm d) (ho : d.rd ≤ 4611686018427387904) (i : Int) (h0 : 0 ≤ i) (h1 : i < d.sec) : Tr Try.prog 29 #[.pointer (some ⟨p, 0, none⟩), .int .i64 i] [Dk p d] fun v M =>
    ∃ b c m, v = .tuple #[.slice (some ⟨b, 0, none⟩) d.size c, .int .i64 0] ∧ d.size ≤ c ∧ M = [Dk p (D.more d), pts b (.row (byteVals (d.now i)) 5 m)] := fun H hs =>
  (Read_tr hok ho i H hs).mono fun v H' ⟨M, hq, hM⟩ => by
    rcases hq with ⟨h, _⟩ | ⟨_, h, _⟩ | ⟨_, _, b, c, m, h2, h3, h4⟩
    · exact absurd (hc.chk h0 h1) h
    · rw [hc.burns] at h; cases h
    · rw [hc.burnt] at h4
      exact ⟨M, ⟨b, c, m, h2, h3, h4⟩, hM⟩

theorem load_loop (K : Value → Hp → Prop) (A : Option Addr) (n c : Nat) (bs : List UInt8) (hn : n = bs.length) (hnc : n ≤ c) (hn2 : n ≤ 4096) (rb per m : Nat) (hper : 8 * per = n) {L : List As} (i : Nat)
    (hK : ∀ H, Sep (L.set i (pts rb (.row (wordVals (wordsB bs)) 62 m))) H → K (.int .i64 0) H) (hb : ∀ xs H, Sep (L.set i (pts rb (.row xs 62 m))) H → Cells H A (byteVals bs)) (hi : i < L.length) : ∀ (d j : Nat) (xs : List Value) (H : Hp), j + d = per → xs.length = per → xs.take j = (wordVals (wordsB bs)).take j →
      Sep (L.set i (pts rb (.row xs 62 m))) H → W_stream_means_load.l6 K (d + 1) A n c (some ⟨rb, 0, none⟩) per per (per : Int) (j : Int) H
  | 0, j, xs, H, hj, hl, hx, hs => by
    unfold W_stream_means_load.l6
    refine BIf_dneg (by omega) (hK H ?_)
    rw [List.take_of_length_le (by omega), List.take_of_length_le (by rw [wordVals_length, wordsB_len]; omega)] at hx
    rw [← hx]; exact hs
  | d + 1, j, xs, H, hj, hl, hx, hs => by
    unfold W_stream_means_load.l6
    refine BIf_dpos (by omega) ?_
    refine HCalls.use (FormP.Word_ok A n c hnc (by omega) bs hn j (by omega) H (hb xs H hs)) ?_
    try simp only [DI_int', DB_bool, DS_string, DP_pointer, DSl_slice, DM_map, DA_agg, DTup_tuple, DCons_cons, DNil_nil, NN_some, BIf_true, BIf_false, BIf_same, List.toList_toArray, Bool.not_true, Bool.not_false]
    refine ⟨by omega, by omega, ?_⟩
    rw [Int.toNat_natCast, Nat.mul_one]
    show St H _ _ _
    rw [Addr.add_lit', Nat.zero_add, Addr.add_zero]
    refine hs.str i (b := rb) (xs := xs) (e := 62) (m := m) (by rw [List.getElem?_set]; simp [hi]) (by omega) rfl fun H hs => ?_
    rw [List.set_set] at hs
    rw [i64w (x := (j : Int) + 1) (by omega) (by omega)]
    refine load_loop K A n c bs hn hnc hn2 rb per m hper i hK hb hi d (j + 1) _ H (by omega) (by rw [List.length_set]; exact hl) ?_ hs
    have hw : (wordVals (wordsB bs))[j]? = some (.int .u64 (wordN bs (8 * j) : Nat)) := by
      rw [wordVals_get, wordsB_get _ _ (by omega)]
      simp only [Option.map_some]
      rw [UInt64.toNat_ofNat_of_lt' (wordN_lt bs (8 * j))]
    obtain ⟨hlt, hg⟩ := List.getElem?_eq_some_iff.1 hw
    rw [List.take_succ_eq_append_getElem hlt, hg, ← hx, List.take_succ_eq_append_getElem (by rw [List.length_set]; omega), List.take_set_of_le (by omega), List.getElem_set_self]

/-- A sector's words come into a buffer. -/
theorem load_tr {p dp ap : Nat} {d : D} {x : X} {cap peak : Int} {bufs : List (Nat × Nat × Option Addr)} {b rb m : Nat} {xs : List Value} (hok : Ok d) (hc : Calm d) (ho : d.rd ≤ 4611686018427387904) (i : Int) (h0 : 0 ≤ i) (h1 : i < d.sec)
    (hbm : (b, D.per d, some ⟨rb, 0, none⟩) ∈ bufs) (hxs : xs.length = D.per d) :
    Tr Try.prog 45 #[.pointer (some ⟨p, 0, none⟩), .int .i64 i, .pointer (some ⟨b, 0, none⟩)] [pts p (pipO dp ap x), Dk dp d, Ar ap cap peak bufs, pts rb (.row xs 62 m)] fun v M =>
      v = .int .i64 0 ∧ M = [pts p (pipO dp ap x), Dk dp (D.more d), Ar ap cap peak bufs, pts rb (.row (wordVals (wordsB (d.now i))) 62 m)] := fun H hs => by
  have hp := Ok.per_le hok
  have hnow := hok.now i
  have hsz := hok.size
  apply W_stream_means_load.ok
  unfold W_stream_means_load
  simp only [NN_some, Addr.add_lit', Addr.add_zero, Nat.zero_add, Nat.add_zero]
  refine hs.ld 0 rfl rfl ?_
  simp only [DI_int', DB_bool, DS_string, DP_pointer, DSl_slice, DM_map, DA_agg, DTup_tuple, DCons_cons, DNil_nil, NN_some, BIf_true, BIf_false, BIf_same, List.toList_toArray, Bool.not_true, Bool.not_false]
  refine (readC_tr hok hc ho i h0 h1).use hs [1] rfl rfl ?_
  rintro _ _ H ⟨br, c, mr, rfl, hcc, rfl⟩ hs
  simp only [DI_int', DB_bool, DS_string, DP_pointer, DSl_slice, DM_map, DA_agg, DTup_tuple, DCons_cons, DNil_nil, NN_some, BIf_true, BIf_false, BIf_same, List.toList_toArray, Bool.not_true, Bool.not_false]
  refine BIf_bnen rfl ?_
  refine HCalls.use (Words_s hs 3 rfl hbm) ?_
  try simp only [DI_int', DB_bool, DS_string, DP_pointer, DSl_slice, DM_map, DA_agg, DTup_tuple, DCons_cons, DNil_nil, NN_some, BIf_true, BIf_false, BIf_same, List.toList_toArray, Bool.not_true, Bool.not_false]
  refine ⟨D.per d + 1, ?_⟩
  refine load_loop _ (some ⟨br, 0, none⟩) d.size c (d.now i) hnow.symm hcc (by omega) rb (D.per d) m (by omega) (L := [Dk dp (D.more d), pts br (.row (byteVals (d.now i)) 5 mr), pts p (pipO dp ap x), Ar ap cap peak bufs, pts rb (.row xs 62 m)]) 4 (fun H hs => ?_) (fun ys H hs => ?_) (by simp) (D.per d) 0 xs H (by omega) hxs (by simp) hs
  · exact ⟨_, ⟨rfl, rfl⟩, hs.re [2, 0, 3, 4] rfl⟩
  · have := Cells.row (hs.get 1 (b := br) (o := .row (byteVals (d.now i)) 5 mr) rfl) 0 d.size
    rw [List.drop_zero, List.take_of_length_le (by rw [byteVals_length]; omega)] at this
    exact this

end Go.Proofs.Ytbnhfcdagoigkaa.Str

/- stream: store, New, pieces. -/
set_option maxRecDepth 100000
set_option linter.unusedSimpArgs false
set_option linter.unusedVariables false
set_option linter.unnecessarySimpa false
set_option linter.unusedSectionVars false
namespace Go.Proofs.Ytbnhfcdagoigkaa.Str
open Go Go.Hw Go.Form Go.Proofs.Ytbnhfcdagoigkaa.W Go.Proofs.Ytbnhfcdagoigkaa.Dsk Go.Proofs.Ytbnhfcdagoigkaa.Are

/-- A sector is written. -/
def D.put (d : D) (i : Int) (ws : List UInt64) : D := { d with wr := d.wr + 1, tch := updT d.tch i, cache := updB d.cache i (form ws) }

theorem writeC_tr {p : Nat} {d : D} (hok : Ok d) (hc : Calm d) (ho : d.wr ≤ 4611686018427387904) (i : Int) (h0 : 0 ≤ i) (h1 : i < d.sec) (ws : List UInt64) (hw : ws.length = D.per d) (b m : Nat) :
    Tr Try.prog 32 #[.pointer (some ⟨p, 0, none⟩), .int .i64 i, .slice (some ⟨b, 0, none⟩) (8 * ws.length) (8 * ws.length)] [Dk p d, pts b (.row (byteVals (form ws)) 5 m)] fun v M =>
      v = .int .i64 0 ∧ M = [Dk p (D.put d i ws), pts b (.row (byteVals (form ws)) 5 m)] := fun H hs => by
  have hp := Ok.per_le hok
  refine (Write_tr hok ho i (some ⟨b, 0, none⟩) (8 * ws.length) (8 * ws.length) (form ws) (form_length ws).symm (pts b (.row (byteVals (form ws)) 5 m)) (fun H h => ?_) H hs).mono ?_
  · have := Cells.row h 0 (8 * ws.length)
    rw [List.drop_zero, List.take_of_length_le (by rw [byteVals_length, form_length]; omega)] at this
    exact this
  · rintro v H' ⟨M, ⟨rfl, rfl⟩, hM⟩
    have e1 : d.writeE i (8 * ws.length) = 0 := by
      unfold D.writeE
      rw [if_neg (by rw [hc.chk h0 h1]; simp), if_neg (by omega), hc.burns]; rfl
    have e2 : d.writeD i (form ws) = D.put d i ws := by
      unfold D.writeD
      rw [if_neg (by rw [hc.chk h0 h1]; simp), if_neg (by rw [form_length]; omega), hc.burns]
      unfold D.wrote D.put
      rw [hc.burnt]; rfl
    rw [e1]
    rw [e2] at hM
    exact ⟨_, ⟨rfl, rfl⟩, hM⟩

theorem store_tr {p dp ap : Nat} {d : D} {x : X} {cap peak : Int} {bufs : List (Nat × Nat × Option Addr)} {b rb m : Nat} {ws : List UInt64} (hok : Ok d) (hc : Calm d) (ho : d.wr ≤ 4611686018427387904) (i : Int) (h0 : 0 ≤ i) (h1 : i < d.sec)
    (hbm : (b, D.per d, some ⟨rb, 0, none⟩) ∈ bufs) (hw : ws.length = D.per d) :
    Tr Try.prog 47 #[.pointer (some ⟨p, 0, none⟩), .int .i64 i, .pointer (some ⟨b, 0, none⟩)] [pts p (pipO dp ap x), Dk dp d, Ar ap cap peak bufs, pts rb (.row (wordVals ws) 62 m)] fun v M =>
      v = .int .i64 0 ∧ M = [pts p (pipO dp ap x), Dk dp (D.put d i ws), Ar ap cap peak bufs, pts rb (.row (wordVals ws) 62 m)] := fun H hs => by
  have hp := Ok.per_le hok
  have hcell : ∀ {L : List As} {H : Hp} (j : Nat), Sep L H → L[j]? = some (pts rb (.row (wordVals ws) 62 m)) → Cells H (some ⟨rb, 0, none⟩) (wordVals ws) := fun j hs hj => by
    have := Cells.row (hs.get j hj) 0 ws.length
    rw [List.drop_zero, List.take_of_length_le (by rw [wordVals_length]; exact Nat.le_refl _)] at this
    exact this
  apply W_stream_means_store.ok
  unfold W_stream_means_store
  simp only [NN_some, Addr.add_lit', Addr.add_zero, Nat.zero_add, Nat.add_zero]
  have put : ∀ (H : Hp) (K : Value → Hp → Prop), Sep [pts p (pipO dp ap x), Dk dp d, Ar ap cap peak bufs, pts rb (.row (wordVals ws) 62 m)] H →
      (∀ b' H', Sep [pts p (pipO dp ap x), Dk dp d, Ar ap cap peak bufs, pts rb (.row (wordVals ws) 62 m), pts b' (.row (byteVals (form ws)) 5 (8 * ws.length))] H' → K (.slice (some ⟨b', 0, none⟩) (8 * ws.length) (8 * ws.length)) H') →
      HCalls Try.prog 57 #[.slice (some ⟨rb, 0, none⟩) (D.per d) (D.per d)] H K := fun H K hs k => by
    rw [← hw]
    refine (FormP.Put_ok (some ⟨rb, 0, none⟩) ws.length ws.length ws rfl (by omega) H (hcell 3 hs rfl)).mono ?_
    rintro v H' ⟨b', hb', rfl, rfl⟩
    exact k b' _ (hs.new hb' _)
  have wr : ∀ (b' : Nat) (H : Hp), Sep [pts p (pipO dp ap x), Dk dp d, Ar ap cap peak bufs, pts rb (.row (wordVals ws) 62 m), pts b' (.row (byteVals (form ws)) 5 (8 * ws.length))] H →
      HCalls Try.prog 32 #[.pointer (some ⟨dp, 0, none⟩), .int .i64 i, .slice (some ⟨b', 0, none⟩) (8 * ws.length) (8 * ws.length)] H fun v4 H3 => DI .i64 v4 fun x2 => ∃ M, ((.int .i64 x2 : Value) = .int .i64 0 ∧ M = [pts p (pipO dp ap x), Dk dp (D.put d i ws), Ar ap cap peak bufs, pts rb (.row (wordVals ws) 62 m)]) ∧ Sep M H3 := fun b' H hs => by
    refine (writeC_tr hok hc ho i h0 h1 ws hw b' (8 * ws.length)).use hs [1, 4] rfl rfl ?_
    rintro _ _ H ⟨rfl, rfl⟩ hs
    exact ⟨_, ⟨rfl, rfl⟩, hs.re [2, 0, 3, 4] rfl⟩
  refine ⟨?_, ?_⟩
  · refine hs.ld 0 rfl rfl ?_
    simp only [DI_int', DB_bool, DS_string, DP_pointer, DSl_slice, DM_map, DA_agg, DTup_tuple, DCons_cons, DNil_nil, NN_some, BIf_true, BIf_false, BIf_same, List.toList_toArray, Bool.not_true, Bool.not_false]
    refine HCalls.use (Words_s hs 2 rfl hbm) ?_
    try simp only [DI_int', DB_bool, DS_string, DP_pointer, DSl_slice, DM_map, DA_agg, DTup_tuple, DCons_cons, DNil_nil, NN_some, BIf_true, BIf_false, BIf_same, List.toList_toArray, Bool.not_true, Bool.not_false]
    refine put H _ hs fun b' H hs => ?_
    simp only [DI_int', DB_bool, DS_string, DP_pointer, DSl_slice, DM_map, DA_agg, DTup_tuple, DCons_cons, DNil_nil, NN_some, BIf_true, BIf_false, BIf_same, List.toList_toArray, Bool.not_true, Bool.not_false]
    exact wr b' H hs
  · refine HCalls.use (Words_s hs 2 rfl hbm) ?_
    try simp only [DI_int', DB_bool, DS_string, DP_pointer, DSl_slice, DM_map, DA_agg, DTup_tuple, DCons_cons, DNil_nil, NN_some, BIf_true, BIf_false, BIf_same, List.toList_toArray, Bool.not_true, Bool.not_false]
    refine ⟨?_, ?_⟩
    · refine hs.ld 0 rfl rfl ?_
      simp only [DI_int', DB_bool, DS_string, DP_pointer, DSl_slice, DM_map, DA_agg, DTup_tuple, DCons_cons, DNil_nil, NN_some, BIf_true, BIf_false, BIf_same, List.toList_toArray, Bool.not_true, Bool.not_false]
      refine put H _ hs fun b' H hs => ?_
      simp only [DI_int', DB_bool, DS_string, DP_pointer, DSl_slice, DM_map, DA_agg, DTup_tuple, DCons_cons, DNil_nil, NN_some, BIf_true, BIf_false, BIf_same, List.toList_toArray, Bool.not_true, Bool.not_false]
      exact wr b' H hs
    · refine put H _ hs fun b' H hs => ?_
      simp only [DI_int', DB_bool, DS_string, DP_pointer, DSl_slice, DM_map, DA_agg, DTup_tuple, DCons_cons, DNil_nil, NN_some, BIf_true, BIf_false, BIf_same, List.toList_toArray, Bool.not_true, Bool.not_false]
      refine hs.ld 0 rfl rfl ?_
      simp only [DI_int', DB_bool, DS_string, DP_pointer, DSl_slice, DM_map, DA_agg, DTup_tuple, DCons_cons, DNil_nil, NN_some, BIf_true, BIf_false, BIf_same, List.toList_toArray, Bool.not_true, Bool.not_false]
      exact wr b' H hs

/-- Is there a pipe of an extent? -/
def right (d : D) (f s w : Int) : Prop := 1 ≤ w ∧ 0 ≤ f ∧ 1 ≤ s ∧ f < d.sec ∧ s ≤ d.sec - f ∧ w ≤ s * D.per d

theorem New_tr {dp ap : Nat} {d : D} (hok : Ok d) (x : X) (hx : On d x) : Tr Try.prog 40 #[.pointer (some ⟨dp, 0, none⟩), .pointer (some ⟨ap, 0, none⟩), .agg #[.int .i64 x.f, .int .i64 x.s, .int .i64 x.w]] [Dk dp d] fun v M =>
    ∃ p, v = .tuple #[.pointer (some ⟨p, 0, none⟩), .int .i64 0] ∧ M = [Dk dp d, pts p (pipO dp ap x)] := fun H hs => by
  have hp := Ok.per_le hok
  have hsec := hok.sec
  obtain ⟨h1, h2, h3, h4⟩ := hx
  have hroom : x.s * D.per d ≤ 1048576 * 512 := Nat.mul_le_mul (by omega) (by omega)
  apply W_stream_New.ok
  unfold W_stream_New
  simp only [NN_some, Addr.add_lit', Addr.add_zero, Nat.zero_add, Nat.add_zero]
  refine hs.nw fun b1 H hs => BIf_neg rfl (BIf_neg rfl ?_)
  refine hs.ldw 1 rfl rfl ?_
  simp only [DI_int', DB_bool, DS_string, DP_pointer, DSl_slice, DM_map, DA_agg, DTup_tuple, DCons_cons, DNil_nil, NN_some, BIf_true, BIf_false, BIf_same, List.toList_toArray, Bool.not_true, Bool.not_false]
  refine hs.nw fun b2 H hs => ?_
  refine hs.ld 1 rfl rfl ?_
  simp only [DI_int', DB_bool, DS_string, DP_pointer, DSl_slice, DM_map, DA_agg, DTup_tuple, DCons_cons, DNil_nil, NN_some, BIf_true, BIf_false, BIf_same, List.toList_toArray, Bool.not_true, Bool.not_false]
  refine BIf_dneg (by omega) ?_
  refine hs.ld 1 rfl rfl ?_
  simp only [DI_int', DB_bool, DS_string, DP_pointer, DSl_slice, DM_map, DA_agg, DTup_tuple, DCons_cons, DNil_nil, NN_some, BIf_true, BIf_false, BIf_same, List.toList_toArray, Bool.not_true, Bool.not_false]
  refine BIf_dneg (by omega) ?_
  refine hs.ld 1 rfl rfl ?_
  simp only [DI_int', DB_bool, DS_string, DP_pointer, DSl_slice, DM_map, DA_agg, DTup_tuple, DCons_cons, DNil_nil, NN_some, BIf_true, BIf_false, BIf_same, List.toList_toArray, Bool.not_true, Bool.not_false]
  refine BIf_dneg (by omega) ?_
  refine hs.ld 1 rfl rfl ?_
  simp only [DI_int', DB_bool, DS_string, DP_pointer, DSl_slice, DM_map, DA_agg, DTup_tuple, DCons_cons, DNil_nil, NN_some, BIf_true, BIf_false, BIf_same, List.toList_toArray, Bool.not_true, Bool.not_false]
  refine QCall.use (Sectors_s hs 0 rfl) ?_
  try simp only [DI_int', DB_bool, DS_string, DP_pointer, DSl_slice, DM_map, DA_agg, DTup_tuple, DCons_cons, DNil_nil, NN_some, BIf_true, BIf_false, BIf_same, List.toList_toArray, Bool.not_true, Bool.not_false]
  refine BIf_dneg (by omega) ?_
  refine hs.ld 1 rfl rfl ?_
  simp only [DI_int', DB_bool, DS_string, DP_pointer, DSl_slice, DM_map, DA_agg, DTup_tuple, DCons_cons, DNil_nil, NN_some, BIf_true, BIf_false, BIf_same, List.toList_toArray, Bool.not_true, Bool.not_false]
  refine QCall.use (Sectors_s hs 0 rfl) ?_
  try simp only [DI_int', DB_bool, DS_string, DP_pointer, DSl_slice, DM_map, DA_agg, DTup_tuple, DCons_cons, DNil_nil, NN_some, BIf_true, BIf_false, BIf_same, List.toList_toArray, Bool.not_true, Bool.not_false]
  refine hs.ld 1 rfl rfl ?_
  simp only [DI_int', DB_bool, DS_string, DP_pointer, DSl_slice, DM_map, DA_agg, DTup_tuple, DCons_cons, DNil_nil, NN_some, BIf_true, BIf_false, BIf_same, List.toList_toArray, Bool.not_true, Bool.not_false]
  rw [i64w (x := (d.sec : Int) - x.f) (by omega) (by omega)]
  refine BIf_dneg (by omega) ?_
  refine hs.ld 1 rfl rfl ?_
  simp only [DI_int', DB_bool, DS_string, DP_pointer, DSl_slice, DM_map, DA_agg, DTup_tuple, DCons_cons, DNil_nil, NN_some, BIf_true, BIf_false, BIf_same, List.toList_toArray, Bool.not_true, Bool.not_false]
  refine hs.ld 1 rfl rfl ?_
  simp only [DI_int', DB_bool, DS_string, DP_pointer, DSl_slice, DM_map, DA_agg, DTup_tuple, DCons_cons, DNil_nil, NN_some, BIf_true, BIf_false, BIf_same, List.toList_toArray, Bool.not_true, Bool.not_false]
  refine QCall.use (per_s (p := b2) (dp := dp) (ap := ap) (x := x) hs 2 0 rfl rfl hok) ?_
  simp only [DI_int', DB_bool, DS_string, DP_pointer, DSl_slice, DM_map, DA_agg, DTup_tuple, DCons_cons, DNil_nil, NN_some, BIf_true, BIf_false, BIf_same, List.toList_toArray, Bool.not_true, Bool.not_false]
  rw [← Int.natCast_mul, i64n (by omega)]
  refine BIf_dneg (by omega) ?_
  exact ⟨_, ⟨b2, rfl, rfl⟩, hs.re [0, 2] rfl⟩

theorem New_no {dp ap : Nat} {d : D} (hok : Ok d) (f s w : Int) (hf : -9223372036854775808 ≤ f ∧ f ≤ 9223372036854775807) (hs' : -9223372036854775808 ≤ s ∧ s ≤ 9223372036854775807) (hx : ¬ right d f s w) {L : List As} {H : Hp} (h : Sep L H) (i : Nat) (hi : L[i]? = some (Dk dp d)) :
    HCalls Try.prog 40 #[.pointer (some ⟨dp, 0, none⟩), .pointer (some ⟨ap, 0, none⟩), .agg #[.int .i64 f, .int .i64 s, .int .i64 w]] H (RetE (.tuple #[.pointer none, .int .i64 2]) H) := by
  have hp := Ok.per_le hok
  have hsec := hok.sec
  have hfit : Sep [own H, fun _ => True] H := ⟨H, fun _ => none, Hp.le_refl _, fun b o h => (by cases h), fun b => .inr rfl, Hp.le_refl _, ⟨fun _ => none, fun _ => none, fun b o h => (by cases h), fun b o h => (by cases h), fun b => .inl rfl, trivial, trivial⟩⟩
  apply HCalls.ret
  apply W_stream_New.ok
  unfold W_stream_New
  simp only [NN_some, Addr.add_lit', Addr.add_zero, Nat.zero_add, Nat.add_zero]
  have hs := Sep.start H
  obtain ⟨r1, r2, r3, hd⟩ := Dk.see h i hi
  have sec : ∀ H', H.le H' → HCalls Try.prog 65 #[.pointer (some ⟨dp, 0, none⟩)] H' (RetE (.int .i64 (d.sec : Int)) H') := fun H' hle => Sectors_s (h.up hle) i hi
  refine hs.nw fun b1 H' hs => BIf_neg rfl (BIf_neg rfl ?_)
  refine hs.ldw 1 rfl rfl ?_
  simp only [DI_int', DB_bool, DS_string, DP_pointer, DSl_slice, DM_map, DA_agg, DTup_tuple, DCons_cons, DNil_nil, NN_some, BIf_true, BIf_false, BIf_same, List.toList_toArray, Bool.not_true, Bool.not_false]
  refine hs.nw fun b2 H' hs => ?_
  have fin := hs.fin 0 rfl (.tuple #[.pointer none, .int .i64 2])
  have hle := hs.ow 0 rfl
  refine hs.ld 1 rfl rfl ?_
  simp only [DI_int', DB_bool, DS_string, DP_pointer, DSl_slice, DM_map, DA_agg, DTup_tuple, DCons_cons, DNil_nil, NN_some, BIf_true, BIf_false, BIf_same, List.toList_toArray, Bool.not_true, Bool.not_false]
  by_cases c1 : w < 1
  · exact BIf_dpos c1 fin
  refine BIf_dneg c1 (hs.ld 1 rfl rfl ?_)
  simp only [DI_int', DB_bool, DS_string, DP_pointer, DSl_slice, DM_map, DA_agg, DTup_tuple, DCons_cons, DNil_nil, NN_some, BIf_true, BIf_false, BIf_same, List.toList_toArray, Bool.not_true, Bool.not_false]
  by_cases c2 : f < 0
  · exact BIf_dpos c2 fin
  refine BIf_dneg c2 (hs.ld 1 rfl rfl ?_)
  simp only [DI_int', DB_bool, DS_string, DP_pointer, DSl_slice, DM_map, DA_agg, DTup_tuple, DCons_cons, DNil_nil, NN_some, BIf_true, BIf_false, BIf_same, List.toList_toArray, Bool.not_true, Bool.not_false]
  by_cases c3 : s < 1
  · exact BIf_dpos c3 fin
  refine BIf_dneg c3 (hs.ld 1 rfl rfl ?_)
  simp only [DI_int', DB_bool, DS_string, DP_pointer, DSl_slice, DM_map, DA_agg, DTup_tuple, DCons_cons, DNil_nil, NN_some, BIf_true, BIf_false, BIf_same, List.toList_toArray, Bool.not_true, Bool.not_false]
  refine QCall.use (sec _ hle) ?_
  simp only [DI_int', DB_bool, DS_string, DP_pointer, DSl_slice, DM_map, DA_agg, DTup_tuple, DCons_cons, DNil_nil, NN_some, BIf_true, BIf_false, BIf_same, List.toList_toArray, Bool.not_true, Bool.not_false]
  by_cases c4 : f ≥ d.sec
  · exact BIf_dpos c4 fin
  refine BIf_dneg c4 (hs.ld 1 rfl rfl ?_)
  simp only [DI_int', DB_bool, DS_string, DP_pointer, DSl_slice, DM_map, DA_agg, DTup_tuple, DCons_cons, DNil_nil, NN_some, BIf_true, BIf_false, BIf_same, List.toList_toArray, Bool.not_true, Bool.not_false]
  refine QCall.use (sec _ hle) ?_
  simp only [DI_int', DB_bool, DS_string, DP_pointer, DSl_slice, DM_map, DA_agg, DTup_tuple, DCons_cons, DNil_nil, NN_some, BIf_true, BIf_false, BIf_same, List.toList_toArray, Bool.not_true, Bool.not_false]
  refine hs.ld 1 rfl rfl ?_
  simp only [DI_int', DB_bool, DS_string, DP_pointer, DSl_slice, DM_map, DA_agg, DTup_tuple, DCons_cons, DNil_nil, NN_some, BIf_true, BIf_false, BIf_same, List.toList_toArray, Bool.not_true, Bool.not_false]
  rw [i64w (x := (d.sec : Int) - f) (by omega) (by omega)]
  by_cases c5 : s > d.sec - f
  · exact BIf_dpos c5 fin
  refine BIf_dneg c5 (hs.ld 1 rfl rfl ?_)
  simp only [DI_int', DB_bool, DS_string, DP_pointer, DSl_slice, DM_map, DA_agg, DTup_tuple, DCons_cons, DNil_nil, NN_some, BIf_true, BIf_false, BIf_same, List.toList_toArray, Bool.not_true, Bool.not_false]
  refine hs.ld 1 rfl rfl ?_
  simp only [DI_int', DB_bool, DS_string, DP_pointer, DSl_slice, DM_map, DA_agg, DTup_tuple, DCons_cons, DNil_nil, NN_some, BIf_true, BIf_false, BIf_same, List.toList_toArray, Bool.not_true, Bool.not_false]
  obtain ⟨sn, rfl⟩ := Int.eq_ofNat_of_zero_le (show 0 ≤ s by omega)
  have hroom : sn * D.per d ≤ 1048576 * 512 := Nat.mul_le_mul (by omega) (by omega)
  have per : HCalls Try.prog 43 #[.pointer (some ⟨b2, 0, none⟩)] H' (RetE (.int .i64 (D.per d : Int)) H') := by
    apply W_stream_means_per.ok
    unfold W_stream_means_per
    simp only [NN_some, Addr.add_lit', Addr.add_zero, Nat.zero_add, Nat.add_zero]
    refine hs.ld 2 rfl rfl ?_
    simp only [DI_int', DB_bool, DS_string, DP_pointer, DSl_slice, DM_map, DA_agg, DTup_tuple, DCons_cons, DNil_nil, NN_some, BIf_true, BIf_false, BIf_same, List.toList_toArray, Bool.not_true, Bool.not_false]
    try simp only [NN_some, Addr.add_lit', Addr.add_zero, Nat.zero_add, Nat.add_zero]
    refine HCalls.use (Size_s (h.up hle) i hi) ?_
    try simp only [DI_int', DB_bool, DS_string, DP_pointer, DSl_slice, DM_map, DA_agg, DTup_tuple, DCons_cons, DNil_nil, NN_some, BIf_true, BIf_false, BIf_same, List.toList_toArray, Bool.not_true, Bool.not_false]
    have hsz := hok.size
    refine ⟨by decide, by simp, RetE.of ?_⟩
    rw [show Int.tdiv (d.size : Int) 8 = ((d.size / 8 : Nat) : Int) from rfl, i64n (by omega)]
    rfl
  refine QCall.use per ?_
  simp only [DI_int', DB_bool, DS_string, DP_pointer, DSl_slice, DM_map, DA_agg, DTup_tuple, DCons_cons, DNil_nil, NN_some, BIf_true, BIf_false, BIf_same, List.toList_toArray, Bool.not_true, Bool.not_false]
  rw [← Int.natCast_mul, i64n (by omega)]
  by_cases c6 : w > ((sn * D.per d : Nat) : Int)
  · exact BIf_dpos c6 fin
  · exact absurd ⟨by omega, by omega, by omega, by omega, by omega, by rw [Int.natCast_mul] at c6; omega⟩ hx

end Go.Proofs.Ytbnhfcdagoigkaa.Str

/- stream: pieces, and Read. -/
set_option maxRecDepth 100000
set_option linter.unusedSimpArgs false
set_option linter.unusedVariables false
set_option linter.unnecessarySimpa false
set_option linter.unusedSectionVars false
namespace Go.Proofs.Ytbnhfcdagoigkaa.Str
open Go Go.Hw Go.Form Go.Proofs.Ytbnhfcdagoigkaa.W Go.Proofs.Ytbnhfcdagoigkaa.Dsk Go.Proofs.Ytbnhfcdagoigkaa.Are

def cN (per fr n : Nat) : Nat := if per - fr % per < n then per - fr % per else n
/-- The pieces of words. -/
def pcs (per f : Nat) : Nat → Nat → Nat → List (Nat × Nat × Nat)
  | 0, _, _ => []
  | k + 1, fr, n => if n = 0 then [] else (f + fr / per, fr % per, cN per fr n) :: pcs per f k (fr + cN per fr n) (n - cN per fr n)
def pcV (y : Nat × Nat × Nat) : List Value := [.int .i64 (y.1 : Int), .int .i64 (y.2.1 : Int), .int .i64 (y.2.2 : Int)]

theorem cN_le (per fr n : Nat) : cN per fr n ≤ n := by unfold cN; split <;> omega
theorem cN_pos {per fr n : Nat} (hp : 0 < per) (hn : 0 < n) : 0 < cN per fr n := by
  have := Nat.mod_lt fr hp
  unfold cN; split <;> omega
theorem cN_per {per fr n : Nat} (hp : 0 < per) : fr % per + cN per fr n ≤ per := by
  have := Nat.mod_lt fr hp
  unfold cN; split <;> omega

theorem cell_pc : cellInfo Try.prog 110 = some (3, 24, some #[.int .i64 0, .int .i64 0, .int .i64 0]) := by kernel_rfl

theorem pieces_loop (K : Value → Hp → Prop) {p dp ap : Nat} {d : D} {x : X} (hok : Ok d) (hx : On d x) :
    ∀ (k fr n : Nat) (A : Option Addr) (c m : Nat) (acc : List (Nat × Nat × Nat)) (H : Hp), n ≤ k → fr + n ≤ x.w → acc.length = c → c + n ≤ 1000000000 →
      (∀ A' m' H', Sep [pts p (pipO dp ap x), Dk dp d, Own 110 3 A' (acc ++ pcs (D.per d) x.f k fr n).length m' ((acc ++ pcs (D.per d) x.f k fr n).flatMap pcV)] H' → K (.tuple #[.slice A' (acc ++ pcs (D.per d) x.f k fr n).length m', .int .i64 0]) H') →
      Sep [pts p (pipO dp ap x), Dk dp d, Own 110 3 A c m (acc.flatMap pcV)] H → W_stream_Pipe_pieces.l4 K (k + 1) (some ⟨p, 0, none⟩) (fr : Int) (n : Int) A c m H
  | k, fr, 0, A, c, m, acc, H, hn, hf, hc, hcn, hk, hs => by
    unfold W_stream_Pipe_pieces.l4
    refine BIf_dneg (by omega) ?_
    have e : pcs (D.per d) x.f k fr 0 = [] := by cases k <;> simp [pcs]
    rw [e, List.append_nil, hc] at hk
    exact hk A m H hs
  | 0, fr, n + 1, A, c, m, acc, H, hn, hf, hc, hcn, hk, hs => by omega
  | k + 1, fr, n + 1, A, c, m, acc, H, hn, hf, hc, hcn, hk, hs => by
    have hp := Ok.per_le hok
    have hsec := hok.sec
    have hroom : x.s * D.per d ≤ 1048576 * 512 := Nat.mul_le_mul (by have := hx.fit; omega) (by omega)
    have h4 := hx.room
    have hfit := hx.fit
    unfold W_stream_Pipe_pieces.l4
    refine BIf_dpos (by omega) ?_
    simp only [NN_some, Addr.add_lit', Addr.add_zero, Nat.zero_add, Nat.add_zero]
    refine hs.lda 0 rfl (Nat.le_refl _) ?_
    refine QCall.use (per_s hs 0 1 rfl rfl hok) ?_
    simp only [DI_int', DB_bool, DS_string, DP_pointer, DSl_slice, DM_map, DA_agg, DTup_tuple, DCons_cons, DNil_nil, NN_some, BIf_true, BIf_false, BIf_same, List.toList_toArray, Bool.not_true, Bool.not_false]
    refine QCall.use (Lay.Sector_ok x.f x.s x.w (D.per d) fr ⟨by omega, by omega⟩ (by omega) H) ?_
    have hdiv : fr / D.per d < x.s := by
      rw [Nat.div_lt_iff_lt_mul (by omega)]; omega
    have hS : Lay.SectorV x.f x.s x.w (D.per d) fr = (((x.f + fr / D.per d : Nat) : Int), ((fr % D.per d : Nat) : Int), (0 : Int)) := by
      unfold Lay.SectorV
      have e : Int.tdiv (fr : Int) (D.per d : Int) = ((fr / D.per d : Nat) : Int) := rfl
      have e2 : Int.tmod (fr : Int) (D.per d : Int) = ((fr % D.per d : Nat) : Int) := rfl
      rw [e, e2, if_neg (by omega)]
      simp
    rw [hS]
    simp only [DI_int', DB_bool, DS_string, DP_pointer, DSl_slice, DM_map, DA_agg, DTup_tuple, DCons_cons, DNil_nil, NN_some, BIf_true, BIf_false, BIf_same, List.toList_toArray, Bool.not_true, Bool.not_false]
    refine BIf_bnen rfl ?_
    refine HCalls.use (per_s hs 0 1 rfl rfl hok) ?_
    try simp only [DI_int', DB_bool, DS_string, DP_pointer, DSl_slice, DM_map, DA_agg, DTup_tuple, DCons_cons, DNil_nil, NN_some, BIf_true, BIf_false, BIf_same, List.toList_toArray, Bool.not_true, Bool.not_false]
    have hmod := Nat.mod_lt fr (show 0 < D.per d by omega)
    rw [i64w (x := (D.per d : Int) - ((fr % D.per d : Nat) : Int)) (by omega) (by omega)]
    have hcN : (if (D.per d : Int) - ((fr % D.per d : Nat) : Int) < ((n + 1 : Nat) : Int) then (D.per d : Int) - ((fr % D.per d : Nat) : Int) else ((n + 1 : Nat) : Int)) = ((cN (D.per d) fr (n + 1) : Nat) : Int) := by
      unfold cN
      by_cases h : D.per d - fr % D.per d < n + 1
      · rw [if_pos h, if_pos (by omega)]; omega
      · rw [if_neg h, if_neg (by omega)]
    rw [hcN]
    have hcle := cN_le (D.per d) fr (n + 1)
    have hcpos := cN_pos (per := D.per d) (fr := fr) (n := n + 1) (by omega) (by omega)
    refine hs.appS 2 (by rfl) cell_pc rfl (by omega) (by omega) rfl (by rfl) (by omega) (by omega) fun A' m' H hs => ?_
    simp only [DI_int', DB_bool, DS_string, DP_pointer, DSl_slice, DM_map, DA_agg, DTup_tuple, DCons_cons, DNil_nil, NN_some, BIf_true, BIf_false, BIf_same, List.toList_toArray, Bool.not_true, Bool.not_false]
    rw [i64w (x := (fr : Int) + ((cN (D.per d) fr (n + 1) : Nat) : Int)) (by omega) (by omega), i64w (x := ((n + 1 : Nat) : Int) - ((cN (D.per d) fr (n + 1) : Nat) : Int)) (by omega) (by omega)]
    rw [show (fr : Int) + ((cN (D.per d) fr (n + 1) : Nat) : Int) = ((fr + cN (D.per d) fr (n + 1) : Nat) : Int) by omega, show ((n + 1 : Nat) : Int) - ((cN (D.per d) fr (n + 1) : Nat) : Int) = ((n + 1 - cN (D.per d) fr (n + 1) : Nat) : Int) by omega]
    have e : pcs (D.per d) x.f (k + 1) fr (n + 1) = (x.f + fr / D.per d, fr % D.per d, cN (D.per d) fr (n + 1)) :: pcs (D.per d) x.f k (fr + cN (D.per d) fr (n + 1)) (n + 1 - cN (D.per d) fr (n + 1)) := by
      show (if n + 1 = 0 then [] else _) = _
      rw [if_neg (by omega)]
    refine pieces_loop K (dp := dp) (ap := ap) hok hx k _ _ A' (c + 1) m' (acc ++ [(x.f + fr / D.per d, fr % D.per d, cN (D.per d) fr (n + 1))]) H (by omega) (by omega) (by rw [List.length_append]; simp; exact hc) (by omega) (fun A' m' H' hs => ?_) ?_
    · rw [List.append_assoc] at hs ⊢
      rw [show [(x.f + fr / D.per d, fr % D.per d, cN (D.per d) fr (n + 1))] ++ pcs (D.per d) x.f k (fr + cN (D.per d) fr (n + 1)) (n + 1 - cN (D.per d) fr (n + 1)) = pcs (D.per d) x.f (k + 1) fr (n + 1) by rw [e]; rfl] at hs ⊢
      exact hk A' m' H' hs
    · rw [List.flatMap_append]
      exact hs

theorem pieces_tr {p dp ap : Nat} {d : D} {x : X} (hok : Ok d) (hx : On d x) (fr n : Nat) (hf : fr + n ≤ x.w) : Tr Try.prog 41 #[.pointer (some ⟨p, 0, none⟩), .int .i64 fr, .int .i64 n] [pts p (pipO dp ap x), Dk dp d] fun v M =>
    ∃ A m, v = .tuple #[.slice A (pcs (D.per d) x.f n fr n).length m, .int .i64 0] ∧ M = [pts p (pipO dp ap x), Dk dp d, Own 110 3 A (pcs (D.per d) x.f n fr n).length m ((pcs (D.per d) x.f n fr n).flatMap pcV)] := fun H hs => by
  have hp := Ok.per_le hok
  have hsec := hok.sec
  have hroom : x.s * D.per d ≤ 1048576 * 512 := Nat.mul_le_mul (by have := hx.fit; omega) (by omega)
  have h4 := hx.room
  apply W_stream_Pipe_pieces.ok
  unfold W_stream_Pipe_pieces
  refine BIf_dneg (by omega) ?_
  refine HCalls.use (words_s hs 0 rfl) ?_
  try simp only [DI_int', DB_bool, DS_string, DP_pointer, DSl_slice, DM_map, DA_agg, DTup_tuple, DCons_cons, DNil_nil, NN_some, BIf_true, BIf_false, BIf_same, List.toList_toArray, Bool.not_true, Bool.not_false]
  refine BIf_dneg (by omega) ?_
  refine HCalls.use (words_s hs 0 rfl) ?_
  try simp only [DI_int', DB_bool, DS_string, DP_pointer, DSl_slice, DM_map, DA_agg, DTup_tuple, DCons_cons, DNil_nil, NN_some, BIf_true, BIf_false, BIf_same, List.toList_toArray, Bool.not_true, Bool.not_false]
  rw [i64w (x := (x.w : Int) - fr) (by omega) (by omega)]
  refine BIf_dneg (by omega) ⟨n + 1, ?_⟩
  have e0 : Sep [pts p (pipO dp ap x), Dk dp d, Own 110 3 none 0 0 (([] : List (Nat × Nat × Nat)).flatMap pcV)] H := by
    have : Sep (Own 110 3 none 0 0 [] :: [pts p (pipO dp ap x), Dk dp d]) H := ⟨fun _ => none, H, fun _ _ h => (nomatch h), Hp.le_refl _, fun _ => .inl rfl, Own.none _ _ _, hs⟩
    exact this.re [1, 2, 0] rfl
  refine pieces_loop _ (dp := dp) (ap := ap) hok hx n fr n none 0 0 [] H (Nat.le_refl _) hf rfl (by omega) (fun A' m' H' hs => ?_) e0
  exact ⟨_, ⟨A', m', rfl, rfl⟩, hs⟩

/-- Words that aren't there. -/
theorem pieces_no {p dp ap : Nat} {x : X} (fr : Int) (n : Nat) (hw : x.w ≤ 9000000000000000000) (hf : fr < 0 ∨ (x.w : Int) < fr + n) (hn : n ≤ 9000000000000000000) {L : List As} {H : Hp} (hs : Sep L H) (i : Nat) (hi : L[i]? = some (pts p (pipO dp ap x))) :
    HCalls Try.prog 41 #[.pointer (some ⟨p, 0, none⟩), .int .i64 fr, .int .i64 n] H (RetE (.tuple #[.slice none 0 0, .int .i64 2]) H) := by
  apply W_stream_Pipe_pieces.ok
  unfold W_stream_Pipe_pieces
  by_cases h1 : fr < 0
  · exact BIf_dpos h1 (RetE.mk _ _)
  refine BIf_dneg h1 ?_
  refine HCalls.use (words_s hs i hi) ?_
  try simp only [DI_int', DB_bool, DS_string, DP_pointer, DSl_slice, DM_map, DA_agg, DTup_tuple, DCons_cons, DNil_nil, NN_some, BIf_true, BIf_false, BIf_same, List.toList_toArray, Bool.not_true, Bool.not_false]
  by_cases h2 : fr > x.w
  · exact BIf_dpos h2 (RetE.mk _ _)
  refine BIf_dneg h2 ?_
  refine HCalls.use (words_s hs i hi) ?_
  try simp only [DI_int', DB_bool, DS_string, DP_pointer, DSl_slice, DM_map, DA_agg, DTup_tuple, DCons_cons, DNil_nil, NN_some, BIf_true, BIf_false, BIf_same, List.toList_toArray, Bool.not_true, Bool.not_false]
  rw [i64w (x := (x.w : Int) - fr) (by omega) (by omega)]
  exact BIf_dpos (by omega) (RetE.mk _ _)

/-- A word of a pipe. -/
def pw (d : D) (x : X) (i : Nat) : UInt64 := ((wordsB (d.now ((x.f + i / D.per d : Nat) : Int)))[i % D.per d]?).getD 0
def pws (d : D) (x : X) (fr n : Nat) : List UInt64 := (List.range n).map fun i => pw d x (fr + i)
theorem pws_len (d : D) (x : X) (fr n : Nat) : (pws d x fr n).length = n := by simp [pws]
theorem pws_add (d : D) (x : X) (fr a b : Nat) : pws d x fr (a + b) = pws d x fr a ++ pws d x (fr + a) b := by
  unfold pws
  rw [List.range_add, List.map_append, List.map_map]
  congr 1
  apply List.map_congr_left
  intro i _
  simp only [Function.comp]
  congr 1; omega

theorem piece_words {d : D} (hok : Ok d) (x : X) {fr k : Nat} (h : fr % D.per d + k ≤ D.per d) : ((wordsB (d.now ((x.f + fr / D.per d : Nat) : Int))).drop (fr % D.per d)).take k = pws d x fr k := by
  have hp := Ok.per_le hok
  apply List.ext_getElem?
  intro i
  unfold pws
  rw [List.getElem?_take, List.getElem?_map]
  by_cases hi : i < k
  · rw [if_pos hi, List.getElem?_drop, List.getElem?_range hi]
    simp only [Option.map_some]
    have hlen : (wordsB (d.now ((x.f + fr / D.per d : Nat) : Int))).length = D.per d := by
      rw [wordsB_len, hok.now]; rfl
    unfold pw
    have e := Nat.div_add_mod fr (D.per d)
    have h1 : (fr + i) / D.per d = fr / D.per d := by
      rw [Nat.div_eq_of_lt_le]
      · rw [Nat.mul_comm]; omega
      · rw [Nat.succ_mul, Nat.mul_comm]; omega
    have h2 : (fr + i) % D.per d = fr % D.per d + i := by
      have := Nat.div_add_mod (fr + i) (D.per d)
      rw [h1] at this
      omega
    rw [h1, h2, List.getElem?_eq_getElem (by rw [hlen]; omega)]
    rfl
  · rw [if_neg hi, List.getElem?_eq_none (by simp; omega)]
    rfl

def D.rdN (d : D) (t : Nat) : D := { d with rd := d.rd + t }
theorem Ok.rdN {d : D} (h : Ok d) (t : Nat) : Ok (D.rdN d t) := ⟨h.sec, h.size, h.big, h.per, h.safe, h.cache, h.fz⟩
theorem Calm.rdN {d : D} (h : Calm d) (t : Nat) : Calm (D.rdN d t) := ⟨h.down, h.fuse⟩
theorem rdN_zero (d : D) : D.rdN d 0 = d := rfl
theorem rdN_more (d : D) (t : Nat) : D.more (D.rdN d t) = D.rdN d (t + 1) := rfl

theorem read_loop (K : Value → Hp → Prop) {p dp ap : Nat} {d : D} {x : X} (hok : Ok d) (hc : Calm d) (hx : On d x) {cap peak : Int} {bufs : List (Nat × Nat × Option Addr)} {b rb mb : Nat} (hbm : ∀ y ∈ bufs, y.1 ≠ b) {rl off0 fr0 mm vb : Nat} {el : TypeId} {xs : List Value} {A4 : Option Addr} {n4 m4 : Nat} {all : List (Nat × Nat × Nat)} (hn4 : n4 = all.length) (hn40 : n4 ≤ 1000000000) (ho : d.rd ≤ 4611686010000000000)
    (hK : ∀ H, Sep [pts p (pipO dp ap x), Dk dp (D.rdN d n4), Ar ap cap peak bufs, pts rl (.row (setAt xs off0 (wordVals (pws d x fr0 (all.map (·.2.2)).sum))) el mm)] H → K (.int .i64 0) H) :
    ∀ (k fr n j off : Nat) (A : Option Addr) (m : Nat) (ws : List UInt64) (H : Hp), n ≤ k → fr + n ≤ x.w → n ≤ m → all.drop j = pcs (D.per d) x.f k fr n → j ≤ n4 → fr0 + off = fr → ((all.take j).map (·.2.2)).sum = off → off0 + off + n ≤ xs.length → (0 < n → A = some ⟨rl, off0 + off, none⟩) → ws.length = D.per d →
      Sep [pts p (pipO dp ap x), Dk dp (D.rdN d j), Ar ap cap peak (bufs ++ [(b, D.per d, some ⟨rb, 0, none⟩)]), pts rb (.row (wordVals ws) 62 mb), Own 110 3 A4 n4 m4 (all.flatMap pcV), pts rl (.row (setAt xs off0 (wordVals (pws d x fr0 off))) el mm), pts vb (.row [.pointer (some ⟨b, 0, none⟩)] 105 1)] H →
      W_stream_Pipe_Read.l9 K (k + 1) (some ⟨p, 0, none⟩) A n m (some ⟨b, 0, none⟩) A4 n4 m4 (n4 : Int) (j : Int) (some ⟨ap, 0, none⟩) (some ⟨vb, 0, none⟩) 1 1 H
  | k, fr, 0, j, off, A, m, ws, H, hn, hf, hm, hall, hj, hoff, hsum, hlen, hA, hws, hs => by
    unfold W_stream_Pipe_Read.l9
    have e : pcs (D.per d) x.f k fr 0 = [] := by cases k <;> simp [pcs]
    rw [e] at hall
    have hjn : j = n4 := by
      have := congrArg List.length hall
      simp at this; omega
    subst hjn
    refine BIf_dneg (by omega) ?_
    have htake : all.take j = all := List.take_of_length_le (by omega)
    rw [htake] at hsum
    refine (Give_oneD vb b (D.per d) (some ⟨rb, 0, none⟩) hbm).use hs [2, 6] rfl rfl ?_
    rintro _ _ H ⟨rfl, rfl⟩ hs
    refine hK H ?_
    rw [hsum]
    exact hs.re [1, 2, 0, 5] rfl
  | 0, fr, n + 1, j, off, A, m, ws, H, hn, hf, hm, hall, hj, hoff, hsum, hlen, hA, hws, hs => by omega
  | k + 1, fr, n + 1, j, off, A, m, ws, H, hn, hf, hm, hall, hj, hoff, hsum, hlen, hA, hws, hs => by
    have hp := Ok.per_le hok
    have hsec := hok.sec
    have hroom : x.s * D.per d ≤ 1048576 * 512 := Nat.mul_le_mul (by have := hx.fit; omega) (by omega)
    have h4 := hx.room
    have hfit := hx.fit
    obtain rfl := hA (by omega)
    have e : pcs (D.per d) x.f (k + 1) fr (n + 1) = (x.f + fr / D.per d, fr % D.per d, cN (D.per d) fr (n + 1)) :: pcs (D.per d) x.f k (fr + cN (D.per d) fr (n + 1)) (n + 1 - cN (D.per d) fr (n + 1)) := by
      show (if n + 1 = 0 then [] else _) = _
      rw [if_neg (by omega)]
    rw [e] at hall
    have hjlt : j < all.length := by
      have := congrArg List.length hall
      simp at this; omega
    have hcle := cN_le (D.per d) fr (n + 1)
    have hcpos := cN_pos (per := D.per d) (fr := fr) (n := n + 1) (by omega) (by omega)
    have hcper := cN_per (per := D.per d) (fr := fr) (n := n + 1) (by omega)
    have hmod := Nat.mod_lt fr (show 0 < D.per d by omega)
    have hdiv : fr / D.per d < x.s := by
      rw [Nat.div_lt_iff_lt_mul (by omega)]; omega
    have hget : all[j] = (x.f + fr / D.per d, fr % D.per d, cN (D.per d) fr (n + 1)) := by
      have := List.drop_eq_getElem_cons hjlt
      rw [this] at hall
      exact (List.cons.inj hall).1
    have hrest : all.drop (j + 1) = pcs (D.per d) x.f k (fr + cN (D.per d) fr (n + 1)) (n + 1 - cN (D.per d) fr (n + 1)) := by
      have := List.drop_eq_getElem_cons hjlt
      rw [this] at hall
      exact (List.cons.inj hall).2
    generalize hcv : cN (D.per d) fr (n + 1) = c at *
    have hflat : ∀ (l : List (Nat × Nat × Nat)) (i : Nat) (hi : i < l.length), ((l.flatMap pcV).drop (i * 3)).take 3 = pcV l[i] := by
      intro l
      induction l with
      | nil => intro i hi; simp at hi
      | cons y l ih =>
        intro i hi
        rw [List.flatMap_cons]
        cases i with
        | zero => simp [pcV]
        | succ i =>
          rw [show (i + 1) * 3 = (pcV y).length + i * 3 by simp [pcV]; omega, List.drop_append]
          simp only [Nat.add_sub_cancel_left, List.getElem_cons_succ]
          rw [List.drop_eq_nil_of_le (by omega), List.nil_append]
          exact ih i (by simpa using hi)
    unfold W_stream_Pipe_Read.l9
    refine BIf_dpos (by omega) ?_
    refine (hs.own 4 rfl).rdA (ys := pcV all[j]) rfl (by omega) (hflat all j hjlt) ?_
    rw [hget]
    refine hs.nw fun b2 H hs => ?_
    refine hs.stw 7 rfl rfl rfl rfl fun H hs => ?_
    have hs : Sep [pts p (pipO dp ap x), Dk dp (D.rdN d j), Ar ap cap peak (bufs ++ [(b, D.per d, some ⟨rb, 0, none⟩)]), pts rb (.row (wordVals ws) 62 mb), Own 110 3 A4 n4 m4 (all.flatMap pcV), pts rl (.row (setAt xs off0 (wordVals (pws d x fr0 off))) el mm), pts vb (.row [.pointer (some ⟨b, 0, none⟩)] 105 1),
      pts b2 (.obj (.cells #[.int .i64 ((x.f + fr / D.per d : Nat) : Int), .int .i64 ((fr % D.per d : Nat) : Int), .int .i64 (c : Int)] 110))] H := hs
    simp only [NN_some, Addr.add_lit', Addr.add_zero, Nat.zero_add, Nat.add_zero]
    refine hs.ld 7 rfl rfl ?_
    simp only [DI_int', DB_bool, DS_string, DP_pointer, DSl_slice, DM_map, DA_agg, DTup_tuple, DCons_cons, DNil_nil, NN_some, BIf_true, BIf_false, BIf_same, List.toList_toArray, Bool.not_true, Bool.not_false]
    have hokj := Ok.rdN hok j
    refine (load_tr (p := p) (ap := ap) (x := x) (cap := cap) (peak := peak) (b := b) (rb := rb) (m := mb) hokj (Calm.rdN hc j) (by show d.rd + j ≤ _; omega) ((x.f + fr / D.per d : Nat) : Int) (Int.natCast_nonneg _) (Int.ofNat_lt.2 (by show _ < d.sec; omega)) (bufs := bufs ++ [(b, D.per d, some ⟨rb, 0, none⟩)]) (List.mem_append_right _ (List.mem_singleton.2 rfl)) (xs := wordVals ws) (by rw [wordVals_length]; exact hws)).use hs [0, 1, 2, 3] rfl rfl ?_
    rintro _ _ H ⟨rfl, rfl⟩ hs
    rw [rdN_more] at hs
    have hnow : D.now (D.rdN d j) ((x.f + fr / D.per d : Nat) : Int) = d.now ((x.f + fr / D.per d : Nat) : Int) := rfl
    rw [hnow] at hs
    have hwl : (wordsB (d.now ((x.f + fr / D.per d : Nat) : Int))).length = D.per d := by rw [wordsB_len, hok.now]; rfl
    simp only [DI_int', DB_bool, DS_string, DP_pointer, DSl_slice, DM_map, DA_agg, DTup_tuple, DCons_cons, DNil_nil, NN_some, BIf_true, BIf_false, BIf_same, List.toList_toArray, Bool.not_true, Bool.not_false]
    refine BIf_bnen rfl ?_
    refine hs.ld 7 rfl rfl ?_
    simp only [DI_int', DB_bool, DS_string, DP_pointer, DSl_slice, DM_map, DA_agg, DTup_tuple, DCons_cons, DNil_nil, NN_some, BIf_true, BIf_false, BIf_same, List.toList_toArray, Bool.not_true, Bool.not_false]
    refine slB_to rfl (by omega) ?_
    refine QCall.use (Words_s hs 2 rfl (List.mem_append_right _ (List.mem_singleton.2 rfl))) ?_
    simp only [DI_int', DB_bool, DS_string, DP_pointer, DSl_slice, DM_map, DA_agg, DTup_tuple, DCons_cons, DNil_nil, NN_some, BIf_true, BIf_false, BIf_same, List.toList_toArray, Bool.not_true, Bool.not_false]
    refine hs.ld 7 rfl rfl ?_
    simp only [DI_int', DB_bool, DS_string, DP_pointer, DSl_slice, DM_map, DA_agg, DTup_tuple, DCons_cons, DNil_nil, NN_some, BIf_true, BIf_false, BIf_same, List.toList_toArray, Bool.not_true, Bool.not_false]
    refine slB_from rfl (by omega) ?_
    rw [slA_zero, slA_at (by omega), Nat.zero_add]
    have hset : (setAt xs off0 (wordVals (pws d x fr0 off))).length = xs.length := setAt_length (by rw [wordVals_length, pws_len]; omega)
    refine hs.cp 5 (k := D.per d - fr % D.per d) (n := c - 0) (off := off0 + off) (ys := wordVals (pws d x fr c)) (by rfl) cell_u64 rfl ?_ ?_ (fun y hy => ?_) fun H hs => ?_
    · have hmin : Nat.min (D.per d - fr % D.per d) (c - 0) = c := Nat.min_eq_right (by omega)
      rw [hmin]
      show H.cells? ⟨rb, fr % D.per d, none⟩ 0 (c * 1) = _
      rw [Nat.mul_one, cells_row (hs.get 3 (b := rb) (o := .row (wordVals (wordsB (d.now ((x.f + fr / D.per d : Nat) : Int)))) 62 mb) rfl) (fr % D.per d) c 0 (by rw [wordVals_length, hwl]; omega)]
      rw [← piece_words hok x (fr := fr) (k := c) (by omega)]
      unfold wordVals
      rw [List.map_take, List.map_drop, Nat.add_zero]
    · rw [wordVals_length, pws_len, hset]; omega
    · obtain ⟨z, _, rfl⟩ := List.mem_map.1 hy; rfl
    simp only [DI_int', DB_bool, DS_string, DP_pointer, DSl_slice, DM_map, DA_agg, DTup_tuple, DCons_cons, DNil_nil, NN_some, BIf_true, BIf_false, BIf_same, List.toList_toArray, Bool.not_true, Bool.not_false]
    refine hs.ld 7 rfl rfl ?_
    simp only [DI_int', DB_bool, DS_string, DP_pointer, DSl_slice, DM_map, DA_agg, DTup_tuple, DCons_cons, DNil_nil, NN_some, BIf_true, BIf_false, BIf_same, List.toList_toArray, Bool.not_true, Bool.not_false]
    refine slB_from rfl (by omega) ?_
    rw [i64w (x := (j : Int) + 1) (by omega) (by omega)]
    have happ : setAt (setAt xs off0 (wordVals (pws d x fr0 off))) (off0 + off) (wordVals (pws d x fr c)) = setAt xs off0 (wordVals (pws d x fr0 (off + c))) := by
      have hl : (wordVals (pws d x fr0 off)).length = off := by rw [wordVals_length, pws_len]
      have := setAt_append (xs := xs) (us := wordVals (pws d x fr0 off)) (bs := wordVals (pws d x fr c)) (off := off0) (by rw [hl, wordVals_length, pws_len]; omega)
      rw [hl] at this
      rw [this, pws_add, hoff]
      unfold wordVals
      rw [List.map_append]
    have hsum' : ((all.take (j + 1)).map (·.2.2)).sum = off + c := by
      rw [List.take_succ_eq_append_getElem hjlt, List.map_append, List.sum_append, hsum, hget]
      simp
    refine read_loop K (rb := rb) (mb := mb) hok hc hx hbm hn4 hn40 ho hK k (fr + c) (n + 1 - c) (j + 1) (off + c) _ (m - c) (wordsB (d.now ((x.f + fr / D.per d : Nat) : Int))) H (by omega) (by omega) (by omega) hrest (by omega) (by omega) hsum' (by omega) (fun h0 => ?_) hwl ?_
    · rw [slA_at (by omega), Nat.add_assoc]
    · rw [← happ]
      exact hs.re [0, 1, 2, 3, 4, 5, 6] rfl

theorem pcs_sum (per f : Nat) (hp : 0 < per) : ∀ (k fr n : Nat), n ≤ k → ((pcs per f k fr n).map (·.2.2)).sum = n
  | k, fr, 0, _ => by cases k <;> simp [pcs]
  | 0, fr, n + 1, h => by omega
  | k + 1, fr, n + 1, h => by
    have hcle := cN_le per fr (n + 1)
    have hcpos := cN_pos (per := per) (fr := fr) (n := n + 1) hp (by omega)
    unfold pcs
    rw [if_neg (by omega), List.map_cons, List.sum_cons, pcs_sum per f hp k _ _ (by omega)]
    show cN per fr (n + 1) + _ = _
    omega

theorem pcs_len (per f : Nat) : ∀ (k fr n : Nat), (pcs per f k fr n).length ≤ k
  | 0, _, _ => by simp [pcs]
  | k + 1, fr, n => by
    unfold pcs
    split
    · simp
    · have := pcs_len per f k (fr + cN per fr n) (n - cN per fr n)
      simp only [List.length_cons]; omega

def mx (a b : Int) : Int := if b > a then b else a

/-- Words are read. -/
theorem Read_tr {p dp ap : Nat} {d : D} {x : X} {cap peak : Int} {bufs : List (Nat × Nat × Option Addr)} {rl off mm : Nat} {el : TypeId} {xs : List Value} (hok : Ok d) (hc : Calm d) (hx : On d x) (ho : d.rd ≤ 4611686010000000000) (fr n m : Nat) (hn : 1 ≤ n) (hf : fr + n ≤ x.w) (hm : n ≤ m) (hl : off + n ≤ xs.length) (hcap : (D.per d : Int) ≤ cap - sumB bufs) :
    Tr Try.prog 20 #[.pointer (some ⟨p, 0, none⟩), .int .i64 fr, .slice (some ⟨rl, off, none⟩) n m] [pts p (pipO dp ap x), Dk dp d, Ar ap cap peak bufs, pts rl (.row xs el mm)] fun v M =>
      v = .int .i64 0 ∧ M = [pts p (pipO dp ap x), Dk dp (D.rdN d (pcs (D.per d) x.f n fr n).length), Ar ap cap (mx peak (sumB bufs + D.per d)) bufs, pts rl (.row (setAt xs off (wordVals (pws d x fr n))) el mm)] := fun H hs => by
  have hp := Ok.per_le hok
  have hsec := hok.sec
  have hroom : x.s * D.per d ≤ 1048576 * 512 := Nat.mul_le_mul (by have := hx.fit; omega) (by omega)
  have h4 := hx.room
  have hpl := pcs_len (D.per d) x.f n fr n
  apply W_stream_Pipe_Read.ok
  unfold W_stream_Pipe_Read
  refine (pieces_tr (dp := dp) (ap := ap) hok hx fr n hf).use hs [0, 1] rfl rfl ?_
  rintro _ _ H ⟨A4, m4, rfl, rfl⟩ hs
  simp only [DI_int', DB_bool, DS_string, DP_pointer, DSl_slice, DM_map, DA_agg, DTup_tuple, DCons_cons, DNil_nil, NN_some, BIf_true, BIf_false, BIf_same, List.toList_toArray, Bool.not_true, Bool.not_false]
  refine BIf_bnen rfl (BIf_beqn (by omega) ?_)
  simp only [NN_some, Addr.add_lit', Addr.add_zero, Nat.zero_add, Nat.add_zero]
  have rest : ∀ (b rb : Nat) (H : Hp), (∀ y ∈ bufs, y.1 ≠ b) → Sep [Ar ap cap (if sumB bufs + D.per d > peak then sumB bufs + D.per d else peak) (bufs ++ [(b, D.per d, some ⟨rb, 0, none⟩)]), pts rb (.row (zerosU64 (D.per d)) 62 (D.per d)), pts p (pipO dp ap x), Dk dp d, Own 110 3 A4 (pcs (D.per d) x.f n fr n).length m4 ((pcs (D.per d) x.f n fr n).flatMap pcV), pts rl (.row xs el mm)] H →
      W_stream_Pipe_Read.j5 (fun v H' => ∃ M, (v = .int .i64 0 ∧ M = [pts p (pipO dp ap x), Dk dp (D.rdN d (pcs (D.per d) x.f n fr n).length), Ar ap cap (mx peak (sumB bufs + D.per d)) bufs, pts rl (.row (setAt xs off (wordVals (pws d x fr n))) el mm)]) ∧ Sep M H') (some ⟨p, 0, none⟩) (some ⟨rl, off, none⟩) n m A4 (pcs (D.per d) x.f n fr n).length m4 (0 : Int) (some ⟨b, 0, none⟩) H := fun b rb H hbm hs => by
    unfold W_stream_Pipe_Read.j5
    refine BIf_bnen rfl ?_
    simp only [NN_some, Addr.add_lit', Addr.add_zero, Nat.zero_add, Nat.add_zero]
    refine hs.ld 2 rfl rfl ?_
    simp only [DI_int', DB_bool, DS_string, DP_pointer, DSl_slice, DM_map, DA_agg, DTup_tuple, DCons_cons, DNil_nil, NN_some, BIf_true, BIf_false, BIf_same, List.toList_toArray, Bool.not_true, Bool.not_false]
    refine hs.nw fun vb H hs => ?_
    refine ⟨n + 1, ?_⟩
    have hz : zerosU64 (D.per d) = wordVals (List.replicate (D.per d) 0) := by
      unfold zerosU64
      rw [zeroRow_one]
      unfold wordVals
      rw [List.map_replicate]; rfl
    refine read_loop _ (p := p) (dp := dp) (ap := ap) (d := d) (x := x) (cap := cap) (peak := mx peak (sumB bufs + D.per d)) (bufs := bufs) (b := b) (rb := rb) (mb := D.per d) (rl := rl) (off0 := off) (fr0 := fr) (mm := mm) (vb := vb) (el := el) (xs := xs) hok hc hx hbm rfl (by omega) ho (fun H hs => ?_) n fr n 0 0 _ m (List.replicate (D.per d) 0) H (Nat.le_refl _) hf hm rfl (Nat.zero_le _) (by omega) rfl (by omega) (fun _ => rfl) (by simp) ?_
    · rw [pcs_sum _ _ (by omega) n fr n (Nat.le_refl _)] at hs
      exact ⟨_, ⟨rfl, rfl⟩, hs⟩
    · rw [← hz, show setAt xs off (wordVals (pws d x fr 0)) = xs from setAt_nil xs off, rdN_zero]
      exact hs.re [2, 3, 0, 1, 4, 5, 6] rfl
  have fresh : ∀ {L : List As} {H : Hp} (b rb : Nat) (pk : Int), Sep L H → L[0]? = some (Ar ap cap pk (bufs ++ [(b, D.per d, some ⟨rb, 0, none⟩)])) → ∀ y ∈ bufs, y.1 ≠ b := fun b rb pk hs h0 y hy e => by
    obtain ⟨mp, cl, tk, hA⟩ := Sep.ar hs 0 h0
    have := hA.bn
    rw [List.map_append, List.nodup_append] at this
    exact this.2.2 y.1 (List.mem_map_of_mem hy) b (by simp) e
  refine ⟨?_, ?_⟩
  · refine hs.ld 0 rfl rfl ?_
    simp only [DI_int', DB_bool, DS_string, DP_pointer, DSl_slice, DM_map, DA_agg, DTup_tuple, DCons_cons, DNil_nil, NN_some, BIf_true, BIf_false, BIf_same, List.toList_toArray, Bool.not_true, Bool.not_false]
    refine HCalls.use (per_s hs 0 1 rfl rfl hok) ?_
    try simp only [DI_int', DB_bool, DS_string, DP_pointer, DSl_slice, DM_map, DA_agg, DTup_tuple, DCons_cons, DNil_nil, NN_some, BIf_true, BIf_false, BIf_same, List.toList_toArray, Bool.not_true, Bool.not_false]
    refine (Take_tr (a := ap) (cap := cap) (peak := peak) (bufs := bufs) (n := D.per d) (by omega) hcap).use hs [3] rfl rfl ?_
    rintro _ _ H ⟨b, rb, rfl, rfl⟩ hs
    simp only [DI_int', DB_bool, DS_string, DP_pointer, DSl_slice, DM_map, DA_agg, DTup_tuple, DCons_cons, DNil_nil, NN_some, BIf_true, BIf_false, BIf_same, List.toList_toArray, Bool.not_true, Bool.not_false]
    exact rest b rb H (fresh b rb _ hs rfl) (hs.re [0, 1, 2, 3, 4, 5] rfl)
  · refine HCalls.use (per_s hs 0 1 rfl rfl hok) ?_
    try simp only [DI_int', DB_bool, DS_string, DP_pointer, DSl_slice, DM_map, DA_agg, DTup_tuple, DCons_cons, DNil_nil, NN_some, BIf_true, BIf_false, BIf_same, List.toList_toArray, Bool.not_true, Bool.not_false]
    refine hs.ld 0 rfl rfl ?_
    simp only [DI_int', DB_bool, DS_string, DP_pointer, DSl_slice, DM_map, DA_agg, DTup_tuple, DCons_cons, DNil_nil, NN_some, BIf_true, BIf_false, BIf_same, List.toList_toArray, Bool.not_true, Bool.not_false]
    refine (Take_tr (a := ap) (cap := cap) (peak := peak) (bufs := bufs) (n := D.per d) (by omega) hcap).use hs [3] rfl rfl ?_
    rintro _ _ H ⟨b, rb, rfl, rfl⟩ hs
    simp only [DI_int', DB_bool, DS_string, DP_pointer, DSl_slice, DM_map, DA_agg, DTup_tuple, DCons_cons, DNil_nil, NN_some, BIf_true, BIf_false, BIf_same, List.toList_toArray, Bool.not_true, Bool.not_false]
    exact rest b rb H (fresh b rb _ hs rfl) (hs.re [0, 1, 2, 3, 4, 5] rfl)

end Go.Proofs.Ytbnhfcdagoigkaa.Str

/- stream: Write. -/
set_option maxRecDepth 100000
set_option linter.unusedSimpArgs false
set_option linter.unusedVariables false
set_option linter.unnecessarySimpa false
set_option linter.unusedSectionVars false
namespace Go.Proofs.Ytbnhfcdagoigkaa.Str
open Go Go.Hw Go.Form Go.Proofs.Ytbnhfcdagoigkaa.W Go.Proofs.Ytbnhfcdagoigkaa.Dsk Go.Proofs.Ytbnhfcdagoigkaa.Are

/-- Words are written over others. -/
def setW (ws : List UInt64) (at' : Nat) (src : List UInt64) : List UInt64 := ws.take at' ++ src ++ ws.drop (at' + src.length)
theorem setW_len {ws src : List UInt64} {i : Nat} (h : i + src.length ≤ ws.length) : (setW ws i src).length = ws.length := by
  unfold setW; simp; omega
theorem setW_vals (ws src : List UInt64) (i : Nat) : setAt (wordVals ws) i (wordVals src) = wordVals (setW ws i src) := by
  unfold setAt setW wordVals
  simp

/-- A piece is written. -/
def wpc (d : D) (s : Nat) (at' : Nat) (src : List UInt64) : D := D.put (if src.length < D.per d then D.more d else d) s (setW (wordsB (d.now s)) at' src)
/-- All are. -/
def wrs (d : D) (x : X) : Nat → Nat → List UInt64 → D
  | 0, _, _ => d
  | k + 1, fr, src => if src = [] then d else wrs (wpc d (x.f + fr / D.per d) (fr % D.per d) (src.take (cN (D.per d) fr src.length))) x k (fr + cN (D.per d) fr src.length) (src.drop (cN (D.per d) fr src.length))

theorem put_now (d : D) (s : Int) (ws : List UInt64) (i : Int) : (D.put d s ws).now i = if i = s then form ws else d.now i := by
  unfold D.put D.now updB
  by_cases h : i = s
  · simp [h]
  · simp only [h, if_false]; rfl

theorem Ok.put {d : D} (h : Ok d) (i : Int) {ws : List UInt64} (hw : ws.length = D.per d) : Ok (D.put d i ws) := by
  have hp := Ok.per_le h
  refine ⟨h.sec, h.size, h.big, h.per, h.safe, fun k b hb => ?_, h.fz⟩
  have hb' : (if k = i then some (form ws) else d.cache k) = some b := hb
  split at hb'
  · cases hb'
    rw [form_length]; show 8 * ws.length = d.size; omega
  · exact h.cache k b hb'
theorem Ok.more {d : D} (h : Ok d) : Ok (D.more d) := Ok.rdN h 1
theorem Calm.put {d : D} (h : Calm d) (i : Int) (ws : List UInt64) : Calm (D.put d i ws) := ⟨h.down, h.fuse⟩
theorem Calm.more {d : D} (h : Calm d) : Calm (D.more d) := ⟨h.down, h.fuse⟩

theorem wpc_ok {d : D} (h : Ok d) (s at' : Nat) {src : List UInt64} (hl : at' + src.length ≤ D.per d) : Ok (wpc d s at' src) := by
  have hwl : (wordsB (d.now (s : Int))).length = D.per d := by rw [wordsB_len, h.now]; rfl
  unfold wpc
  split
  · exact Ok.put (Ok.more h) _ (by rw [setW_len (by omega)]; exact hwl)
  · exact Ok.put h _ (by rw [setW_len (by omega)]; exact hwl)
theorem wpc_calm {d : D} (h : Calm d) (s at' : Nat) (src : List UInt64) : Calm (wpc d s at' src) := by
  unfold wpc
  split
  · exact Calm.put (Calm.more h) _ _
  · exact Calm.put h _ _
theorem wpc_size (d : D) (s at' : Nat) (src : List UInt64) : (wpc d s at' src).size = d.size ∧ (wpc d s at' src).sec = d.sec := by
  unfold wpc
  split <;> exact ⟨rfl, rfl⟩
theorem wpc_per (d : D) (s at' : Nat) (src : List UInt64) : D.per (wpc d s at' src) = D.per d := by unfold D.per; rw [(wpc_size d s at' src).1]
theorem wpc_cnt (d : D) (s at' : Nat) (src : List UInt64) : (wpc d s at' src).wr = d.wr + 1 ∧ (wpc d s at' src).rd = d.rd + (if src.length < D.per d then 1 else 0) ∧ (wpc d s at' src).sy = d.sy := by
  unfold wpc
  split
  · exact ⟨rfl, rfl, rfl⟩
  · exact ⟨rfl, rfl, rfl⟩
theorem wpc_now (d : D) (s at' : Nat) (src : List UInt64) (i : Int) : (wpc d s at' src).now i = if i = s then form (setW (wordsB (d.now s)) at' src) else d.now i := by
  unfold wpc
  rw [put_now]
  split
  · rfl
  · split <;> rfl

theorem write_loop (K : Value → Hp → Prop) {p dp ap : Nat} {x : X} {cap peak : Int} {bufs : List (Nat × Nat × Option Addr)} {b rb mb : Nat} (hbm : ∀ y ∈ bufs, y.1 ≠ b) {vb : Nat} {R : As} {A4 : Option Addr} {n4 m4 : Nat} {all : List (Nat × Nat × Nat)} (hn4 : n4 = all.length) (hn40 : n4 ≤ 1000000000) :
    ∀ (k fr j : Nat) (d : D) (A : Option Addr) (m : Nat) (src ws : List UInt64) (H : Hp), Ok d → Calm d → On d x → d.rd + k ≤ 4611686010000000000 → d.wr + k ≤ 4611686010000000000 → src.length ≤ k → fr + src.length ≤ x.w → src.length ≤ m → all.drop j = pcs (D.per d) x.f k fr src.length → j ≤ n4 → (∀ H, R H → Cells H A (wordVals src)) → ws.length = D.per d →
      (∀ H, Sep [pts p (pipO dp ap x), Dk dp (wrs d x k fr src), Ar ap cap peak bufs, R] H → K (.int .i64 0) H) →
      Sep [pts p (pipO dp ap x), Dk dp d, Ar ap cap peak (bufs ++ [(b, D.per d, some ⟨rb, 0, none⟩)]), pts rb (.row (wordVals ws) 62 mb), Own 110 3 A4 n4 m4 (all.flatMap pcV), R, pts vb (.row [.pointer (some ⟨b, 0, none⟩)] 105 1)] H →
      W_stream_Pipe_Write.l9 K (k + 1) (some ⟨p, 0, none⟩) A src.length m (some ⟨b, 0, none⟩) A4 n4 m4 (n4 : Int) (j : Int) (some ⟨ap, 0, none⟩) (some ⟨vb, 0, none⟩) 1 1 H
  | k, fr, j, d, A, m, [], ws, H, hok, hc, hx, hrd, hwr, hn, hf, hm, hall, hj, hR, hws, hK, hs => by
    unfold W_stream_Pipe_Write.l9
    have e : pcs (D.per d) x.f k fr ([] : List UInt64).length = [] := by cases k <;> simp [pcs]
    have e2 : wrs d x k fr [] = d := by cases k <;> simp [wrs]
    rw [e] at hall
    have hjn : j = n4 := by
      have := congrArg List.length hall
      simp at this; omega
    subst hjn
    refine BIf_dneg (by omega) ?_
    refine (Give_oneD vb b (D.per d) (some ⟨rb, 0, none⟩) hbm).use hs [2, 6] rfl rfl ?_
    rintro _ _ H ⟨rfl, rfl⟩ hs
    refine hK H ?_
    rw [e2]
    exact hs.re [1, 2, 0, 5] rfl
  | 0, fr, j, d, A, m, w0 :: src0, ws, H, hok, hc, hx, hrd, hwr, hn, hf, hm, hall, hj, hR, hws, hK, hs => by simp at hn
  | k + 1, fr, j, d, A, m, w0 :: src0, ws, H, hok, hc, hx, hrd, hwr, hn, hf, hm, hall, hj, hR, hws, hK, hs => by
    generalize hsrc : w0 :: src0 = src at *
    have hne : src ≠ [] := by rw [← hsrc]; simp
    have hpos : 0 < src.length := by rw [← hsrc]; simp
    have hp := Ok.per_le hok
    have hsec := hok.sec
    have hroom : x.s * D.per d ≤ 1048576 * 512 := Nat.mul_le_mul (by have := hx.fit; omega) (by omega)
    have h4 := hx.room
    have hfit := hx.fit
    have e : pcs (D.per d) x.f (k + 1) fr src.length = (x.f + fr / D.per d, fr % D.per d, cN (D.per d) fr src.length) :: pcs (D.per d) x.f k (fr + cN (D.per d) fr src.length) (src.length - cN (D.per d) fr src.length) := by
      show (if src.length = 0 then [] else _) = _
      rw [if_neg (by omega)]
    have ew : wrs d x (k + 1) fr src = wrs (wpc d (x.f + fr / D.per d) (fr % D.per d) (src.take (cN (D.per d) fr src.length))) x k (fr + cN (D.per d) fr src.length) (src.drop (cN (D.per d) fr src.length)) := by
      show (if src = [] then d else _) = _
      rw [if_neg hne]
    rw [e] at hall
    rw [ew] at hK
    have hjlt : j < all.length := by
      have := congrArg List.length hall
      simp at this; omega
    have hcle := cN_le (D.per d) fr src.length
    have hcpos := cN_pos (per := D.per d) (fr := fr) (n := src.length) (by omega) hpos
    have hcper := cN_per (per := D.per d) (fr := fr) (n := src.length) (by omega)
    have hmod := Nat.mod_lt fr (show 0 < D.per d by omega)
    have hdiv : fr / D.per d < x.s := by
      rw [Nat.div_lt_iff_lt_mul (by omega)]; omega
    have hget : all[j] = (x.f + fr / D.per d, fr % D.per d, cN (D.per d) fr src.length) := by
      have := List.drop_eq_getElem_cons hjlt
      rw [this] at hall
      exact (List.cons.inj hall).1
    have hrest : all.drop (j + 1) = pcs (D.per d) x.f k (fr + cN (D.per d) fr src.length) (src.length - cN (D.per d) fr src.length) := by
      have := List.drop_eq_getElem_cons hjlt
      rw [this] at hall
      exact (List.cons.inj hall).2
    generalize hcv : cN (D.per d) fr src.length = c at *
    have hflat : ∀ (l : List (Nat × Nat × Nat)) (i : Nat) (hi : i < l.length), ((l.flatMap pcV).drop (i * 3)).take 3 = pcV l[i] := by
      intro l
      induction l with
      | nil => intro i hi; simp at hi
      | cons y l ih =>
        intro i hi
        rw [List.flatMap_cons]
        cases i with
        | zero => simp [pcV]
        | succ i =>
          rw [show (i + 1) * 3 = (pcV y).length + i * 3 by simp [pcV]; omega, List.drop_append]
          simp only [Nat.add_sub_cancel_left, List.getElem_cons_succ]
          rw [List.drop_eq_nil_of_le (by omega), List.nil_append]
          exact ih i (by simpa using hi)
    have hsec1 : ((x.f + fr / D.per d : Nat) : Int) < (d.sec : Int) := Int.ofNat_lt.2 (by omega)
    have htk : (src.take c).length = c := by simp; omega
    have hwl : (wordsB (d.now ((x.f + fr / D.per d : Nat) : Int))).length = D.per d := by rw [wordsB_len, hok.now]; rfl
    unfold W_stream_Pipe_Write.l9
    refine BIf_dpos (by omega) ?_
    refine (hs.own 4 rfl).rdA (ys := pcV all[j]) rfl (by omega) (hflat all j hjlt) ?_
    rw [hget]
    refine hs.nw fun b2 H hs => ?_
    refine hs.stw 7 rfl rfl rfl rfl fun H hs => ?_
    have hs : Sep [pts p (pipO dp ap x), Dk dp d, Ar ap cap peak (bufs ++ [(b, D.per d, some ⟨rb, 0, none⟩)]), pts rb (.row (wordVals ws) 62 mb), Own 110 3 A4 n4 m4 (all.flatMap pcV), R, pts vb (.row [.pointer (some ⟨b, 0, none⟩)] 105 1),
      pts b2 (.obj (.cells #[.int .i64 ((x.f + fr / D.per d : Nat) : Int), .int .i64 ((fr % D.per d : Nat) : Int), .int .i64 (c : Int)] 110))] H := hs
    -- behind the load, if there was one
    have join : ∀ (d1 : D) (ws1 : List UInt64) (H : Hp), (d1 = if c < D.per d then D.more d else d) → ws1.length = D.per d → (c < D.per d → ws1 = wordsB (d.now ((x.f + fr / D.per d : Nat) : Int))) →
        Sep [pts p (pipO dp ap x), Dk dp d1, Ar ap cap peak (bufs ++ [(b, D.per d, some ⟨rb, 0, none⟩)]), pts rb (.row (wordVals ws1) 62 mb), Own 110 3 A4 n4 m4 (all.flatMap pcV), R, pts vb (.row [.pointer (some ⟨b, 0, none⟩)] 105 1),
          pts b2 (.obj (.cells #[.int .i64 ((x.f + fr / D.per d : Nat) : Int), .int .i64 ((fr % D.per d : Nat) : Int), .int .i64 (c : Int)] 110))] H →
        W_stream_Pipe_Write.j15 K (W_stream_Pipe_Write.l9 K (k + 1)) (some ⟨p, 0, none⟩) A src.length m (some ⟨b, 0, none⟩) ⟨b2, 0, none⟩ A4 n4 m4 (n4 : Int) (j : Int) (some ⟨ap, 0, none⟩) (some ⟨vb, 0, none⟩) 1 1 H := fun d1 ws1 H hd1 hw1 hwe hs => by
      have hd1p : D.per d1 = D.per d ∧ Ok d1 ∧ Calm d1 ∧ d1.wr = d.wr ∧ d1.sec = d.sec := by
        rw [hd1]; split
        · exact ⟨rfl, Ok.more hok, Calm.more hc, rfl, rfl⟩
        · exact ⟨rfl, hok, hc, rfl, rfl⟩
      obtain ⟨q1, q2, q3, q4, q5⟩ := hd1p
      have hwset : setW ws1 (fr % D.per d) (src.take c) = setW (wordsB (d.now ((x.f + fr / D.per d : Nat) : Int))) (fr % D.per d) (src.take c) := by
        by_cases hlt : c < D.per d
        · rw [hwe hlt]
        · have h0 : fr % D.per d = 0 := by omega
          unfold setW
          rw [h0, htk, List.drop_eq_nil_of_le (by omega), List.drop_eq_nil_of_le (by omega)]
          simp
      have hdisk : D.put d1 ((x.f + fr / D.per d : Nat) : Int) (setW ws1 (fr % D.per d) (src.take c)) = wpc d (x.f + fr / D.per d) (fr % D.per d) (src.take c) := by
        unfold wpc
        rw [hwset, hd1, htk]
      unfold W_stream_Pipe_Write.j15
      simp only [NN_some, Addr.add_lit', Addr.add_zero, Nat.zero_add, Nat.add_zero]
      refine QCall.use (Words_s hs 2 rfl (List.mem_append_right _ (List.mem_singleton.2 rfl))) ?_
      simp only [DI_int', DB_bool, DS_string, DP_pointer, DSl_slice, DM_map, DA_agg, DTup_tuple, DCons_cons, DNil_nil, NN_some, BIf_true, BIf_false, BIf_same, List.toList_toArray, Bool.not_true, Bool.not_false]
      refine hs.ld 7 rfl rfl ?_
      simp only [DI_int', DB_bool, DS_string, DP_pointer, DSl_slice, DM_map, DA_agg, DTup_tuple, DCons_cons, DNil_nil, NN_some, BIf_true, BIf_false, BIf_same, List.toList_toArray, Bool.not_true, Bool.not_false]
      refine slB_from rfl (by omega) ?_
      refine hs.ld 7 rfl rfl ?_
      simp only [DI_int', DB_bool, DS_string, DP_pointer, DSl_slice, DM_map, DA_agg, DTup_tuple, DCons_cons, DNil_nil, NN_some, BIf_true, BIf_false, BIf_same, List.toList_toArray, Bool.not_true, Bool.not_false]
      refine slB_to rfl (by omega) ?_
      rw [slA_at (by omega), Nat.zero_add]
      have hcell : ∀ {L : List As} {H : Hp}, Sep L H → L[5]? = some R → Cells H A (wordVals src) := fun hs h5 => by
        obtain ⟨H1, hR1, hle⟩ := hs.see 5 h5
        exact (hR H1 hR1).le hle
      refine hs.cp 3 (b := rb) (off := fr % D.per d) (n := D.per d - fr % D.per d) (k := c - 0) (xs := wordVals ws1) (e' := 62) (m := mb) (ys := wordVals (src.take c)) (by rfl) cell_u64 rfl ?_ ?_ (fun y hy => ?_) fun H hs => ?_
      · have hmin : Nat.min (c - 0) (D.per d - fr % D.per d) = c - 0 := Nat.min_eq_left (by omega)
        rw [hmin]
        have h1 := ((hcell hs rfl).shift (m := m) (l := 0) (by rw [wordVals_length]; omega)).take c
        rw [List.drop_zero, show (wordVals src).take c = wordVals (src.take c) by unfold wordVals; rw [List.map_take]] at h1
        exact src_of h1 (by rw [wordVals_length, htk]; omega)
      · rw [wordVals_length, wordVals_length, htk, hw1]; omega
      · obtain ⟨z, _, rfl⟩ := List.mem_map.1 hy; rfl
      simp only [DI_int', DB_bool, DS_string, DP_pointer, DSl_slice, DM_map, DA_agg, DTup_tuple, DCons_cons, DNil_nil, NN_some, BIf_true, BIf_false, BIf_same, List.toList_toArray, Bool.not_true, Bool.not_false]
      rw [setW_vals] at hs
      refine hs.ld 7 rfl rfl ?_
      simp only [DI_int', DB_bool, DS_string, DP_pointer, DSl_slice, DM_map, DA_agg, DTup_tuple, DCons_cons, DNil_nil, NN_some, BIf_true, BIf_false, BIf_same, List.toList_toArray, Bool.not_true, Bool.not_false]
      have hs : Sep [pts p (pipO dp ap x), Dk dp d1, Ar ap cap peak (bufs ++ [(b, D.per d, some ⟨rb, 0, none⟩)]), pts rb (.row (wordVals (setW ws1 (fr % D.per d) (src.take c))) 62 mb), Own 110 3 A4 n4 m4 (all.flatMap pcV), R, pts vb (.row [.pointer (some ⟨b, 0, none⟩)] 105 1),
          pts b2 (.obj (.cells #[.int .i64 ((x.f + fr / D.per d : Nat) : Int), .int .i64 ((fr % D.per d : Nat) : Int), .int .i64 (c : Int)] 110))] H := hs
      have hsl : (setW ws1 (fr % D.per d) (src.take c)).length = D.per d := by rw [setW_len (by omega)]; exact hw1
      refine (store_tr (p := p) (ap := ap) (x := x) (cap := cap) (peak := peak) (b := b) (rb := rb) (m := mb) (d := d1) (ws := setW ws1 (fr % D.per d) (src.take c)) q2 q3 (by omega) ((x.f + fr / D.per d : Nat) : Int) (Int.natCast_nonneg _) (by rw [q5]; exact hsec1) (bufs := bufs ++ [(b, D.per d, some ⟨rb, 0, none⟩)]) (by rw [q1]; exact List.mem_append_right _ (List.mem_singleton.2 rfl)) (by rw [q1]; exact hsl)).use hs [0, 1, 2, 3] rfl rfl ?_
      rintro _ _ H ⟨rfl, rfl⟩ hs
      rw [hdisk] at hs
      simp only [DI_int', DB_bool, DS_string, DP_pointer, DSl_slice, DM_map, DA_agg, DTup_tuple, DCons_cons, DNil_nil, NN_some, BIf_true, BIf_false, BIf_same, List.toList_toArray, Bool.not_true, Bool.not_false]
      refine BIf_bnen rfl ?_
      refine hs.ld 7 rfl rfl ?_
      simp only [DI_int', DB_bool, DS_string, DP_pointer, DSl_slice, DM_map, DA_agg, DTup_tuple, DCons_cons, DNil_nil, NN_some, BIf_true, BIf_false, BIf_same, List.toList_toArray, Bool.not_true, Bool.not_false]
      refine slB_from rfl (by omega) ?_
      rw [i64w (x := (j : Int) + 1) (by omega) (by omega)]
      have hcnt := wpc_cnt d (x.f + fr / D.per d) (fr % D.per d) (src.take c)
      have hsz := wpc_size d (x.f + fr / D.per d) (fr % D.per d) (src.take c)
      have hper := wpc_per d (x.f + fr / D.per d) (fr % D.per d) (src.take c)
      have hdl : (src.drop c).length = src.length - c := by simp
      rw [← hdl]
      refine write_loop K (rb := rb) (mb := mb) hbm hn4 hn40 k (fr + c) (j + 1) _ _ (m - c) (src.drop c) (setW ws1 (fr % D.per d) (src.take c)) H (wpc_ok hok _ _ (by omega)) (wpc_calm hc _ _ _) ⟨hx.w1, hx.s1, by rw [hsz.2]; exact hfit, by rw [hper]; exact h4⟩ (by rw [hcnt.2.1]; split <;> omega) (by rw [hcnt.1]; omega) (by omega) (by omega) (by omega) (by rw [hper, hdl]; exact hrest) (by omega) (fun H hRH => ?_) (by rw [hper]; exact hsl) hK ?_
      · have := (hR H hRH).shift (m := m) (l := c) (by rw [wordVals_length]; omega)
        rw [show (wordVals src).drop c = wordVals (src.drop c) by unfold wordVals; rw [List.map_drop]] at this
        exact this
      · rw [hper]
        exact hs.re [0, 1, 2, 3, 4, 5, 6] rfl
    simp only [NN_some, Addr.add_lit', Addr.add_zero, Nat.zero_add, Nat.add_zero]
    refine hs.ld 7 rfl rfl ?_
    simp only [DI_int', DB_bool, DS_string, DP_pointer, DSl_slice, DM_map, DA_agg, DTup_tuple, DCons_cons, DNil_nil, NN_some, BIf_true, BIf_false, BIf_same, List.toList_toArray, Bool.not_true, Bool.not_false]
    refine QCall.use (per_s hs 0 1 rfl rfl hok) ?_
    simp only [DI_int', DB_bool, DS_string, DP_pointer, DSl_slice, DM_map, DA_agg, DTup_tuple, DCons_cons, DNil_nil, NN_some, BIf_true, BIf_false, BIf_same, List.toList_toArray, Bool.not_true, Bool.not_false]
    by_cases hlt : c < D.per d
    · refine BIf_dpos (by omega) ?_
      refine hs.ld 7 rfl rfl ?_
      simp only [DI_int', DB_bool, DS_string, DP_pointer, DSl_slice, DM_map, DA_agg, DTup_tuple, DCons_cons, DNil_nil, NN_some, BIf_true, BIf_false, BIf_same, List.toList_toArray, Bool.not_true, Bool.not_false]
      refine (load_tr (p := p) (ap := ap) (x := x) (cap := cap) (peak := peak) (b := b) (rb := rb) (m := mb) hok hc (by omega) ((x.f + fr / D.per d : Nat) : Int) (Int.natCast_nonneg _) hsec1 (bufs := bufs ++ [(b, D.per d, some ⟨rb, 0, none⟩)]) (List.mem_append_right _ (List.mem_singleton.2 rfl)) (xs := wordVals ws) (by rw [wordVals_length]; exact hws)).use hs [0, 1, 2, 3] rfl rfl ?_
      rintro _ _ H ⟨rfl, rfl⟩ hs
      simp only [DI_int', DB_bool, DS_string, DP_pointer, DSl_slice, DM_map, DA_agg, DTup_tuple, DCons_cons, DNil_nil, NN_some, BIf_true, BIf_false, BIf_same, List.toList_toArray, Bool.not_true, Bool.not_false]
      refine BIf_bnen rfl ?_
      exact join (D.more d) _ H (by rw [if_pos hlt]) hwl (fun _ => rfl) (hs.re [0, 1, 2, 3, 4, 5, 6, 7] rfl)
    · refine BIf_dneg (by omega) ?_
      exact join d ws H (by rw [if_neg hlt]) hws (fun h => absurd h hlt) hs

/-- Words are written. -/
theorem Write_tr {p dp ap : Nat} {d : D} {x : X} {cap peak : Int} {bufs : List (Nat × Nat × Option Addr)} {R : As} {A : Option Addr} {n m : Nat} {src : List UInt64} (hok : Ok d) (hc : Calm d) (hx : On d x) (ho : d.rd ≤ 4611686000000000000 ∧ d.wr ≤ 4611686000000000000) (fr : Nat) (hn : n = src.length) (hn1 : 1 ≤ n) (hf : fr + n ≤ x.w) (hm : n ≤ m) (hcap : (D.per d : Int) ≤ cap - sumB bufs) (hR : ∀ H, R H → Cells H A (wordVals src)) :
    Tr Try.prog 19 #[.pointer (some ⟨p, 0, none⟩), .int .i64 fr, .slice A n m] [pts p (pipO dp ap x), Dk dp d, Ar ap cap peak bufs, R] fun v M =>
      v = .int .i64 0 ∧ M = [pts p (pipO dp ap x), Dk dp (wrs d x n fr src), Ar ap cap (mx peak (sumB bufs + D.per d)) bufs, R] := fun H hs => by
  subst hn
  have hp := Ok.per_le hok
  have hsec := hok.sec
  have hroom : x.s * D.per d ≤ 1048576 * 512 := Nat.mul_le_mul (by have := hx.fit; omega) (by omega)
  have h4 := hx.room
  have hpl := pcs_len (D.per d) x.f src.length fr src.length
  apply W_stream_Pipe_Write.ok
  unfold W_stream_Pipe_Write
  refine (pieces_tr (dp := dp) (ap := ap) hok hx fr src.length hf).use hs [0, 1] rfl rfl ?_
  rintro _ _ H ⟨A4, m4, rfl, rfl⟩ hs
  simp only [DI_int', DB_bool, DS_string, DP_pointer, DSl_slice, DM_map, DA_agg, DTup_tuple, DCons_cons, DNil_nil, NN_some, BIf_true, BIf_false, BIf_same, List.toList_toArray, Bool.not_true, Bool.not_false]
  refine BIf_bnen rfl (BIf_beqn (by omega) ?_)
  simp only [NN_some, Addr.add_lit', Addr.add_zero, Nat.zero_add, Nat.add_zero]
  have rest : ∀ (b rb : Nat) (H : Hp), (∀ y ∈ bufs, y.1 ≠ b) → Sep [Ar ap cap (if sumB bufs + D.per d > peak then sumB bufs + D.per d else peak) (bufs ++ [(b, D.per d, some ⟨rb, 0, none⟩)]), pts rb (.row (zerosU64 (D.per d)) 62 (D.per d)), pts p (pipO dp ap x), Dk dp d, Own 110 3 A4 (pcs (D.per d) x.f src.length fr src.length).length m4 ((pcs (D.per d) x.f src.length fr src.length).flatMap pcV), R] H →
      W_stream_Pipe_Write.j5 (fun v H' => ∃ M, (v = .int .i64 0 ∧ M = [pts p (pipO dp ap x), Dk dp (wrs d x src.length fr src), Ar ap cap (mx peak (sumB bufs + D.per d)) bufs, R]) ∧ Sep M H') (some ⟨p, 0, none⟩) A src.length m A4 (pcs (D.per d) x.f src.length fr src.length).length m4 (0 : Int) (some ⟨b, 0, none⟩) H := fun b rb H hbm hs => by
    unfold W_stream_Pipe_Write.j5
    refine BIf_bnen rfl ?_
    simp only [NN_some, Addr.add_lit', Addr.add_zero, Nat.zero_add, Nat.add_zero]
    refine hs.ld 2 rfl rfl ?_
    simp only [DI_int', DB_bool, DS_string, DP_pointer, DSl_slice, DM_map, DA_agg, DTup_tuple, DCons_cons, DNil_nil, NN_some, BIf_true, BIf_false, BIf_same, List.toList_toArray, Bool.not_true, Bool.not_false]
    refine hs.nw fun vb H hs => ?_
    refine ⟨src.length + 1, ?_⟩
    have hz : zerosU64 (D.per d) = wordVals (List.replicate (D.per d) 0) := by
      unfold zerosU64
      rw [zeroRow_one]
      unfold wordVals
      rw [List.map_replicate]; rfl
    refine write_loop _ (p := p) (dp := dp) (ap := ap) (x := x) (cap := cap) (peak := mx peak (sumB bufs + D.per d)) (bufs := bufs) (b := b) (rb := rb) (mb := D.per d) (vb := vb) (R := R) (all := pcs (D.per d) x.f src.length fr src.length) hbm rfl (by omega) src.length fr 0 d A m src (List.replicate (D.per d) 0) H hok hc hx (by omega) (by omega) (Nat.le_refl _) hf hm rfl (Nat.zero_le _) hR (by simp) (fun H hs => ⟨_, ⟨rfl, rfl⟩, hs⟩) ?_
    rw [← hz]
    exact hs.re [2, 3, 0, 1, 4, 5, 6] rfl
  have fresh : ∀ {L : List As} {H : Hp} (b rb : Nat) (pk : Int), Sep L H → L[0]? = some (Ar ap cap pk (bufs ++ [(b, D.per d, some ⟨rb, 0, none⟩)])) → ∀ y ∈ bufs, y.1 ≠ b := fun b rb pk hs h0 y hy e => by
    obtain ⟨mp, cl, tk, hA⟩ := Sep.ar hs 0 h0
    have := hA.bn
    rw [List.map_append, List.nodup_append] at this
    exact this.2.2 y.1 (List.mem_map_of_mem hy) b (by simp) e
  refine ⟨?_, ?_⟩
  · refine hs.ld 0 rfl rfl ?_
    simp only [DI_int', DB_bool, DS_string, DP_pointer, DSl_slice, DM_map, DA_agg, DTup_tuple, DCons_cons, DNil_nil, NN_some, BIf_true, BIf_false, BIf_same, List.toList_toArray, Bool.not_true, Bool.not_false]
    refine HCalls.use (per_s hs 0 1 rfl rfl hok) ?_
    try simp only [DI_int', DB_bool, DS_string, DP_pointer, DSl_slice, DM_map, DA_agg, DTup_tuple, DCons_cons, DNil_nil, NN_some, BIf_true, BIf_false, BIf_same, List.toList_toArray, Bool.not_true, Bool.not_false]
    refine (Take_tr (a := ap) (cap := cap) (peak := peak) (bufs := bufs) (n := D.per d) (by omega) hcap).use hs [3] rfl rfl ?_
    rintro _ _ H ⟨b, rb, rfl, rfl⟩ hs
    simp only [DI_int', DB_bool, DS_string, DP_pointer, DSl_slice, DM_map, DA_agg, DTup_tuple, DCons_cons, DNil_nil, NN_some, BIf_true, BIf_false, BIf_same, List.toList_toArray, Bool.not_true, Bool.not_false]
    exact rest b rb H (fresh b rb _ hs rfl) (hs.re [0, 1, 2, 3, 4, 5] rfl)
  · refine HCalls.use (per_s hs 0 1 rfl rfl hok) ?_
    try simp only [DI_int', DB_bool, DS_string, DP_pointer, DSl_slice, DM_map, DA_agg, DTup_tuple, DCons_cons, DNil_nil, NN_some, BIf_true, BIf_false, BIf_same, List.toList_toArray, Bool.not_true, Bool.not_false]
    refine hs.ld 0 rfl rfl ?_
    simp only [DI_int', DB_bool, DS_string, DP_pointer, DSl_slice, DM_map, DA_agg, DTup_tuple, DCons_cons, DNil_nil, NN_some, BIf_true, BIf_false, BIf_same, List.toList_toArray, Bool.not_true, Bool.not_false]
    refine (Take_tr (a := ap) (cap := cap) (peak := peak) (bufs := bufs) (n := D.per d) (by omega) hcap).use hs [3] rfl rfl ?_
    rintro _ _ H ⟨b, rb, rfl, rfl⟩ hs
    simp only [DI_int', DB_bool, DS_string, DP_pointer, DSl_slice, DM_map, DA_agg, DTup_tuple, DCons_cons, DNil_nil, NN_some, BIf_true, BIf_false, BIf_same, List.toList_toArray, Bool.not_true, Bool.not_false]
    exact rest b rb H (fresh b rb _ hs rfl) (hs.re [0, 1, 2, 3, 4, 5] rfl)

end Go.Proofs.Ytbnhfcdagoigkaa.Str

/- stream: what written words leave. -/
set_option maxRecDepth 100000
set_option linter.unusedSimpArgs false
set_option linter.unusedVariables false
set_option linter.unnecessarySimpa false
set_option linter.unusedSectionVars false
namespace Go.Proofs.Ytbnhfcdagoigkaa.Str
open Go Go.Hw Go.Form Go.Proofs.Ytbnhfcdagoigkaa.W Go.Proofs.Ytbnhfcdagoigkaa.Dsk Go.Proofs.Ytbnhfcdagoigkaa.Are

theorem setW_get {ws src : List UInt64} {a : Nat} (ha : a ≤ ws.length) (i : Nat) : (setW ws a src)[i]? = if i < a then ws[i]? else if i < a + src.length then src[i - a]? else ws[i]? := by
  unfold setW
  have hl : (ws.take a).length = a := by rw [List.length_take]; omega
  rw [List.append_assoc]
  by_cases h1 : i < a
  · rw [if_pos h1, List.getElem?_append_left (by omega), List.getElem?_take_of_lt h1]
  · rw [if_neg h1, List.getElem?_append_right (by omega), hl]
    by_cases h2 : i < a + src.length
    · rw [if_pos h2, List.getElem?_append_left (by omega)]
    · rw [if_neg h2, List.getElem?_append_right (by omega), List.getElem?_drop]
      congr 1; omega

theorem wpc_pw {d : D} (hok : Ok d) (x : X) (fr : Nat) (src : List UInt64) (hl : fr % D.per d + src.length ≤ D.per d) (j : Nat) :
    pw (wpc d (x.f + fr / D.per d) (fr % D.per d) src) x j = if fr ≤ j ∧ j < fr + src.length then (src[j - fr]?).getD 0 else pw d x j := by
  have hp := Ok.per_le hok
  have hwl : (wordsB (d.now ((x.f + fr / D.per d : Nat) : Int))).length = D.per d := by rw [wordsB_len, hok.now]; rfl
  unfold pw
  rw [wpc_per, wpc_now]
  have ej := Nat.div_add_mod j (D.per d)
  have ef := Nat.div_add_mod fr (D.per d)
  have mj := Nat.mod_lt j (show 0 < D.per d by omega)
  have mf := Nat.mod_lt fr (show 0 < D.per d by omega)
  by_cases hs : j / D.per d = fr / D.per d
  · rw [hs] at ej ⊢
    rw [if_pos rfl, wordsB_form, setW_get (by omega)]
    generalize D.per d * (fr / D.per d) = q at *
    by_cases h1 : j % D.per d < fr % D.per d
    · rw [if_pos h1, if_neg (by omega)]
    · rw [if_neg h1]
      by_cases h2 : j % D.per d < fr % D.per d + src.length
      · rw [if_pos h2, if_pos (by omega), show j % D.per d - fr % D.per d = j - fr by omega]
      · rw [if_neg h2, if_neg (by omega)]
  · rw [if_neg (by omega), if_neg]
    intro hc
    apply hs
    apply Nat.div_eq_of_lt_le
    · rw [Nat.mul_comm]; omega
    · rw [Nat.succ_mul, Nat.mul_comm]; omega

/-- What written words leave. -/
structure Wrote (d d' : D) (x : X) (fr : Nat) (src : List UInt64) (ps : List (Nat × Nat × Nat)) : Prop where
  ok : Ok d'
  calm : Calm d → Calm d'
  size : d'.size = d.size
  sec : d'.sec = d.sec
  wr : d'.wr = d.wr + ps.length
  rd : d'.rd = d.rd + (ps.filter fun p => decide (p.2.2 < D.per d)).length
  sy : d'.sy = d.sy
  safe : d'.safe = d.safe
  tch : ∀ i, d'.tch i = true → d.tch i = true ∨ ∃ j, j < src.length ∧ i = ((x.f + (fr + j) / D.per d : Nat) : Int)
  now : ∀ i, (∀ j, j < src.length → i ≠ ((x.f + (fr + j) / D.per d : Nat) : Int)) → d'.now i = d.now i
  pw : ∀ j, pw d' x j = if fr ≤ j ∧ j < fr + src.length then (src[j - fr]?).getD 0 else pw d x j

theorem wpc_safe (d : D) (s at' : Nat) (src : List UInt64) : (wpc d s at' src).safe = d.safe ∧ (wpc d s at' src).tch = updT d.tch s := by
  unfold wpc
  split <;> exact ⟨rfl, rfl⟩

theorem wrs_wrote (x : X) : ∀ (k fr : Nat) (d : D) (src : List UInt64), Ok d → src.length ≤ k → Wrote d (wrs d x k fr src) x fr src (pcs (D.per d) x.f k fr src.length)
  | k, fr, d, [], hok, hk => by
    have e1 : wrs d x k fr [] = d := by cases k <;> simp [wrs]
    have e2 : pcs (D.per d) x.f k fr ([] : List UInt64).length = [] := by cases k <;> simp [pcs]
    rw [e1, e2]
    exact ⟨hok, id, rfl, rfl, rfl, rfl, rfl, rfl, fun i h => .inl h, fun _ _ => rfl, fun j => by rw [if_neg (by simp only [List.length_nil]; omega)]⟩
  | 0, fr, d, w0 :: s0, hok, hk => by simp at hk
  | k + 1, fr, d, w0 :: s0, hok, hk => by
    generalize hsrc : w0 :: s0 = src at *
    have hne : src ≠ [] := by rw [← hsrc]; simp
    have hpos : 0 < src.length := by rw [← hsrc]; simp
    have hp := Ok.per_le hok
    have hcle := cN_le (D.per d) fr src.length
    have hcpos := cN_pos (per := D.per d) (fr := fr) (n := src.length) (by omega) hpos
    have hcper := cN_per (per := D.per d) (fr := fr) (n := src.length) (by omega)
    have e : pcs (D.per d) x.f (k + 1) fr src.length = (x.f + fr / D.per d, fr % D.per d, cN (D.per d) fr src.length) :: pcs (D.per d) x.f k (fr + cN (D.per d) fr src.length) (src.length - cN (D.per d) fr src.length) := by
      show (if src.length = 0 then [] else _) = _
      rw [if_neg (by omega)]
    have ew : wrs d x (k + 1) fr src = wrs (wpc d (x.f + fr / D.per d) (fr % D.per d) (src.take (cN (D.per d) fr src.length))) x k (fr + cN (D.per d) fr src.length) (src.drop (cN (D.per d) fr src.length)) := by
      show (if src = [] then d else _) = _
      rw [if_neg hne]
    rw [e, ew]
    generalize hcv : cN (D.per d) fr src.length = c at *
    have htk : (src.take c).length = c := by rw [List.length_take]; omega
    have hdl : (src.drop c).length = src.length - c := by simp
    have hok1 : Ok (wpc d (x.f + fr / D.per d) (fr % D.per d) (src.take c)) := wpc_ok hok _ _ (by omega)
    have hsz := wpc_size d (x.f + fr / D.per d) (fr % D.per d) (src.take c)
    have hper := wpc_per d (x.f + fr / D.per d) (fr % D.per d) (src.take c)
    have hcnt := wpc_cnt d (x.f + fr / D.per d) (fr % D.per d) (src.take c)
    have hsf := wpc_safe d (x.f + fr / D.per d) (fr % D.per d) (src.take c)
    have hnow := wpc_now d (x.f + fr / D.per d) (fr % D.per d) (src.take c)
    have hpw := wpc_pw hok x fr (src.take c) (by omega)
    have ih := wrs_wrote x k (fr + c) _ (src.drop c) hok1 (by omega)
    rw [hper, hdl] at ih
    generalize wrs (wpc d (x.f + fr / D.per d) (fr % D.per d) (src.take c)) x k (fr + c) (src.drop c) = d2 at *
    generalize pcs (D.per d) x.f k (fr + c) (src.length - c) = ps at *
    refine ⟨ih.ok, fun hc => ih.calm (wpc_calm hc _ _ _), ih.size.trans hsz.1, ih.sec.trans hsz.2, ?_, ?_, ih.sy.trans hcnt.2.2, ih.safe.trans hsf.1, fun i hi => ?_, fun i hi => ?_, fun j => ?_⟩
    · rw [ih.wr, hcnt.1, List.length_cons]; omega
    · rw [ih.rd, hcnt.2.1, htk, hper]
      by_cases hlt : c < D.per d
      · rw [if_pos hlt, List.filter_cons_of_pos (by simpa using hlt), List.length_cons]; omega
      · rw [if_neg hlt, List.filter_cons_of_neg (by simpa using hlt)]; omega
    · rcases ih.tch i hi with h | ⟨j, hj, h⟩
      · rw [hsf.2] at h
        unfold updT at h
        by_cases he : i = ((x.f + fr / D.per d : Nat) : Int)
        · exact .inr ⟨0, hpos, by rw [Nat.add_zero]; exact he⟩
        · rw [if_neg he] at h; exact .inl h
      · refine .inr ⟨c + j, by omega, ?_⟩
        rw [h, hper, Nat.add_assoc]
    · rw [ih.now i (fun j hj => ?_), hnow, if_neg]
      · have := hi 0 hpos
        rw [Nat.add_zero] at this
        exact this
      · have := hi (c + j) (by omega)
        rw [hper, Nat.add_assoc]; exact this
    · rw [ih.pw j, hpw j, htk, hdl]
      by_cases h1 : fr + c ≤ j ∧ j < fr + c + (src.length - c)
      · rw [if_pos h1, if_pos (by omega), List.getElem?_drop, show c + (j - (fr + c)) = j - fr by omega]
      · rw [if_neg h1]
        by_cases h2 : fr ≤ j ∧ j < fr + c
        · rw [if_pos h2, if_pos (by omega), List.getElem?_take_of_lt (by omega)]
        · rw [if_neg h2, if_neg (by omega)]

/-- An array's cells may be taken for a row. -/
theorem HCalls.ofRow {P : Program} {f : FuncId} {args : Array Value} {H : Hp} {R : Value → Hp → Prop} {b : Nat} {c : Array Value} {e : TypeId} (hb : H b = some (.obj (.cells c e)))
    (h : HCalls P f args (H.set b (.row c.toList e c.size)) R) : HCalls P f args H R := fun w hw => by
  have hf : Fits (H.set b (.row c.toList e c.size)) w := fun i o ho => by
    by_cases hi : i = b
    · subst hi
      rw [Hp.set_same] at ho
      obtain ⟨o', h1, h2⟩ := hw i _ hb
      cases ho
      refine ⟨o', h1, [], 0, 0, ?_, ?_, .inl rfl⟩
      · rw [List.append_nil]; exact h2
      · rw [List.append_nil, Array.length_toList]
    · rw [Hp.set_other _ _ hi] at ho
      exact hw i o ho
  refine (h w hf).mono fun _ _ ⟨v, H', e', r, a⟩ => ⟨v, H', e', r, ⟨a.fits, a.size, a.os, a.tape, a.output, fun i hi h0 => ?_⟩⟩
  refine a.old i hi ?_
  rw [Hp.set_other]
  · exact h0
  · rintro rfl
    rw [hb] at h0; cases h0

theorem pws_one (d : D) (x : X) (i : Nat) : pws d x i 1 = [pw d x i] := by simp [pws]

/-- A word is read. -/
theorem Get_tr {p dp ap : Nat} {d : D} {x : X} {cap peak : Int} {bufs : List (Nat × Nat × Option Addr)} (hok : Ok d) (hc : Calm d) (hx : On d x) (ho : d.rd ≤ 4611686010000000000) (i : Nat) (hf : i < x.w) (hcap : (D.per d : Int) ≤ cap - sumB bufs) :
    Tr Try.prog 22 #[.pointer (some ⟨p, 0, none⟩), .int .i64 i] [pts p (pipO dp ap x), Dk dp d, Ar ap cap peak bufs] fun v M =>
      v = .tuple #[.int .u64 ((pw d x i).toNat : Int), .int .i64 0] ∧ M = [pts p (pipO dp ap x), Dk dp (D.rdN d 1), Ar ap cap (mx peak (sumB bufs + D.per d)) bufs] := fun H hs => by
  have hp := Ok.per_le hok
  have hpl : (pcs (D.per d) x.f 1 i 1).length = 1 := by
    have hc1 : cN (D.per d) i 1 = 1 := by
      have := cN_le (D.per d) i 1
      have := cN_pos (per := D.per d) (fr := i) (n := 1) (by omega) (by omega)
      omega
    simp [pcs]
  apply W_stream_Pipe_Get.ok
  unfold W_stream_Pipe_Get
  refine hs.nw fun b1 H hs => BIf_dneg (by omega) ?_
  refine HCalls.use (words_s hs 0 rfl) ?_
  simp only [DI_int', DB_bool, DS_string, DP_pointer, DSl_slice, DM_map, DA_agg, DTup_tuple, DCons_cons, DNil_nil, NN_some, BIf_true, BIf_false, BIf_same, List.toList_toArray, Bool.not_true, Bool.not_false]
  refine BIf_dneg (by omega) ?_
  refine slB_all ?_
  rw [slA_zero]
  have hs' := hs.put 3 (.row [.int .u64 0] 113 1) rfl
  refine HCalls.ofRow (hs.get 3 rfl) ?_
  refine (Read_tr (p := p) (dp := dp) (ap := ap) (d := d) (x := x) (rl := b1) (off := 0) (mm := 1) (xs := [.int .u64 0]) hok hc hx ho i 1 1 (Nat.le_refl _) (by omega) (Nat.le_refl _) (by simp) hcap).use hs' [0, 1, 2, 3] rfl rfl ?_
  rintro _ _ H ⟨rfl, rfl⟩ hs
  simp only [DI_int', DB_bool, DS_string, DP_pointer, DSl_slice, DM_map, DA_agg, DTup_tuple, DCons_cons, DNil_nil, NN_some, BIf_true, BIf_false, BIf_same, List.toList_toArray, Bool.not_true, Bool.not_false]
  refine BIf_bnen rfl ?_
  rw [hpl, pws_one] at hs
  refine ⟨by omega, by omega, ?_⟩
  have hs : Sep [pts p (pipO dp ap x), Dk dp (D.rdN d 1), Ar ap cap (mx peak (sumB bufs + D.per d)) bufs, pts b1 (.row [.int .u64 ((pw d x i).toNat : Int)] 113 1)] H := hs
  refine hs.ldr 3 (j := 0) rfl rfl ?_
  simp only [DI_int', DB_bool, DS_string, DP_pointer, DSl_slice, DM_map, DA_agg, DTup_tuple, DCons_cons, DNil_nil, NN_some, BIf_true, BIf_false, BIf_same, List.toList_toArray, Bool.not_true, Bool.not_false]
  exact ⟨_, ⟨trivial, rfl⟩, hs.re [0, 1, 2] rfl⟩

end Go.Proofs.Ytbnhfcdagoigkaa.Str

/- The law StreamCosts. -/
set_option maxRecDepth 100000
set_option linter.unusedSimpArgs false
set_option linter.unusedVariables false
set_option linter.unnecessarySimpa false
set_option linter.unusedSectionVars false
namespace Go.Proofs.Ytbnhfcdagoigkaa.Str
open Go Go.Hw Go.Form Go.Proofs.Ytbnhfcdagoigkaa.W Go.Proofs.Ytbnhfcdagoigkaa.Dsk Go.Proofs.Ytbnhfcdagoigkaa.Are

theorem p_ops : plain64 Try.prog 36 3 := ⟨by kernel_rfl, by kernel_rfl, by kernel_rfl, by kernel_rfl⟩

theorem fresh_ok {sec : Nat} (h1 : 1 ≤ sec ∧ sec ≤ 1000) : Ok (D.fresh sec 32) := Ok.fresh ⟨h1.1, by omega⟩ (by decide) (by omega)
theorem fresh_calm (sec : Nat) : Calm (D.fresh sec 32) := ⟨rfl, rfl⟩
theorem fresh_per (sec : Nat) : D.per (D.fresh sec 32) = 4 := by show 32 / 8 = 4; decide
theorem fresh_on {sec f w : Nat} (h1 : 1 ≤ w) (h2 : f + (w + 3) / 4 ≤ sec) : On (D.fresh sec 32) ⟨f, (w + 3) / 4, w⟩ := ⟨h1, by show 1 ≤ (w + 3) / 4; omega, h2, by rw [fresh_per]; show w ≤ (w + 3) / 4 * 4; omega⟩

theorem awake_ok (H : Hp) : HCalls Try.prog 15 #[] H (RetE (.bool true) H) := by
  apply HCalls.ret
  apply W_abacistlaw19_awake.ok
  unfold W_abacistlaw19_awake
  have hx : On (D.fresh 4 32) ⟨1, 2, 7⟩ := ⟨by decide, by decide, by decide, by decide⟩
  refine (Are.New_tr 20 (by omega)).use (Sep.start H) [] rfl rfl ?_
  rintro _ _ H1 ⟨ap, rfl, rfl⟩ hs
  simp only [DI_int', DB_bool, DS_string, DP_pointer, DSl_slice, DM_map, DA_agg, DTup_tuple, DCons_cons, DNil_nil, NN_some, BIf_true, BIf_false, BIf_same, List.toList_toArray, Bool.not_true, Bool.not_false]
  refine (Dsk.New_tr 4 32 (by omega) (by decide) (by omega)).use hs [] rfl rfl ?_
  rintro _ _ H1 ⟨dp, rfl, rfl⟩ hs
  simp only [DI_int', DB_bool, DS_string, DP_pointer, DSl_slice, DM_map, DA_agg, DTup_tuple, DCons_cons, DNil_nil, NN_some, BIf_true, BIf_false, BIf_same, List.toList_toArray, Bool.not_true, Bool.not_false]
  refine (New_tr (dp := dp) (ap := ap) (fresh_ok (by omega)) ⟨1, 2, 7⟩ hx).use hs [0] rfl rfl ?_
  rintro _ _ H1 ⟨p, rfl, rfl⟩ hs
  simp only [DI_int', DB_bool, DS_string, DP_pointer, DSl_slice, DM_map, DA_agg, DTup_tuple, DCons_cons, DNil_nil, NN_some, BIf_true, BIf_false, BIf_same, List.toList_toArray, Bool.not_true, Bool.not_false]
  refine BIf_neg rfl (BIf_bnen rfl ?_)
  refine hs.nw fun b1 H1 hs => ?_
  refine (Write_tr (p := p) (dp := dp) (ap := ap) (d := D.fresh 4 32) (x := ⟨1, 2, 7⟩) (cap := 20) (peak := 0) (bufs := []) (R := pts b1 (.row [.int .u64 7] 62 1)) (A := some ⟨b1, 0, none⟩) (n := 1) (m := 1) (src := [7]) (fresh_ok (by omega)) (fresh_calm 4) hx ⟨by decide, by decide⟩ 3 rfl (Nat.le_refl _) (by decide) (Nat.le_refl _) (by decide) (fun H h => Cells.row h 0 1)).use hs [1, 0, 2, 4] rfl rfl ?_
  rintro _ _ H1 ⟨rfl, rfl⟩ hs
  simp only [DI_int', DB_bool, DS_string, DP_pointer, DSl_slice, DM_map, DA_agg, DTup_tuple, DCons_cons, DNil_nil, NN_some, BIf_true, BIf_false, BIf_same, List.toList_toArray, Bool.not_true, Bool.not_false]
  refine BIf_bnen rfl ?_
  have W := wrs_wrote ⟨1, 2, 7⟩ 1 3 (D.fresh 4 32) [7] (fresh_ok (by omega)) (Nat.le_refl _)
  have hx2 : On (wrs (D.fresh 4 32) ⟨1, 2, 7⟩ 1 3 [7]) ⟨1, 2, 7⟩ := ⟨hx.w1, hx.s1, by rw [W.sec]; exact hx.fit, by unfold D.per; rw [W.size]; exact hx.room⟩
  have hper : D.per (wrs (D.fresh 4 32) ⟨1, 2, 7⟩ 1 3 [7]) = 4 := by unfold D.per; rw [W.size]; rfl
  have hrd := W.rd
  have hcl := List.length_filter_le (fun p : Nat × Nat × Nat => decide (p.2.2 < D.per (D.fresh 4 32))) (pcs (D.per (D.fresh 4 32)) 1 1 3 1)
  have hpl := pcs_len (D.per (D.fresh 4 32)) 1 1 3 1
  have hrd2 : (wrs (D.fresh 4 32) ⟨1, 2, 7⟩ 1 3 [7]).rd ≤ 1 := by
    rw [hrd]; exact Nat.le_trans (Nat.add_le_add_left hcl _) (by show 0 + _ ≤ _; omega)
  have hpw := W.pw 3
  rw [if_pos ⟨by omega, by simp⟩] at hpw
  generalize wrs (D.fresh 4 32) ⟨1, 2, 7⟩ 1 3 [7] = d2 at *
  refine (Get_tr (p := p) (dp := dp) (ap := ap) (d := d2) (x := ⟨1, 2, 7⟩) (cap := 20) (bufs := []) W.ok (W.calm (fresh_calm 4)) hx2 (by omega) 3 (by decide) (by rw [hper]; decide)).use hs [0, 1, 2] rfl rfl ?_
  rintro _ _ H1 ⟨rfl, rfl⟩ hs
  rw [hpw]
  simp only [DI_int', DB_bool, DS_string, DP_pointer, DSl_slice, DM_map, DA_agg, DTup_tuple, DCons_cons, DNil_nil, NN_some, BIf_true, BIf_false, BIf_same, List.toList_toArray, Bool.not_true, Bool.not_false]
  refine BIf_beqp rfl (BIf_beqp rfl ?_)
  refine HCalls.use (words_s hs 0 rfl) ?_
  try simp only [DI_int', DB_bool, DS_string, DP_pointer, DSl_slice, DM_map, DA_agg, DTup_tuple, DCons_cons, DNil_nil, NN_some, BIf_true, BIf_false, BIf_same, List.toList_toArray, Bool.not_true, Bool.not_false]
  exact hs.fin 4 rfl _

theorem pipe_tr (n : Nat) (h : 1 ≤ n ∧ n ≤ 40) : Tr Try.prog 17 #[.int .i64 n] [] fun v M =>
    ∃ p dp ap, v = .tuple #[.pointer (some ⟨p, 0, none⟩), .pointer (some ⟨dp, 0, none⟩), .pointer (some ⟨ap, 0, none⟩)] ∧ M = [pts p (pipO dp ap ⟨2, (n + 3) / 4, n⟩), Dk dp (D.fresh 20 32), Ar ap 4 0 []] := fun H hs => by
  have hx : On (D.fresh 20 32) ⟨2, (n + 3) / 4, n⟩ := fresh_on h.1 (by omega)
  apply W_abacistlaw19_pipe.ok
  unfold W_abacistlaw19_pipe
  refine (Dsk.New_tr 20 32 (by omega) (by decide) (by omega)).use hs [] rfl rfl ?_
  rintro _ _ H1 ⟨dp, rfl, rfl⟩ hs
  simp only [DI_int', DB_bool, DS_string, DP_pointer, DSl_slice, DM_map, DA_agg, DTup_tuple, DCons_cons, DNil_nil, NN_some, BIf_true, BIf_false, BIf_same, List.toList_toArray, Bool.not_true, Bool.not_false]
  refine (Are.New_tr 4 (by omega)).use hs [] rfl rfl ?_
  rintro _ _ H1 ⟨ap, rfl, rfl⟩ hs
  simp only [DI_int', DB_bool, DS_string, DP_pointer, DSl_slice, DM_map, DA_agg, DTup_tuple, DCons_cons, DNil_nil, NN_some, BIf_true, BIf_false, BIf_same, List.toList_toArray, Bool.not_true, Bool.not_false]
  refine ⟨by decide, by simp, ?_⟩
  have e : IntKind.i64.wrap (Int.tdiv (IntKind.i64.wrap ((n : Int) + 3)) 4) = (((n + 3) / 4 : Nat) : Int) := by
    rw [i64w (x := (n : Int) + 3) (by omega) (by omega), show (n : Int) + 3 = ((n + 3 : Nat) : Int) by omega, show Int.tdiv ((n + 3 : Nat) : Int) 4 = (((n + 3) / 4 : Nat) : Int) from rfl, i64n (by omega)]
  rw [e]
  refine (New_tr (dp := dp) (ap := ap) (fresh_ok (by omega)) ⟨2, (n + 3) / 4, n⟩ hx).use hs [1] rfl rfl ?_
  rintro _ _ H1 ⟨p, rfl, rfl⟩ hs
  simp only [DI_int', DB_bool, DS_string, DP_pointer, DSl_slice, DM_map, DA_agg, DTup_tuple, DCons_cons, DNil_nil, NN_some, BIf_true, BIf_false, BIf_same, List.toList_toArray, Bool.not_true, Bool.not_false]
  refine BIf_bnen rfl ?_
  exact ⟨_, ⟨p, dp, ap, rfl, rfl⟩, hs.re [1, 0, 2] rfl⟩

/-- How many sectors are written in part. -/
def part1 (a k : Nat) : Nat := if a % 4 ≠ 0 ∨ (a / 4 = (a + k - 1) / 4 ∧ k < 4) then 1 else 0
def partN (a k : Nat) : Nat := part1 a k + (if (a + k - 1) / 4 > a / 4 ∧ (a + k) % 4 ≠ 0 then 1 else 0)
set_option maxRecDepth 100000 in
theorem costs4 : ∀ a < 40, ∀ k < 41, 1 ≤ k → a + k ≤ 40 → (pcs 4 2 k a k).length = (a + k - 1) / 4 - a / 4 + 1 ∧ ((pcs 4 2 k a k).filter (fun p => decide (p.2.2 < 4))).length = partN a k := by
  decide +kernel

end Go.Proofs.Ytbnhfcdagoigkaa.Str

/- stream: a small arena; Copy. -/
set_option maxRecDepth 100000
set_option linter.unusedSimpArgs false
set_option linter.unusedVariables false
set_option linter.unnecessarySimpa false
set_option linter.unusedSectionVars false
namespace Go.Proofs.Ytbnhfcdagoigkaa.Str
open Go Go.Hw Go.Form Go.Proofs.Ytbnhfcdagoigkaa.W Go.Proofs.Ytbnhfcdagoigkaa.Dsk Go.Proofs.Ytbnhfcdagoigkaa.Are

theorem Take_full_s {a : Nat} {cap peak : Int} {bufs : List (Nat × Nat × Option Addr)} {L : List As} {H : Hp} (hs : Sep L H) (i : Nat) (hi : L[i]? = some (Ar a cap peak bufs)) (n : Nat) (hn : 1 ≤ n) (hc : cap - sumB bufs < n) :
    HCalls Try.prog 42 #[.pointer (some ⟨a, 0, none⟩), .int .i64 n] H (RetE (.tuple #[.pointer none, .int .i64 6]) H) := by
  obtain ⟨mp, cl, tk, h⟩ := Sep.ar hs i hi
  have hn := h.nn
  exact Take_full H a mp cap _ peak n ⟨by omega, by omega, by omega⟩ ⟨by omega, by omega⟩ h.ai.ha

/-- The arena has no room. -/
theorem Write_full {p dp ap : Nat} {d : D} {x : X} {cap peak : Int} {bufs : List (Nat × Nat × Option Addr)} {A : Option Addr} {m : Nat} (hok : Ok d) (hx : On d x) (fr n : Nat) (hn1 : 1 ≤ n) (hf : fr + n ≤ x.w) (hcap : cap - sumB bufs < (D.per d : Int)) :
    Tr Try.prog 19 #[.pointer (some ⟨p, 0, none⟩), .int .i64 fr, .slice A n m] [pts p (pipO dp ap x), Dk dp d, Ar ap cap peak bufs] fun v M =>
      v = .int .i64 6 ∧ M = [pts p (pipO dp ap x), Dk dp d, Ar ap cap peak bufs] := fun H hs => by
  have hp := Ok.per_le hok
  apply W_stream_Pipe_Write.ok
  unfold W_stream_Pipe_Write
  refine (pieces_tr (dp := dp) (ap := ap) hok hx fr n hf).use hs [0, 1] rfl rfl ?_
  rintro _ _ H ⟨A4, m4, rfl, rfl⟩ hs
  simp only [DI_int', DB_bool, DS_string, DP_pointer, DSl_slice, DM_map, DA_agg, DTup_tuple, DCons_cons, DNil_nil, NN_some, BIf_true, BIf_false, BIf_same, List.toList_toArray, Bool.not_true, Bool.not_false]
  refine BIf_bnen rfl (BIf_beqn (by omega) ?_)
  simp only [NN_some, Addr.add_lit', Addr.add_zero, Nat.zero_add, Nat.add_zero]
  have fin : ∃ M, ((Value.int .i64 6 : Value) = .int .i64 6 ∧ M = [pts p (pipO dp ap x), Dk dp d, Ar ap cap peak bufs]) ∧ Sep M H := ⟨_, ⟨rfl, rfl⟩, hs.re [0, 1, 3] rfl⟩
  refine ⟨?_, ?_⟩
  · refine hs.ld 0 rfl rfl ?_
    simp only [DI_int', DB_bool, DS_string, DP_pointer, DSl_slice, DM_map, DA_agg, DTup_tuple, DCons_cons, DNil_nil, NN_some, BIf_true, BIf_false, BIf_same, List.toList_toArray, Bool.not_true, Bool.not_false]
    refine HCalls.use (per_s hs 0 1 rfl rfl hok) ?_
    try simp only [DI_int', DB_bool, DS_string, DP_pointer, DSl_slice, DM_map, DA_agg, DTup_tuple, DCons_cons, DNil_nil, NN_some, BIf_true, BIf_false, BIf_same, List.toList_toArray, Bool.not_true, Bool.not_false]
    refine HCalls.use (Take_full_s hs 3 rfl (D.per d) (by omega) hcap) ?_
    try simp only [DI_int', DB_bool, DS_string, DP_pointer, DSl_slice, DM_map, DA_agg, DTup_tuple, DCons_cons, DNil_nil, NN_some, BIf_true, BIf_false, BIf_same, List.toList_toArray, Bool.not_true, Bool.not_false]
    unfold W_stream_Pipe_Write.j5
    exact BIf_bnep (by omega) fin
  · refine HCalls.use (per_s hs 0 1 rfl rfl hok) ?_
    try simp only [DI_int', DB_bool, DS_string, DP_pointer, DSl_slice, DM_map, DA_agg, DTup_tuple, DCons_cons, DNil_nil, NN_some, BIf_true, BIf_false, BIf_same, List.toList_toArray, Bool.not_true, Bool.not_false]
    refine hs.ld 0 rfl rfl ?_
    simp only [DI_int', DB_bool, DS_string, DP_pointer, DSl_slice, DM_map, DA_agg, DTup_tuple, DCons_cons, DNil_nil, NN_some, BIf_true, BIf_false, BIf_same, List.toList_toArray, Bool.not_true, Bool.not_false]
    refine HCalls.use (Take_full_s hs 3 rfl (D.per d) (by omega) hcap) ?_
    try simp only [DI_int', DB_bool, DS_string, DP_pointer, DSl_slice, DM_map, DA_agg, DTup_tuple, DCons_cons, DNil_nil, NN_some, BIf_true, BIf_false, BIf_same, List.toList_toArray, Bool.not_true, Bool.not_false]
    unfold W_stream_Pipe_Write.j5
    exact BIf_bnep (by omega) fin

/-- A variable's cell. -/
def var1 (b : Nat) (v : Value) (t : TypeId) : As := pts b (.obj (.cells #[v] t))

section
variable {p q dp ap bp bq bt b rb mb : Nat} {d : D} {x y : X} {cap peak : Int} {bufs : List (Nat × Nat × Option Addr)} {ws : List UInt64}
end

end Go.Proofs.Ytbnhfcdagoigkaa.Str

/- stream: each, with Copy's function. -/
set_option maxRecDepth 100000
set_option linter.unusedSimpArgs false
set_option linter.unusedVariables false
set_option linter.unnecessarySimpa false
set_option linter.unusedSectionVars false
namespace Go.Proofs.Ytbnhfcdagoigkaa.Str
open Go Go.Hw Go.Form Go.Proofs.Ytbnhfcdagoigkaa.W Go.Proofs.Ytbnhfcdagoigkaa.Dsk Go.Proofs.Ytbnhfcdagoigkaa.Are

/-- So many words are copied, after so many sectors. -/
structure CopyI (d d' : D) (x y : X) (i k : Nat) : Prop where
  ok : Ok d'
  calm : Calm d'
  size : d'.size = d.size
  sec : d'.sec = d.sec
  rd : d'.rd ≤ d.rd + 1000 * i
  wr : d'.wr ≤ d.wr + 1000 * i
  src : ∀ j, j < x.w → pw d' x j = pw d x j
  dst : ∀ j, j < k → pw d' y j = pw d x j

theorem CopyI.per {d d' : D} {x y : X} {i k : Nat} (h : CopyI d d' x y i k) : D.per d' = D.per d := by unfold D.per; rw [h.size]

theorem CopyI.step {d d' : D} {x y : X} {i : Nat} (hok : Ok d) (h : CopyI d d' x y i (i * D.per d)) (hx : On d x) (hy : On d y) (hw : y.w = x.w) (hdis : x.f + x.s ≤ y.f ∨ y.f + y.s ≤ x.f) (n : Nat) (hn1 : 1 ≤ n) (hn2 : n ≤ D.per d) (hn : i * D.per d + n ≤ x.w) :
    CopyI d (wrs (D.more d') y n (i * D.per d) ((wordsB (d'.now ((x.f + i : Nat) : Int))).take n)) x y (i + 1) (i * D.per d + n) := by
  have hp := Ok.per_le hok
  have hper := h.per
  have hwl : (wordsB (d'.now ((x.f + i : Nat) : Int))).length = D.per d := by rw [wordsB_len, h.ok.now]; exact hper
  have htl : ((wordsB (d'.now ((x.f + i : Nat) : Int))).take n).length = n := by rw [List.length_take]; omega
  have W := wrs_wrote y n (i * D.per d) (D.more d') ((wordsB (d'.now ((x.f + i : Nat) : Int))).take n) (Ok.more h.ok) (by omega)
  have hpm : D.per (D.more d') = D.per d := hper
  have hpl := pcs_len (D.per (D.more d')) y.f n (i * D.per d) n
  rw [htl] at W
  have hcl := List.length_filter_le (fun p : Nat × Nat × Nat => decide (p.2.2 < D.per (D.more d'))) (pcs (D.per (D.more d')) y.f n (i * D.per d) n)
  have hrd := W.rd
  have hwr := W.wr
  have hr1 : (D.more d').rd = d'.rd + 1 := rfl
  have hw1 : (D.more d').wr = d'.wr := rfl
  have h1 := h.rd
  have h2 := h.wr
  have hsz : (D.more d').size = d'.size := rfl
  have hse : (D.more d').sec = d'.sec := rfl
  have hnow : ∀ k, (D.more d').now k = d'.now k := fun k => rfl
  have hpwm : ∀ z j, pw (D.more d') z j = pw d' z j := fun z j => rfl
  generalize wrs (D.more d') y n (i * D.per d) ((wordsB (d'.now ((x.f + i : Nat) : Int))).take n) = d2 at *
  refine ⟨W.ok, W.calm (Calm.more h.calm), by rw [W.size, hsz, h.size], by rw [W.sec, hse, h.sec], by omega, by omega, fun j hj => ?_, fun j hj => ?_⟩
  · rw [← h.src j hj]
    have hP : D.per d2 = D.per d' := by show d2.size / 8 = d'.size / 8; rw [W.size, hsz]
    unfold pw
    rw [hP, W.now _ (fun jj hjj => ?_), hnow]
    rw [htl] at hjj
    rw [hpm, hper]
    have a1 : j / D.per d < x.s := by
      rw [Nat.div_lt_iff_lt_mul (by omega)]; have := hx.room; omega
    have a2 : (i * D.per d + jj) / D.per d < y.s := by
      rw [Nat.div_lt_iff_lt_mul (by omega)]; have := hy.room; omega
    intro e
    have e' := Int.ofNat_inj.1 e
    generalize j / D.per d = u at *
    generalize (i * D.per d + jj) / D.per d = v at *
    omega
  · rw [W.pw j, htl, hpwm]
    by_cases c1 : i * D.per d ≤ j ∧ j < i * D.per d + n
    · rw [if_pos c1, List.getElem?_take_of_lt (by omega), ← h.src j (by omega)]
      unfold pw
      rw [hper]
      have e1 : j / D.per d = i := Nat.div_eq_of_lt_le (by omega) (by rw [Nat.succ_mul]; omega)
      have e2 : j % D.per d = j - i * D.per d := by
        have := Nat.div_add_mod j (D.per d)
        rw [e1, Nat.mul_comm] at this
        omega
      rw [e1, e2]
    · rw [if_neg c1]
      exact h.dst j (by omega)

theorem DR_int {P : Program} {g : FuncId} {t : TypeId} {k : IntKind} {n : Int} {K : Value → Prop} (h : resTypes P g = [t]) (hu : P.underlying t = some (.int k)) (hk : K (.int k n)) : DR P (resTypes P g) (.int k n) K := by
  rw [h]
  show DT P t _ K
  unfold DT
  rw [hu]
  simpa using hk

theorem BIf_both {c : Bool} {X Y : Prop} (hx : X) (hy : Y) : BIf c X Y := by cases c <;> assumption

theorem cat3 (a b c d e f : Value) : ((#[] ++ #[a, b, c]) ++ #[d, e, f] : Array Value) = #[a, b, c, d, e, f] := rfl

section
variable {p q dp ap bp bq bt b rb mb vb : Nat} {d : D} {x y : X} {cap peak P1 : Int} {bufs : List (Nat × Nat × Option Addr)}

/-- The parts of memory while words are copied. -/
def copyL (p q dp ap bp bq bt b rb mb vb : Nat) (d' : D) (x y : X) (cap pk : Int) (bufs : List (Nat × Nat × Option Addr)) (per : Nat) (ws : List UInt64) (a : Nat) : List As :=
  [pts p (pipO dp ap x), pts q (pipO dp ap y), Dk dp d', Ar ap cap pk (bufs ++ [(b, per, some ⟨rb, 0, none⟩)]), pts rb (.row (wordVals ws) 62 mb), pts bp (.obj (.cells #[.pointer (some ⟨p, 0, none⟩)] 53)), pts bq (.obj (.cells #[.pointer (some ⟨q, 0, none⟩)] 53)), pts bt (.obj (.cells #[.int .i64 (a : Int)] 3)), pts vb (.row [.pointer (some ⟨b, 0, none⟩)] 105 1)]

def copyC (bp bq bt : Nat) : Array Value := #[.pointer (some ⟨bp, 0, none⟩), .pointer (some ⟨bq, 0, none⟩), .pointer (some ⟨bt, 0, none⟩)]

theorem min_nat {per left : Nat} {l : Int} (h : l = left) : (if (per : Int) < l then (per : Int) else l) = ((if per < left then per else left : Nat) : Int) := by
  subst h
  by_cases c : per < left
  · rw [if_pos c, if_pos (by omega)]
  · rw [if_neg c, if_neg (by omega)]

end

end Go.Proofs.Ytbnhfcdagoigkaa.Str

/- stream: Copy; words that are the same. -/
set_option maxRecDepth 100000
set_option linter.unusedSimpArgs false
set_option linter.unusedVariables false
set_option linter.unnecessarySimpa false
set_option linter.unusedSectionVars false
namespace Go.Proofs.Ytbnhfcdagoigkaa.Str
open Go Go.Hw Go.Form Go.Proofs.Ytbnhfcdagoigkaa.W Go.Proofs.Ytbnhfcdagoigkaa.Dsk Go.Proofs.Ytbnhfcdagoigkaa.Are

theorem Same_loop (H : Hp) (A B : Option Addr) (n m m' : Nat) (ws : List UInt64) (hn : n = ws.length) (hl : n ≤ 1000000000) (ha : Cells H A (wordVals ws)) (hb : Cells H B (wordVals ws)) :
    ∀ (t i : Nat), i + t = n → W_abacistref04_Same.l4 (RetE (.bool true) H) (t + 1) A n m B n m' (i : Int) H
  | 0, i, h => by
    unfold W_abacistref04_Same.l4
    exact BIf_dneg (by omega) (RetE.mk _ _)
  | t + 1, i, h => by
    unfold W_abacistref04_Same.l4
    refine BIf_dpos (by omega) ?_
    have hg : (wordVals ws)[i]? = some (.int .u64 ((ws[i]'(by omega)).toNat : Int)) := by
      rw [wordVals_get, List.getElem?_eq_getElem (by omega)]; rfl
    refine ha.read hg rfl (by rw [wordVals_length]; omega) ?_
    simp only [DI_int', DB_bool, DS_string, DP_pointer, DSl_slice, DM_map, DA_agg, DTup_tuple, DCons_cons, DNil_nil, NN_some, BIf_true, BIf_false, BIf_same, List.toList_toArray, Bool.not_true, Bool.not_false]
    refine hb.read hg rfl (by rw [wordVals_length]; omega) ?_
    simp only [DI_int', DB_bool, DS_string, DP_pointer, DSl_slice, DM_map, DA_agg, DTup_tuple, DCons_cons, DNil_nil, NN_some, BIf_true, BIf_false, BIf_same, List.toList_toArray, Bool.not_true, Bool.not_false]
    refine BIf_bnen rfl ?_
    rw [i64w (x := (i : Int) + 1) (by omega) (by omega)]
    exact Same_loop H A B n m m' ws hn hl ha hb t (i + 1) (by omega)
theorem Same_ok (A B : Option Addr) (n m m' : Nat) (ws : List UInt64) (hn : n = ws.length) (hl : n ≤ 1000000000) (H : Hp) (ha : Cells H A (wordVals ws)) (hb : Cells H B (wordVals ws)) :
    HCalls Try.prog 21 #[.slice A n m, .slice B n m'] H (RetE (.bool true) H) := by
  apply W_abacistref04_Same.ok
  unfold W_abacistref04_Same
  refine BIf_bnen rfl ⟨n + 1, ?_⟩
  exact Same_loop H A B n m m' ws hn hl ha hb n 0 (by omega)

theorem New_nil (a : Option Addr) (f s w : Int) (H : Hp) : HCalls Try.prog 40 #[.pointer none, .pointer a, .agg #[.int .i64 f, .int .i64 s, .int .i64 w]] H (RetE (.tuple #[.pointer none, .int .i64 1]) H) := by
  apply HCalls.ret
  apply W_stream_New.ok
  unfold W_stream_New
  refine (Sep.start H).nw fun b1 H' hs => ?_
  exact BIf_pos rfl (hs.fin 0 rfl _)

section
variable {p q dp ap : Nat} {d : D} {x y : X} {cap peak : Int} {bufs : List (Nat × Nat × Option Addr)}
theorem mx_idem (a b : Int) : mx (mx a b) b = mx a b := by
  unfold mx
  by_cases h : b > a
  · rw [if_pos h, if_neg (by omega)]
  · rw [if_neg h, if_neg h]

end

end Go.Proofs.Ytbnhfcdagoigkaa.Str

/- stream: each, with any function; Fill. -/
set_option maxRecDepth 100000
set_option linter.unusedSimpArgs false
set_option linter.unusedVariables false
set_option linter.unnecessarySimpa false
set_option linter.unusedSectionVars false
namespace Go.Proofs.Ytbnhfcdagoigkaa.Str
open Go Go.Hw Go.Form Go.Proofs.Ytbnhfcdagoigkaa.W Go.Proofs.Ytbnhfcdagoigkaa.Dsk Go.Proofs.Ytbnhfcdagoigkaa.Are

theorem cat2 (a b c d e : Value) : ((#[] ++ #[a, b, c]) ++ #[d, e] : Array Value) = #[a, b, c, d, e] := rfl

section
variable {p dp ap bp : Nat} {d : D} {x : X} {cap peak : Int} {bufs : List (Nat × Nat × Option Addr)} {B : As}

/-- The parts of memory while a function goes through sectors. -/
def eachL (p dp ap bp b rb mb vb : Nat) (d : D) (x : X) (cap pk : Int) (bufs : List (Nat × Nat × Option Addr)) (per : Nat) (ws : List UInt64) (B : As) : List As :=
  [pts p (pipO dp ap x), Dk dp d, Ar ap cap pk (bufs ++ [(b, per, some ⟨rb, 0, none⟩)]), pts rb (.row (wordVals ws) 62 mb), pts bp (.obj (.cells #[.pointer (some ⟨p, 0, none⟩)] 53)), B, pts vb (.row [.pointer (some ⟨b, 0, none⟩)] 105 1)]

theorem each_start2 (K : Value → Hp → Prop) (f : FuncId) (C : Array Value) (hok : Ok d) (hcap : (D.per d : Int) ≤ cap - sumB bufs) {H : Hp}
    (hs : Sep [pts p (pipO dp ap x), Dk dp d, Ar ap cap peak bufs, pts bp (.obj (.cells #[.pointer (some ⟨p, 0, none⟩)] 53)), B] H)
    (k : ∀ b rb vb H, (∀ z ∈ bufs, z.1 ≠ b) → Sep (eachL p dp ap bp b rb (D.per d) vb d x cap (mx peak (sumB bufs + D.per d)) bufs (D.per d) (List.replicate (D.per d) 0) B) H →
      ∃ t, W_stream_Pipe_each.l6 K t (some ⟨p, 0, none⟩) f #[] C (some ⟨b, 0, none⟩) 0 (x.w : Int) (x.f : Int) (some ⟨ap, 0, none⟩) (some ⟨vb, 0, none⟩) 1 1 H) :
    HCalls Try.prog 48 #[.pointer (some ⟨p, 0, none⟩), .func (.func f) #[] C] H K := by
  have hp := Ok.per_le hok
  apply W_stream_Pipe_each.ok
  unfold W_stream_Pipe_each
  simp only [NN_some, Addr.add_lit', Addr.add_zero, Nat.zero_add, Nat.add_zero]
  have rest : ∀ (b rb : Nat) (H : Hp), (∀ y ∈ bufs, y.1 ≠ b) → Sep [Ar ap cap (if sumB bufs + D.per d > peak then sumB bufs + D.per d else peak) (bufs ++ [(b, D.per d, some ⟨rb, 0, none⟩)]), pts rb (.row (zerosU64 (D.per d)) 62 (D.per d)), pts p (pipO dp ap x), Dk dp d, pts bp (.obj (.cells #[.pointer (some ⟨p, 0, none⟩)] 53)), B] H →
      W_stream_Pipe_each.j2 K (some ⟨p, 0, none⟩) f #[] C (some ⟨b, 0, none⟩) 0 H := fun b rb H hbm hs => by
    unfold W_stream_Pipe_each.j2
    refine BIf_bnen rfl ?_
    simp only [NN_some, Addr.add_lit', Addr.add_zero, Nat.zero_add, Nat.add_zero]
    refine hs.ld 2 rfl rfl ?_
    simp only [DI_int', DB_bool, DS_string, DP_pointer, DSl_slice, DM_map, DA_agg, DTup_tuple, DCons_cons, DNil_nil, NN_some, BIf_true, BIf_false, BIf_same, List.toList_toArray, Bool.not_true, Bool.not_false]
    refine hs.nw fun vb H hs => ?_
    refine QCall.use (words_s hs 2 rfl) ?_
    simp only [DI_int', DB_bool, DS_string, DP_pointer, DSl_slice, DM_map, DA_agg, DTup_tuple, DCons_cons, DNil_nil, NN_some, BIf_true, BIf_false, BIf_same, List.toList_toArray, Bool.not_true, Bool.not_false]
    refine hs.ld 2 rfl rfl ?_
    simp only [DI_int', DB_bool, DS_string, DP_pointer, DSl_slice, DM_map, DA_agg, DTup_tuple, DCons_cons, DNil_nil, NN_some, BIf_true, BIf_false, BIf_same, List.toList_toArray, Bool.not_true, Bool.not_false]
    have hz : zerosU64 (D.per d) = wordVals (List.replicate (D.per d) 0) := by
      unfold zerosU64
      rw [zeroRow_one]
      unfold wordVals
      rw [List.map_replicate]; rfl
    rw [hz] at hs
    exact k b rb vb H hbm (hs.re [2, 3, 0, 1, 4, 5, 6] rfl)
  have fresh : ∀ {L : List As} {H : Hp} (b rb : Nat) (pk : Int), Sep L H → L[0]? = some (Ar ap cap pk (bufs ++ [(b, D.per d, some ⟨rb, 0, none⟩)])) → ∀ y ∈ bufs, y.1 ≠ b := fun b rb pk hs h0 y hy e => by
    obtain ⟨mp, cl, tk, hA⟩ := Sep.ar hs 0 h0
    have := hA.bn
    rw [List.map_append, List.nodup_append] at this
    exact this.2.2 y.1 (List.mem_map_of_mem hy) b (by simp) e
  refine ⟨?_, ?_⟩
  · refine hs.ld 0 rfl rfl ?_
    simp only [DI_int', DB_bool, DS_string, DP_pointer, DSl_slice, DM_map, DA_agg, DTup_tuple, DCons_cons, DNil_nil, NN_some, BIf_true, BIf_false, BIf_same, List.toList_toArray, Bool.not_true, Bool.not_false]
    refine HCalls.use (per_s hs 0 1 rfl rfl hok) ?_
    try simp only [DI_int', DB_bool, DS_string, DP_pointer, DSl_slice, DM_map, DA_agg, DTup_tuple, DCons_cons, DNil_nil, NN_some, BIf_true, BIf_false, BIf_same, List.toList_toArray, Bool.not_true, Bool.not_false]
    refine (Take_tr (a := ap) (cap := cap) (peak := peak) (bufs := bufs) (n := D.per d) (by omega) hcap).use hs [2] rfl rfl ?_
    rintro _ _ H ⟨b, rb, rfl, rfl⟩ hs
    simp only [DI_int', DB_bool, DS_string, DP_pointer, DSl_slice, DM_map, DA_agg, DTup_tuple, DCons_cons, DNil_nil, NN_some, BIf_true, BIf_false, BIf_same, List.toList_toArray, Bool.not_true, Bool.not_false]
    exact rest b rb H (fresh b rb _ hs rfl) hs
  · refine HCalls.use (per_s hs 0 1 rfl rfl hok) ?_
    try simp only [DI_int', DB_bool, DS_string, DP_pointer, DSl_slice, DM_map, DA_agg, DTup_tuple, DCons_cons, DNil_nil, NN_some, BIf_true, BIf_false, BIf_same, List.toList_toArray, Bool.not_true, Bool.not_false]
    refine hs.ld 0 rfl rfl ?_
    simp only [DI_int', DB_bool, DS_string, DP_pointer, DSl_slice, DM_map, DA_agg, DTup_tuple, DCons_cons, DNil_nil, NN_some, BIf_true, BIf_false, BIf_same, List.toList_toArray, Bool.not_true, Bool.not_false]
    refine (Take_tr (a := ap) (cap := cap) (peak := peak) (bufs := bufs) (n := D.per d) (by omega) hcap).use hs [2] rfl rfl ?_
    rintro _ _ H ⟨b, rb, rfl, rfl⟩ hs
    simp only [DI_int', DB_bool, DS_string, DP_pointer, DSl_slice, DM_map, DA_agg, DTup_tuple, DCons_cons, DNil_nil, NN_some, BIf_true, BIf_false, BIf_same, List.toList_toArray, Bool.not_true, Bool.not_false]
    exact rest b rb H (fresh b rb _ hs rfl) hs
end

section
variable {p dp ap bp bw b rb mb : Nat} {d : D} {x : X} {cap peak : Int} {bufs : List (Nat × Nat × Option Addr)}
/-- A word's cell. -/
def wordO (bw : Nat) (w : UInt64) : As := pts bw (.obj (.cells #[.int .u64 (w.toNat : Int)] 62))

theorem fill_loop (K : Value → Hp → Prop) {w : UInt64} (hbm : (b, D.per d, some ⟨rb, 0, none⟩) ∈ bufs) (s n : Nat) (hn : n ≤ D.per d) (hp : D.per d ≤ 1000) (wsF : List UInt64) (hl : wsF.length = D.per d)
    {d0 : D} (hok : Ok d0) (hc : Calm d0) (ho : d0.wr ≤ 4611686010000000000) (hs1 : s < d0.sec) (hper : D.per d0 = D.per d)
    (hK : ∀ H, Sep [pts p (pipO dp ap x), Dk dp (D.put d0 s (setW wsF 0 (List.replicate n w))), Ar ap cap peak bufs, pts rb (.row (wordVals (setW wsF 0 (List.replicate n w))) 62 mb), pts bp (.obj (.cells #[.pointer (some ⟨p, 0, none⟩)] 53)), wordO bw w] H → K (.int .i64 0) H) :
    ∀ (t j : Nat) (H : Hp), j + t = n → Sep [pts p (pipO dp ap x), Dk dp d0, Ar ap cap peak bufs, pts rb (.row (wordVals (setW wsF 0 (List.replicate j w))) 62 mb), pts bp (.obj (.cells #[.pointer (some ⟨p, 0, none⟩)] 53)), wordO bw w] H →
      W_stream_Pipe_Fill_1.l6 K (t + 1) (s : Int) (some ⟨b, 0, none⟩) (some ⟨bp, 0, none⟩) (some ⟨bw, 0, none⟩) (n : Int) (j : Int) H
  | 0, j, H, hj, hs => by
    obtain rfl : j = n := by omega
    have hlen : (setW wsF 0 (List.replicate j w)).length = D.per d := by rw [setW_len (by simp; omega)]; exact hl
    unfold W_stream_Pipe_Fill_1.l6
    refine BIf_dneg (by omega) ?_
    try simp only [NN_some, Addr.add_lit', Addr.add_zero, Nat.zero_add, Nat.add_zero]
    refine hs.ld 4 rfl rfl ?_
    simp only [DI_int', DB_bool, DS_string, DP_pointer, DSl_slice, DM_map, DA_agg, DTup_tuple, DCons_cons, DNil_nil, NN_some, BIf_true, BIf_false, BIf_same, List.toList_toArray, Bool.not_true, Bool.not_false]
    try simp only [NN_some, Addr.add_lit', Addr.add_zero, Nat.zero_add, Nat.add_zero]
    refine (store_tr (p := p) (ap := ap) (x := x) (cap := cap) (peak := peak) (b := b) (rb := rb) (m := mb) (d := d0) (ws := setW wsF 0 (List.replicate j w)) hok hc (by omega) (s : Int) (Int.natCast_nonneg _) (Int.ofNat_lt.2 hs1) (bufs := bufs) (by rw [hper]; exact hbm) (by rw [hper]; exact hlen)).use hs [0, 1, 2, 3] rfl rfl ?_
    rintro _ _ H ⟨rfl, rfl⟩ hs
    simp only [DI_int', DB_bool, DS_string, DP_pointer, DSl_slice, DM_map, DA_agg, DTup_tuple, DCons_cons, DNil_nil, NN_some, BIf_true, BIf_false, BIf_same, List.toList_toArray, Bool.not_true, Bool.not_false]
    exact hK H hs
  | t + 1, j, H, hj, hs => by
    have hlen : (setW wsF 0 (List.replicate j w)).length = D.per d := by rw [setW_len (by simp; omega)]; exact hl
    unfold W_stream_Pipe_Fill_1.l6
    refine BIf_dpos (by omega) ?_
    refine QCall.use (Words_s hs 2 rfl hbm) ?_
    simp only [DI_int', DB_bool, DS_string, DP_pointer, DSl_slice, DM_map, DA_agg, DTup_tuple, DCons_cons, DNil_nil, NN_some, BIf_true, BIf_false, BIf_same, List.toList_toArray, Bool.not_true, Bool.not_false]
    try simp only [NN_some, Addr.add_lit', Addr.add_zero, Nat.zero_add, Nat.add_zero]
    have hsw : Sep [pts p (pipO dp ap x), Dk dp d0, Ar ap cap peak bufs, pts rb (.row (wordVals (setW wsF 0 (List.replicate j w))) 62 mb), pts bp (.obj (.cells #[.pointer (some ⟨p, 0, none⟩)] 53)), pts bw (.obj (.cells #[.int .u64 (w.toNat : Int)] 62))] H := hs
    refine hsw.ld 5 rfl rfl ?_
    simp only [DI_int', DB_bool, DS_string, DP_pointer, DSl_slice, DM_map, DA_agg, DTup_tuple, DCons_cons, DNil_nil, NN_some, BIf_true, BIf_false, BIf_same, List.toList_toArray, Bool.not_true, Bool.not_false]
    refine ⟨by omega, by omega, ?_⟩
    rw [Int.toNat_natCast, Nat.mul_one]
    try simp only [NN_some, Addr.add_lit', Addr.add_zero, Nat.zero_add, Nat.add_zero]
    refine hsw.str 3 (b := rb) (j := j) rfl (by rw [wordVals_length, hlen]; omega) rfl fun H hs => ?_
    rw [i64w (x := (j : Int) + 1) (by omega) (by omega)]
    refine fill_loop K hbm s n hn hp wsF hl hok hc ho hs1 hper hK t (j + 1) H (by omega) ?_
    have e : (wordVals (setW wsF 0 (List.replicate j w))).set j (.int .u64 (w.toNat : Int)) = wordVals (setW wsF 0 (List.replicate (j + 1) w)) := by
      unfold wordVals setW
      rw [← List.map_set (f := fun w : UInt64 => Value.int .u64 (w.toNat : Int))]
      congr 1
      simp only [List.take_zero, List.nil_append, List.length_replicate, Nat.zero_add]
      rw [List.replicate_succ', List.append_assoc, List.set_append, if_neg (by rw [List.length_replicate]; omega), List.length_replicate, Nat.sub_self]
      congr 1
      rw [List.drop_eq_getElem_cons (show j < wsF.length by omega)]
      rfl
    rw [← e]
    exact hs

theorem setW_all {a b w : List UInt64} (h1 : a.length = w.length) (h2 : b.length = w.length) : setW a 0 w = setW b 0 w := by
  unfold setW
  rw [List.drop_eq_nil_of_le (by omega), List.drop_eq_nil_of_le (by omega)]
  simp

theorem Fill1_tr {w : UInt64} {ws : List UInt64} (hok : Ok d) (hc : Calm d) (ho : d.rd ≤ 4611685000000000000 ∧ d.wr ≤ 4611685000000000000) (s n : Nat) (hs1 : s < d.sec) (hn2 : n ≤ D.per d)
    (hbm : (b, D.per d, some ⟨rb, 0, none⟩) ∈ bufs) (hws : ws.length = D.per d) :
    Tr Try.prog 49 #[.int .i64 s, .int .i64 n, .pointer (some ⟨b, 0, none⟩), .pointer (some ⟨bp, 0, none⟩), .pointer (some ⟨bw, 0, none⟩)]
      [pts p (pipO dp ap x), Dk dp d, Ar ap cap peak bufs, pts rb (.row (wordVals ws) 62 mb), pts bp (.obj (.cells #[.pointer (some ⟨p, 0, none⟩)] 53)), wordO bw w] fun v M =>
      ∃ ws', ws'.length = D.per d ∧ v = .int .i64 0 ∧ M = [pts p (pipO dp ap x), Dk dp (wpc d s 0 (List.replicate n w)), Ar ap cap peak bufs, pts rb (.row (wordVals ws') 62 mb), pts bp (.obj (.cells #[.pointer (some ⟨p, 0, none⟩)] 53)), wordO bw w] := fun H hs => by
  have hp := Ok.per_le hok
  have hwl : (wordsB (d.now (s : Int))).length = D.per d := by rw [wordsB_len, hok.now]; rfl
  have hlen : ∀ l : List UInt64, l.length = D.per d → (setW l 0 (List.replicate n w)).length = D.per d := fun l hl => by rw [setW_len (by simp; omega)]; exact hl
  have hs0 : ∀ l : List UInt64, setW l 0 (List.replicate 0 w) = l := fun l => by simp [setW]
  apply W_stream_Pipe_Fill_1.ok
  unfold W_stream_Pipe_Fill_1
  try simp only [NN_some, Addr.add_lit', Addr.add_zero, Nat.zero_add, Nat.add_zero]
  refine hs.ld 4 rfl rfl ?_
  simp only [DI_int', DB_bool, DS_string, DP_pointer, DSl_slice, DM_map, DA_agg, DTup_tuple, DCons_cons, DNil_nil, NN_some, BIf_true, BIf_false, BIf_same, List.toList_toArray, Bool.not_true, Bool.not_false]
  try simp only [NN_some, Addr.add_lit', Addr.add_zero, Nat.zero_add, Nat.add_zero]
  refine HCalls.use (per_s hs 0 1 rfl rfl hok) ?_
  try simp only [DI_int', DB_bool, DS_string, DP_pointer, DSl_slice, DM_map, DA_agg, DTup_tuple, DCons_cons, DNil_nil, NN_some, BIf_true, BIf_false, BIf_same, List.toList_toArray, Bool.not_true, Bool.not_false]
  by_cases hlt : n < D.per d
  · refine BIf_dpos (by omega) ?_
    try simp only [NN_some, Addr.add_lit', Addr.add_zero, Nat.zero_add, Nat.add_zero]
    refine hs.ld 4 rfl rfl ?_
    simp only [DI_int', DB_bool, DS_string, DP_pointer, DSl_slice, DM_map, DA_agg, DTup_tuple, DCons_cons, DNil_nil, NN_some, BIf_true, BIf_false, BIf_same, List.toList_toArray, Bool.not_true, Bool.not_false]
    try simp only [NN_some, Addr.add_lit', Addr.add_zero, Nat.zero_add, Nat.add_zero]
    refine (load_tr (p := p) (ap := ap) (x := x) (cap := cap) (peak := peak) (b := b) (rb := rb) (m := mb) hok hc (by omega) (s : Int) (Int.natCast_nonneg _) (Int.ofNat_lt.2 hs1) hbm (xs := wordVals ws) (by rw [wordVals_length]; exact hws)).use hs [0, 1, 2, 3] rfl rfl ?_
    rintro _ _ H ⟨rfl, rfl⟩ hs
    simp only [DI_int', DB_bool, DS_string, DP_pointer, DSl_slice, DM_map, DA_agg, DTup_tuple, DCons_cons, DNil_nil, NN_some, BIf_true, BIf_false, BIf_same, List.toList_toArray, Bool.not_true, Bool.not_false]
    refine BIf_bnen rfl ?_
    unfold W_stream_Pipe_Fill_1.j5
    refine ⟨n + 1, ?_⟩
    have ho2 : (D.more d).wr ≤ 4611686010000000000 := by show d.wr ≤ _; omega
    have hp1 : D.per d ≤ 1000 := by omega
    refine fill_loop _ (p := p) (dp := dp) (ap := ap) (bp := bp) (bw := bw) (b := b) (rb := rb) (mb := mb) (d := d) (x := x) (cap := cap) (peak := peak) (bufs := bufs) (w := w) hbm s n hn2 hp1 (wordsB (d.now (s : Int))) hwl (d0 := D.more d) (Ok.more hok) (Calm.more hc) ho2 hs1 rfl (fun H hs => ⟨_, ⟨_, hlen _ hwl, rfl, rfl⟩, ?_⟩) n 0 H (by omega) ?_
    · rw [hs0]; exact hs
    · have e : wpc d s 0 (List.replicate n w) = D.put (D.more d) s (setW (wordsB (d.now (s : Int))) 0 (List.replicate n w)) := by
        unfold wpc
        rw [List.length_replicate, if_pos hlt]
      rw [e]
      exact hs
  · refine BIf_dneg (by omega) ?_
    unfold W_stream_Pipe_Fill_1.j5
    refine ⟨n + 1, ?_⟩
    have ho2 : d.wr ≤ 4611686010000000000 := by omega
    have hp1 : D.per d ≤ 1000 := by omega
    refine fill_loop _ (p := p) (dp := dp) (ap := ap) (bp := bp) (bw := bw) (b := b) (rb := rb) (mb := mb) (d := d) (x := x) (cap := cap) (peak := peak) (bufs := bufs) (w := w) hbm s n hn2 hp1 ws hws (d0 := d) hok hc ho2 hs1 rfl (fun H hs => ⟨_, ⟨_, hlen _ hws, rfl, rfl⟩, ?_⟩) n 0 H (by omega) ?_
    · rw [hs0]; exact hs
    · have e : wpc d s 0 (List.replicate n w) = D.put d s (setW ws 0 (List.replicate n w)) := by
        unfold wpc
        rw [List.length_replicate, if_neg hlt, setW_all (a := ws) (b := wordsB (d.now (s : Int))) (by simp; omega) (by simp; omega)]
      rw [e]
      exact hs
end

end Go.Proofs.Ytbnhfcdagoigkaa.Str

/- stream: Fill. -/
set_option maxRecDepth 100000
set_option linter.unusedSimpArgs false
set_option linter.unusedVariables false
set_option linter.unnecessarySimpa false
set_option linter.unusedSectionVars false
namespace Go.Proofs.Ytbnhfcdagoigkaa.Str
open Go Go.Hw Go.Form Go.Proofs.Ytbnhfcdagoigkaa.W Go.Proofs.Ytbnhfcdagoigkaa.Dsk Go.Proofs.Ytbnhfcdagoigkaa.Are

section
variable {p dp ap bp bw b rb mb vb : Nat} {d : D} {x : X} {cap peak pk : Int} {bufs : List (Nat × Nat × Option Addr)}
def fillC (bp bw : Nat) : Array Value := #[.pointer (some ⟨bp, 0, none⟩), .pointer (some ⟨bw, 0, none⟩)]

theorem each_fill (K : Value → Hp → Prop) {w : UInt64} (hok : Ok d) (hbm : ∀ z ∈ bufs, z.1 ≠ b) (hx : On d x) (dF : D)
    (hK : ∀ H, Sep [pts p (pipO dp ap x), Dk dp dF, Ar ap cap pk bufs] H → K (.int .i64 0) H) :
    ∀ (t i : Nat) (d' : D) (k : Nat) (ws : List UInt64) (H : Hp), Ok d' → Calm d' → d'.size = d.size → d'.sec = d.sec → d'.rd + t ≤ 4000000000000000000 → d'.wr + t ≤ 4000000000000000000 → x.w - i * D.per d ≤ k → wrs d' x k (i * D.per d) (List.replicate (x.w - i * D.per d) w) = dF → x.w ≤ (i + t) * D.per d → ws.length = D.per d →
      Sep (eachL p dp ap bp b rb mb vb d' x cap pk bufs (D.per d) ws (wordO bw w)) H →
      W_stream_Pipe_each.l6 K (t + 1) (some ⟨p, 0, none⟩) 49 #[] (fillC bp bw) (some ⟨b, 0, none⟩) 0 ((x.w : Int) - ((i * D.per d : Nat) : Int)) ((x.f + i : Nat) : Int) (some ⟨ap, 0, none⟩) (some ⟨vb, 0, none⟩) 1 1 H := fun t => by
  have hp := Ok.per_le hok
  have hsec := hok.sec
  have hroom : x.s * D.per d ≤ 1048576 * 512 := Nat.mul_le_mul (by have := hx.fit; omega) (by omega)
  have h4 := hx.room
  have hw1 := hx.w1
  have hfit := hx.fit
  have fin : ∀ (i : Nat) (d' : D) (k : Nat) (ws : List UInt64) (H : Hp), x.w ≤ i * D.per d → wrs d' x k (i * D.per d) (List.replicate (x.w - i * D.per d) w) = dF → Sep (eachL p dp ap bp b rb mb vb d' x cap pk bufs (D.per d) ws (wordO bw w)) H →
      HCallsD Try.prog 44 #[.pointer (some ⟨ap, 0, none⟩), .slice (some ⟨vb, 0, none⟩) 1 1] H fun _ H9 => K (.int .i64 0) H9 := fun i d' k ws H hi hF hs => by
    have e : wrs d' x k (i * D.per d) (List.replicate (x.w - i * D.per d) w) = d' := by
      rw [Nat.sub_eq_zero_of_le hi]
      cases k <;> simp [wrs]
    rw [e] at hF
    subst hF
    unfold eachL at hs
    refine (Give_oneD vb b (D.per d) (some ⟨rb, 0, none⟩) hbm).use hs [2, 6] rfl rfl ?_
    rintro _ _ H ⟨rfl, rfl⟩ hs
    exact hK H (hs.re [1, 2, 0] rfl)
  induction t with
  | zero =>
    intro i d' k ws H hok' hc' hsz hse hrd hwr hk hF hi hws hs
    rw [Nat.add_zero] at hi
    unfold W_stream_Pipe_each.l6
    exact BIf_dneg (by omega) (fin i d' k ws H hi hF hs)
  | succ t ih =>
    intro i d' k ws H hok' hc' hsz hse hrd hwr hk hF hi hws hs
    by_cases hlt : i * D.per d < x.w
    · have hper : D.per d' = D.per d := by unfold D.per; rw [hsz]
      have his : i < x.s := by
        apply Nat.lt_of_mul_lt_mul_right (a := D.per d)
        omega
      have hn : (if D.per d < x.w - i * D.per d then D.per d else x.w - i * D.per d) = (if D.per d < x.w - i * D.per d then D.per d else x.w - i * D.per d) := rfl
      generalize hnv : (if D.per d < x.w - i * D.per d then D.per d else x.w - i * D.per d) = n at hn
      have hn1 : 1 ≤ n ∧ n ≤ D.per d ∧ i * D.per d + n ≤ x.w := by rw [← hnv]; split <;> omega
      obtain ⟨k', rfl⟩ : ∃ k', k = k' + 1 := ⟨k - 1, by omega⟩
      have hdv : i * D.per d / D.per d = i := Nat.mul_div_cancel _ (by omega)
      have hmd : i * D.per d % D.per d = 0 := Nat.mul_mod_left _ _
      have hcN : cN (D.per d) (i * D.per d) (x.w - i * D.per d) = n := by
        unfold cN
        rw [hmd, Nat.sub_zero, hnv]
      have hne : List.replicate (x.w - i * D.per d) w ≠ [] := by
        intro e
        have := congrArg List.length e
        simp at this
        omega
      have ew : wrs d' x (k' + 1) (i * D.per d) (List.replicate (x.w - i * D.per d) w) = wrs (wpc d' (x.f + i) 0 (List.replicate n w)) x k' (i * D.per d + n) (List.replicate (x.w - i * D.per d - n) w) := by
        show (if List.replicate (x.w - i * D.per d) w = [] then d' else _) = _
        rw [if_neg hne, hper, List.length_replicate, hdv, hmd, hcN, List.take_replicate, List.drop_replicate, Nat.min_eq_left (by omega)]
      rw [ew] at hF
      unfold eachL at hs
      unfold W_stream_Pipe_each.l6
      refine BIf_dpos (by omega) (BIf_beqp rfl ?_)
      try simp only [NN_some, Addr.add_lit', Addr.add_zero, Nat.zero_add, Nat.add_zero]
      refine HCalls.use (per_s hs 0 1 rfl rfl hok') ?_
      try simp only [DI_int', DB_bool, DS_string, DP_pointer, DSl_slice, DM_map, DA_agg, DTup_tuple, DCons_cons, DNil_nil, NN_some, BIf_true, BIf_false, BIf_same, List.toList_toArray, Bool.not_true, Bool.not_false]
      rw [hper]
      refine BIf_pos (by kernel_rfl) ?_
      unfold fillC
      rw [cat2, min_nat (left := x.w - i * D.per d) (by omega), hnv]
      have hs1 : x.f + i < d'.sec := by rw [hse]; omega
      have hn2 : n ≤ D.per d' := by rw [hper]; exact hn1.2.1
      have hmem : (b, D.per d', some ⟨rb, 0, none⟩) ∈ bufs ++ [(b, D.per d, some (⟨rb, 0, none⟩ : Addr))] := by rw [hper]; exact List.mem_append_right _ (List.mem_singleton.2 rfl)
      have hwp : ws.length = D.per d' := by rw [hper]; exact hws
      have ho : d'.rd ≤ 4611685000000000000 ∧ d'.wr ≤ 4611685000000000000 := by omega
      refine (Fill1_tr (p := p) (dp := dp) (ap := ap) (bp := bp) (bw := bw) (b := b) (rb := rb) (mb := mb) (d := d') (x := x) (cap := cap) (peak := pk) (bufs := bufs ++ [(b, D.per d, some ⟨rb, 0, none⟩)]) (w := w) (ws := ws) hok' hc' ho (x.f + i) n hs1 hn2 hmem hwp).use hs [0, 1, 2, 3, 4, 5] rfl rfl ?_
      rintro _ _ H ⟨ws', hws', rfl, rfl⟩ hs
      have hok2 : Ok (wpc d' (x.f + i) 0 (List.replicate n w)) := wpc_ok hok' _ _ (by simp; omega)
      have hsz2 := wpc_size d' (x.f + i) 0 (List.replicate n w)
      have hcnt := wpc_cnt d' (x.f + i) 0 (List.replicate n w)
      have hper2 := wpc_per d' (x.f + i) 0 (List.replicate n w)
      refine DR_int (t := 28) (by kernel_rfl) (by kernel_rfl) ?_
      simp only [DI_int', DB_bool, DS_string, DP_pointer, DSl_slice, DM_map, DA_agg, DTup_tuple, DCons_cons, DNil_nil, NN_some, BIf_true, BIf_false, BIf_same, List.toList_toArray, Bool.not_true, Bool.not_false]
      refine HCalls.use (per_s hs 0 1 rfl rfl hok2) ?_
      try simp only [DI_int', DB_bool, DS_string, DP_pointer, DSl_slice, DM_map, DA_agg, DTup_tuple, DCons_cons, DNil_nil, NN_some, BIf_true, BIf_false, BIf_same, List.toList_toArray, Bool.not_true, Bool.not_false]
      rw [hper2, hper]
      have e1 : IntKind.i64.wrap ((x.w : Int) - ((i * D.per d : Nat) : Int) - (D.per d : Int)) = (x.w : Int) - (((i + 1) * D.per d : Nat) : Int) := by
        rw [i64w (by omega) (by omega), Nat.succ_mul]; omega
      have e2 : IntKind.i64.wrap (((x.f + i : Nat) : Int) + 1) = ((x.f + (i + 1) : Nat) : Int) := by
        rw [i64w (by omega) (by omega)]; omega
      rw [e1, e2]
      have hrd2 : (wpc d' (x.f + i) 0 (List.replicate n w)).rd + t ≤ 4000000000000000000 := by rw [hcnt.2.1]; split <;> omega
      have hwr2 : (wpc d' (x.f + i) 0 (List.replicate n w)).wr + t ≤ 4000000000000000000 := by rw [hcnt.1]; omega
      have hsub : x.w - i * D.per d - n = x.w - (i + 1) * D.per d := by
        rw [Nat.succ_mul, ← hnv]
        split <;> omega
      have hF2 : wrs (wpc d' (x.f + i) 0 (List.replicate n w)) x k' ((i + 1) * D.per d) (List.replicate (x.w - (i + 1) * D.per d) w) = dF := by
        rw [hsub] at hF
        by_cases h0 : x.w - (i + 1) * D.per d = 0
        · rw [h0] at hF ⊢
          rw [← hF]
          cases k' <;> simp [wrs]
        · have : i * D.per d + n = (i + 1) * D.per d := by
            rw [Nat.succ_mul] at h0 ⊢
            rw [← hnv]
            split <;> omega
          rw [← this] at hF ⊢
          exact hF
      have hk2 : x.w - (i + 1) * D.per d ≤ k' := by omega
      refine ih (i + 1) _ k' ws' H hok2 (wpc_calm hc' _ _ _) (hsz2.1.trans hsz) (hsz2.2.trans hse) hrd2 hwr2 hk2 hF2 (by rw [show i + 1 + t = i + (t + 1) by omega]; exact hi) (hws'.trans hper) ?_
      exact hs
    · unfold W_stream_Pipe_each.l6
      exact BIf_dneg (by omega) (fin i d' k ws H (by omega) hF hs)

/-- All words are one. -/
theorem Fill_tr {w : UInt64} (hok : Ok d) (hc : Calm d) (hx : On d x) (hr0 : d.rd ≤ 3000000000000000000 ∧ d.wr ≤ 3000000000000000000) (hcap : (D.per d : Int) ≤ cap - sumB bufs) :
    Tr Try.prog 23 #[.pointer (some ⟨p, 0, none⟩), .int .u64 (w.toNat : Int)] [pts p (pipO dp ap x), Dk dp d, Ar ap cap peak bufs] fun v M =>
      v = .int .i64 0 ∧ M = [pts p (pipO dp ap x), Dk dp (wrs d x x.w 0 (List.replicate x.w w)), Ar ap cap (mx peak (sumB bufs + D.per d)) bufs] := fun H hs => by
  have hp := Ok.per_le hok
  have hsec := hok.sec
  have hroom : x.s * D.per d ≤ 1048576 * 512 := Nat.mul_le_mul (by have := hx.fit; omega) (by omega)
  have h4 := hx.room
  apply W_stream_Pipe_Fill.ok
  unfold W_stream_Pipe_Fill
  refine hs.nw fun bp H hs => ?_
  refine hs.nw fun bw H hs => ?_
  refine hs.ld 3 rfl rfl ?_
  simp only [DI_int', DB_bool, DS_string, DP_pointer, DSl_slice, DM_map, DA_agg, DTup_tuple, DCons_cons, DNil_nil, NN_some, BIf_true, BIf_false, BIf_same, List.toList_toArray, Bool.not_true, Bool.not_false]
  refine each_start2 (peak := peak) (bufs := bufs) (cap := cap) (B := wordO bw w) _ 49 (fillC bp bw) hok hcap hs fun b rb vb H hbm hs => ?_
  have e9 : (x.w : Int) - ((0 * D.per d : Nat) : Int) = x.w := by rw [Nat.zero_mul]; omega
  refine ⟨x.w + 1, ?_⟩
  have t := each_fill (p := p) (dp := dp) (ap := ap) (bp := bp) (bw := bw) (b := b) (rb := rb) (mb := D.per d) (vb := vb) (d := d) (x := x) (cap := cap) (pk := mx peak (sumB bufs + D.per d)) (bufs := bufs)
    (fun v6 H5 => DI .i64 v6 fun x3 => ∃ M, ((.int .i64 x3 : Value) = .int .i64 0 ∧ M = [pts p (pipO dp ap x), Dk dp (wrs d x x.w 0 (List.replicate x.w w)), Ar ap cap (mx peak (sumB bufs + D.per d)) bufs]) ∧ Sep M H5)
    (w := w) hok hbm hx (wrs d x x.w 0 (List.replicate x.w w)) (fun H hs => ⟨_, ⟨rfl, rfl⟩, hs⟩) x.w 0 d x.w (List.replicate (D.per d) 0) H hok hc rfl rfl (by omega) (by omega) (by omega) (by rw [Nat.zero_mul]; rfl)
  rw [e9] at t
  refine t ?_ (by simp) hs
  rw [Nat.zero_add]
  exact Nat.le_mul_of_pos_right _ (by omega)
end

end Go.Proofs.Ytbnhfcdagoigkaa.Str

/- stream: Sum. -/
set_option maxRecDepth 100000
set_option linter.unusedSimpArgs false
set_option linter.unusedVariables false
set_option linter.unnecessarySimpa false
set_option linter.unusedSectionVars false
namespace Go.Proofs.Ytbnhfcdagoigkaa.Str
open Go Go.Hw Go.Form Go.Proofs.Ytbnhfcdagoigkaa.W Go.Proofs.Ytbnhfcdagoigkaa.Dsk Go.Proofs.Ytbnhfcdagoigkaa.Are

section
variable {p dp ap bp bc b rb mb vb : Nat} {d : D} {x : X} {cap peak pk : Int} {bufs : List (Nat × Nat × Option Addr)}
def ctr (bc : Nat) (ws : List UInt64) : As := pts bc (CrcP.counter (Go.Crc.sum (form ws)) (8 * ws.length))
def sumC (bp bc : Nat) : Array Value := #[.pointer (some ⟨bp, 0, none⟩), .pointer (some ⟨bc, 0, none⟩)]

theorem Sum1_tr {ws pre : List UInt64} (hok : Ok d) (hc : Calm d) (ho : d.rd ≤ 4611685000000000000) (s n : Nat) (hs1 : s < d.sec) (hn2 : n ≤ D.per d) (hpre : pre.length ≤ 1000000000)
    (hbm : (b, D.per d, some ⟨rb, 0, none⟩) ∈ bufs) (hws : ws.length = D.per d) :
    Tr Try.prog 50 #[.int .i64 s, .int .i64 n, .pointer (some ⟨b, 0, none⟩), .pointer (some ⟨bp, 0, none⟩), .pointer (some ⟨bc, 0, none⟩)]
      [pts p (pipO dp ap x), Dk dp d, Ar ap cap peak bufs, pts rb (.row (wordVals ws) 62 mb), pts bp (.obj (.cells #[.pointer (some ⟨p, 0, none⟩)] 53)), ctr bc pre] fun v M =>
      v = .int .i64 0 ∧ M = [pts p (pipO dp ap x), Dk dp (D.more d), Ar ap cap peak bufs, pts rb (.row (wordVals (wordsB (d.now s))) 62 mb), pts bp (.obj (.cells #[.pointer (some ⟨p, 0, none⟩)] 53)), ctr bc (pre ++ (wordsB (d.now s)).take n)] := fun H hs => by
  have hp := Ok.per_le hok
  have hwl : (wordsB (d.now (s : Int))).length = D.per d := by rw [wordsB_len, hok.now]; rfl
  have htl : ((wordsB (d.now (s : Int))).take n).length = n := by rw [List.length_take]; omega
  apply W_stream_Pipe_Sum_1.ok
  unfold W_stream_Pipe_Sum_1
  try simp only [NN_some, Addr.add_lit', Addr.add_zero, Nat.zero_add, Nat.add_zero]
  refine hs.ld 4 rfl rfl ?_
  simp only [DI_int', DB_bool, DS_string, DP_pointer, DSl_slice, DM_map, DA_agg, DTup_tuple, DCons_cons, DNil_nil, NN_some, BIf_true, BIf_false, BIf_same, List.toList_toArray, Bool.not_true, Bool.not_false]
  try simp only [NN_some, Addr.add_lit', Addr.add_zero, Nat.zero_add, Nat.add_zero]
  refine (load_tr (p := p) (ap := ap) (x := x) (cap := cap) (peak := peak) (b := b) (rb := rb) (m := mb) hok hc (by omega) (s : Int) (Int.natCast_nonneg _) (Int.ofNat_lt.2 hs1) hbm (xs := wordVals ws) (by rw [wordVals_length]; exact hws)).use hs [0, 1, 2, 3] rfl rfl ?_
  rintro _ _ H ⟨rfl, rfl⟩ hs
  simp only [DI_int', DB_bool, DS_string, DP_pointer, DSl_slice, DM_map, DA_agg, DTup_tuple, DCons_cons, DNil_nil, NN_some, BIf_true, BIf_false, BIf_same, List.toList_toArray, Bool.not_true, Bool.not_false]
  refine BIf_beqp rfl ?_
  refine HCalls.use (Words_s hs 2 rfl hbm) ?_
  simp only [DI_int', DB_bool, DS_string, DP_pointer, DSl_slice, DM_map, DA_agg, DTup_tuple, DCons_cons, DNil_nil, NN_some, BIf_true, BIf_false, BIf_same, List.toList_toArray, Bool.not_true, Bool.not_false]
  refine slB_to rfl (by omega) ?_
  rw [slA_zero, Nat.sub_zero, Nat.sub_zero]
  have hcell : Cells H (some ⟨rb, 0, none⟩) (wordVals ((wordsB (d.now (s : Int))).take n)) := by
    have := Cells.row (hs.get 3 (b := rb) (o := .row (wordVals (wordsB (d.now (s : Int)))) 62 mb) rfl) 0 n
    rw [List.drop_zero] at this
    rw [show wordVals ((wordsB (d.now (s : Int))).take n) = (wordVals (wordsB (d.now (s : Int)))).take n by unfold wordVals; rw [List.map_take]]
    exact this
  have hs : Sep [pts p (pipO dp ap x), Dk dp (D.more d), Ar ap cap peak bufs, pts rb (.row (wordVals (wordsB (d.now (s : Int)))) 62 mb), pts bp (.obj (.cells #[.pointer (some ⟨p, 0, none⟩)] 53)), pts bc (CrcP.counter (Go.Crc.sum (form pre)) (8 * pre.length))] H := hs
  refine HCalls.use (CrcP.AddWords_ok bc (Go.Crc.sum (form pre)) (8 * pre.length) (some ⟨rb, 0, none⟩) n (D.per d) ((wordsB (d.now (s : Int))).take n) htl.symm H (hs.get 5 rfl) hcell (by omega) (by omega)) ?_
  have hs2 := hs.put 5 (CrcP.counter (Go.Crc.more (Go.Crc.sum (form pre)) (form ((wordsB (d.now (s : Int))).take n))) (8 * pre.length + 8 * n)) rfl
  refine ⟨_, ⟨trivial, rfl⟩, ?_⟩
  have e : ctr bc (pre ++ (wordsB (d.now (s : Int))).take n) = pts bc (CrcP.counter (Go.Crc.more (Go.Crc.sum (form pre)) (form ((wordsB (d.now (s : Int))).take n))) (8 * pre.length + 8 * n)) := by
    unfold ctr
    rw [List.length_append, htl, Nat.mul_add]
    have : form (pre ++ (wordsB (d.now (s : Int))).take n) = form pre ++ form ((wordsB (d.now (s : Int))).take n) := by unfold form; rw [List.flatMap_append]
    rw [this]
    unfold Go.Crc.sum
    rw [Go.Crc.more_append]
  rw [e]
  exact hs2

theorem each_sum (K : Value → Hp → Prop) (hok : Ok d) (hc : Calm d) (hbm : ∀ z ∈ bufs, z.1 ≠ b) (hx : On d x) (ho : d.rd ≤ 3000000000000000000)
    (hK : ∀ i H, i ≤ x.s → Sep [pts p (pipO dp ap x), Dk dp (D.rdN d i), Ar ap cap pk bufs, ctr bc (pws d x 0 x.w)] H → K (.int .i64 0) H) :
    ∀ (t i : Nat) (ws : List UInt64) (H : Hp), x.w ≤ (i + t) * D.per d → i ≤ x.s → ws.length = D.per d →
      Sep (eachL p dp ap bp b rb mb vb (D.rdN d i) x cap pk bufs (D.per d) ws (ctr bc (pws d x 0 (if i * D.per d < x.w then i * D.per d else x.w)))) H →
      W_stream_Pipe_each.l6 K (t + 1) (some ⟨p, 0, none⟩) 50 #[] (sumC bp bc) (some ⟨b, 0, none⟩) 0 ((x.w : Int) - ((i * D.per d : Nat) : Int)) ((x.f + i : Nat) : Int) (some ⟨ap, 0, none⟩) (some ⟨vb, 0, none⟩) 1 1 H := fun t => by
  have hp := Ok.per_le hok
  have hsec := hok.sec
  have hroom : x.s * D.per d ≤ 1048576 * 512 := Nat.mul_le_mul (by have := hx.fit; omega) (by omega)
  have h4 := hx.room
  have hw1 := hx.w1
  have hfit := hx.fit
  have fin : ∀ (i : Nat) (ws : List UInt64) (H : Hp), x.w ≤ i * D.per d → i ≤ x.s → Sep (eachL p dp ap bp b rb mb vb (D.rdN d i) x cap pk bufs (D.per d) ws (ctr bc (pws d x 0 (if i * D.per d < x.w then i * D.per d else x.w)))) H →
      HCallsD Try.prog 44 #[.pointer (some ⟨ap, 0, none⟩), .slice (some ⟨vb, 0, none⟩) 1 1] H fun _ H9 => K (.int .i64 0) H9 := fun i ws H hi hie hs => by
    rw [if_neg (by omega)] at hs
    unfold eachL at hs
    refine (Give_oneD vb b (D.per d) (some ⟨rb, 0, none⟩) hbm).use hs [2, 6] rfl rfl ?_
    rintro _ _ H ⟨rfl, rfl⟩ hs
    exact hK i H hie (hs.re [1, 2, 0, 5] rfl)
  induction t with
  | zero =>
    intro i ws H hi hie hws hs
    rw [Nat.add_zero] at hi
    unfold W_stream_Pipe_each.l6
    exact BIf_dneg (by omega) (fin i ws H hi hie hs)
  | succ t ih =>
    intro i ws H hi hie hws hs
    by_cases hlt : i * D.per d < x.w
    · have his : i < x.s := by
        apply Nat.lt_of_mul_lt_mul_right (a := D.per d)
        omega
      have hokj := Ok.rdN hok i
      have hn : (if D.per d < x.w - i * D.per d then D.per d else x.w - i * D.per d) = (if D.per d < x.w - i * D.per d then D.per d else x.w - i * D.per d) := rfl
      generalize hnv : (if D.per d < x.w - i * D.per d then D.per d else x.w - i * D.per d) = n at hn
      have hn1 : 1 ≤ n ∧ n ≤ D.per d ∧ i * D.per d + n ≤ x.w := by rw [← hnv]; split <;> omega
      rw [if_pos hlt] at hs
      unfold eachL at hs
      unfold W_stream_Pipe_each.l6
      refine BIf_dpos (by omega) (BIf_beqp rfl ?_)
      try simp only [NN_some, Addr.add_lit', Addr.add_zero, Nat.zero_add, Nat.add_zero]
      refine HCalls.use (per_s hs 0 1 rfl rfl hokj) ?_
      try simp only [DI_int', DB_bool, DS_string, DP_pointer, DSl_slice, DM_map, DA_agg, DTup_tuple, DCons_cons, DNil_nil, NN_some, BIf_true, BIf_false, BIf_same, List.toList_toArray, Bool.not_true, Bool.not_false]
      rw [show D.per (D.rdN d i) = D.per d from rfl]
      refine BIf_pos (by kernel_rfl) ?_
      unfold sumC
      rw [cat2, min_nat (left := x.w - i * D.per d) (by omega), hnv]
      have hs1 : x.f + i < (D.rdN d i).sec := by show _ < d.sec; omega
      have ho1 : (D.rdN d i).rd ≤ 4611685000000000000 := by show d.rd + i ≤ _; omega
      have hpl : (pws d x 0 (i * D.per d)).length ≤ 1000000000 := by rw [pws_len]; omega
      refine (Sum1_tr (p := p) (dp := dp) (ap := ap) (bp := bp) (bc := bc) (b := b) (rb := rb) (mb := mb) (d := D.rdN d i) (x := x) (cap := cap) (peak := pk) (bufs := bufs ++ [(b, D.per d, some ⟨rb, 0, none⟩)]) (ws := ws) (pre := pws d x 0 (i * D.per d)) hokj (Calm.rdN hc i) ho1 (x.f + i) n hs1 hn1.2.1 hpl (List.mem_append_right _ (List.mem_singleton.2 rfl)) hws).use hs [0, 1, 2, 3, 4, 5] rfl rfl ?_
      rintro _ _ H ⟨rfl, rfl⟩ hs
      refine DR_int (t := 28) (by kernel_rfl) (by kernel_rfl) ?_
      rw [rdN_more] at hs
      simp only [DI_int', DB_bool, DS_string, DP_pointer, DSl_slice, DM_map, DA_agg, DTup_tuple, DCons_cons, DNil_nil, NN_some, BIf_true, BIf_false, BIf_same, List.toList_toArray, Bool.not_true, Bool.not_false]
      refine HCalls.use (per_s hs 0 1 rfl rfl (Ok.rdN hok (i + 1))) ?_
      try simp only [DI_int', DB_bool, DS_string, DP_pointer, DSl_slice, DM_map, DA_agg, DTup_tuple, DCons_cons, DNil_nil, NN_some, BIf_true, BIf_false, BIf_same, List.toList_toArray, Bool.not_true, Bool.not_false]
      rw [show D.per (D.rdN d (i + 1)) = D.per d from rfl]
      have e1 : IntKind.i64.wrap ((x.w : Int) - ((i * D.per d : Nat) : Int) - (D.per d : Int)) = (x.w : Int) - (((i + 1) * D.per d : Nat) : Int) := by
        rw [i64w (by omega) (by omega), Nat.succ_mul]; omega
      have e2 : IntKind.i64.wrap (((x.f + i : Nat) : Int) + 1) = ((x.f + (i + 1) : Nat) : Int) := by
        rw [i64w (by omega) (by omega)]; omega
      rw [e1, e2]
      have hwl : (wordsB (d.now ((x.f + i : Nat) : Int))).length = D.per d := by rw [wordsB_len, hok.now]; rfl
      have hnext : i * D.per d + n = (if (i + 1) * D.per d < x.w then (i + 1) * D.per d else x.w) := by
        rw [Nat.succ_mul, ← hnv]
        split <;> split <;> omega
      have hpc : (wordsB (d.now ((x.f + i : Nat) : Int))).take n = pws d x (i * D.per d) n := by
        have := piece_words hok x (fr := i * D.per d) (k := n) (by rw [Nat.mul_mod_left]; omega)
        rw [Nat.mul_div_cancel _ (by omega), Nat.mul_mod_left, List.drop_zero] at this
        exact this
      have hpa : pws d x 0 (i * D.per d) ++ (wordsB (d.now ((x.f + i : Nat) : Int))).take n = pws d x 0 (i * D.per d + n) := by
        rw [pws_add, Nat.zero_add, hpc]
      refine ih (i + 1) (wordsB (d.now ((x.f + i : Nat) : Int))) H (by rw [show i + 1 + t = i + (t + 1) by omega]; exact hi) (by omega) hwl ?_
      rw [← hnext, ← hpa]
      exact hs
    · unfold W_stream_Pipe_each.l6
      exact BIf_dneg (by omega) (fin i ws H (by omega) hie hs)

/-- The sum of all words. -/
theorem Sum_tr (hok : Ok d) (hc : Calm d) (hx : On d x) (ho : d.rd ≤ 3000000000000000000) (hcap : (D.per d : Int) ≤ cap - sumB bufs) :
    Tr Try.prog 24 #[.pointer (some ⟨p, 0, none⟩)] [pts p (pipO dp ap x), Dk dp d, Ar ap cap peak bufs] fun v M =>
      ∃ i, i ≤ x.s ∧ v = .tuple #[.int .u32 ((Go.Crc.sum (form (pws d x 0 x.w))).toNat : Int), .int .i64 0] ∧ M = [pts p (pipO dp ap x), Dk dp (D.rdN d i), Ar ap cap (mx peak (sumB bufs + D.per d)) bufs] := fun H hs => by
  have hp := Ok.per_le hok
  apply W_stream_Pipe_Sum.ok
  unfold W_stream_Pipe_Sum
  refine hs.nw fun bp H hs => ?_
  refine hs.nw fun bc H hs => ?_
  refine hs.ld 3 rfl rfl ?_
  simp only [DI_int', DB_bool, DS_string, DP_pointer, DSl_slice, DM_map, DA_agg, DTup_tuple, DCons_cons, DNil_nil, NN_some, BIf_true, BIf_false, BIf_same, List.toList_toArray, Bool.not_true, Bool.not_false]
  have h0 : ctr bc [] = pts bc (.obj (.cells #[.int .u32 0, .int .i64 0] 117)) := by
    unfold ctr CrcP.counter
    rfl
  have hs : Sep [pts p (pipO dp ap x), Dk dp d, Ar ap cap peak bufs, pts bp (.obj (.cells #[.pointer (some ⟨p, 0, none⟩)] 53)), ctr bc []] H := by rw [h0]; exact hs
  refine each_start2 (peak := peak) (bufs := bufs) (cap := cap) (B := ctr bc []) _ 50 (sumC bp bc) hok hcap hs fun b rb vb H hbm hs => ?_
  have e9 : (x.w : Int) - ((0 * D.per d : Nat) : Int) = x.w := by rw [Nat.zero_mul]; omega
  have e0 : (if 0 * D.per d < x.w then 0 * D.per d else x.w) = 0 := by rw [Nat.zero_mul, if_pos (show 0 < x.w from hx.w1)]
  refine ⟨x.w + 1, ?_⟩
  have t := each_sum (p := p) (dp := dp) (ap := ap) (bp := bp) (bc := bc) (b := b) (rb := rb) (mb := D.per d) (vb := vb) (d := d) (x := x) (cap := cap) (pk := mx peak (sumB bufs + D.per d)) (bufs := bufs)
    (fun v2 H3 => DI .i64 v2 fun x1 => BIf (x1 != (0 : Int)) (∃ M, (∃ i, i ≤ x.s ∧ (.tuple #[.int .u32 (0 : Int), .int .i64 x1] : Value) = .tuple #[.int .u32 ((Go.Crc.sum (form (pws d x 0 x.w))).toNat : Int), .int .i64 0] ∧ M = [pts p (pipO dp ap x), Dk dp (D.rdN d i), Ar ap cap (mx peak (sumB bufs + D.per d)) bufs]) ∧ Sep M H3)
      (HCalls Try.prog 52 #[.pointer (some (⟨bc, 0, none⟩ : Addr))] H3 fun v3 H4 => DI .u32 v3 fun x2 => ∃ M, (∃ i, i ≤ x.s ∧ (.tuple #[.int .u32 x2, .int .i64 (0 : Int)] : Value) = .tuple #[.int .u32 ((Go.Crc.sum (form (pws d x 0 x.w))).toNat : Int), .int .i64 0] ∧ M = [pts p (pipO dp ap x), Dk dp (D.rdN d i), Ar ap cap (mx peak (sumB bufs + D.per d)) bufs]) ∧ Sep M H4))
    hok hc hbm hx ho (fun i H hie hs => by
      simp only [DI_int', DB_bool, DS_string, DP_pointer, DSl_slice, DM_map, DA_agg, DTup_tuple, DCons_cons, DNil_nil, NN_some, BIf_true, BIf_false, BIf_same, List.toList_toArray, Bool.not_true, Bool.not_false]
      refine BIf_bnen rfl ?_
      have hs : Sep [pts p (pipO dp ap x), Dk dp (D.rdN d i), Ar ap cap (mx peak (sumB bufs + D.per d)) bufs, pts bc (CrcP.counter (Go.Crc.sum (form (pws d x 0 x.w))) (8 * (pws d x 0 x.w).length))] H := hs
      refine HCalls.use (CrcP.CSum_ok bc _ _ H (hs.get 3 rfl)) ?_
      try simp only [DI_int', DB_bool, DS_string, DP_pointer, DSl_slice, DM_map, DA_agg, DTup_tuple, DCons_cons, DNil_nil, NN_some, BIf_true, BIf_false, BIf_same, List.toList_toArray, Bool.not_true, Bool.not_false]
      exact ⟨_, ⟨i, hie, trivial, rfl⟩, hs.re [0, 1, 2] rfl⟩) x.w 0 (List.replicate (D.per d) 0) H (by rw [Nat.zero_add]; exact Nat.le_mul_of_pos_right _ (by omega)) (Nat.zero_le _) (by simp)
  rw [e0, e9] at t
  exact t hs
end

end Go.Proofs.Ytbnhfcdagoigkaa.Str

/- stream: words that aren't there; no words; Touched. -/
set_option maxRecDepth 100000
set_option linter.unusedSimpArgs false
set_option linter.unusedVariables false
set_option linter.unnecessarySimpa false
set_option linter.unusedSectionVars false
namespace Go.Proofs.Ytbnhfcdagoigkaa.Str
open Go Go.Hw Go.Form Go.Proofs.Ytbnhfcdagoigkaa.W Go.Proofs.Ytbnhfcdagoigkaa.Dsk Go.Proofs.Ytbnhfcdagoigkaa.Are

section
variable {p dp ap : Nat} {d : D} {x : X} {cap peak : Int} {bufs : List (Nat × Nat × Option Addr)}

theorem Write_no (fr : Int) (A : Option Addr) (n m : Nat) (hw : x.w ≤ 9000000000000000000) (hf : fr < 0 ∨ (x.w : Int) < fr + n) (hn : n ≤ 9000000000000000000) {L : List As} {H : Hp} (hs : Sep L H) (i : Nat) (hi : L[i]? = some (pts p (pipO dp ap x))) :
    HCalls Try.prog 19 #[.pointer (some ⟨p, 0, none⟩), .int .i64 fr, .slice A n m] H (RetE (.int .i64 2) H) := by
  apply W_stream_Pipe_Write.ok
  unfold W_stream_Pipe_Write
  refine HCalls.use (pieces_no fr n hw hf hn hs i hi) ?_
  try simp only [DI_int', DB_bool, DS_string, DP_pointer, DSl_slice, DM_map, DA_agg, DTup_tuple, DCons_cons, DNil_nil, NN_some, BIf_true, BIf_false, BIf_same, List.toList_toArray, Bool.not_true, Bool.not_false]
  exact BIf_bnep (by omega) (RetE.mk _ _)
theorem Read_no (fr : Int) (A : Option Addr) (n m : Nat) (hw : x.w ≤ 9000000000000000000) (hf : fr < 0 ∨ (x.w : Int) < fr + n) (hn : n ≤ 9000000000000000000) {L : List As} {H : Hp} (hs : Sep L H) (i : Nat) (hi : L[i]? = some (pts p (pipO dp ap x))) :
    HCalls Try.prog 20 #[.pointer (some ⟨p, 0, none⟩), .int .i64 fr, .slice A n m] H (RetE (.int .i64 2) H) := by
  apply W_stream_Pipe_Read.ok
  unfold W_stream_Pipe_Read
  refine HCalls.use (pieces_no fr n hw hf hn hs i hi) ?_
  try simp only [DI_int', DB_bool, DS_string, DP_pointer, DSl_slice, DM_map, DA_agg, DTup_tuple, DCons_cons, DNil_nil, NN_some, BIf_true, BIf_false, BIf_same, List.toList_toArray, Bool.not_true, Bool.not_false]
  exact BIf_bnep (by omega) (RetE.mk _ _)
theorem Get_no (i : Int) (hf : i < 0 ∨ (x.w : Int) ≤ i) {L : List As} {H : Hp} (hs0 : Sep L H) (j : Nat) (hj : L[j]? = some (pts p (pipO dp ap x))) :
    HCalls Try.prog 22 #[.pointer (some ⟨p, 0, none⟩), .int .i64 i] H (RetE (.tuple #[.int .u64 0, .int .i64 2]) H) := by
  apply HCalls.ret
  apply W_stream_Pipe_Get.ok
  unfold W_stream_Pipe_Get
  refine (Sep.start H).nw fun b1 H' hs => ?_
  by_cases h1 : i < 0
  · exact BIf_dpos h1 (hs.fin 0 rfl _)
  refine BIf_dneg h1 ?_
  refine HCalls.use (words_s (hs0.up (hs.ow 0 rfl)) j hj) ?_
  simp only [DI_int', DB_bool, DS_string, DP_pointer, DSl_slice, DM_map, DA_agg, DTup_tuple, DCons_cons, DNil_nil, NN_some, BIf_true, BIf_false, BIf_same, List.toList_toArray, Bool.not_true, Bool.not_false]
  exact BIf_dpos (by omega) (hs.fin 0 rfl _)

theorem Write_nil (hok : Ok d) (hx : On d x) (fr : Nat) (A : Option Addr) (m : Nat) (hf : fr ≤ x.w) :
    Tr Try.prog 19 #[.pointer (some ⟨p, 0, none⟩), .int .i64 fr, .slice A 0 m] [pts p (pipO dp ap x), Dk dp d] fun v M => v = .int .i64 0 ∧ M = [pts p (pipO dp ap x), Dk dp d] := fun H hs => by
  apply W_stream_Pipe_Write.ok
  unfold W_stream_Pipe_Write
  refine (pieces_tr (dp := dp) (ap := ap) hok hx fr 0 (by omega)).use hs [0, 1] rfl rfl ?_
  rintro _ _ H ⟨A4, m4, rfl, rfl⟩ hs
  simp only [DI_int', DB_bool, DS_string, DP_pointer, DSl_slice, DM_map, DA_agg, DTup_tuple, DCons_cons, DNil_nil, NN_some, BIf_true, BIf_false, BIf_same, List.toList_toArray, Bool.not_true, Bool.not_false]
  exact BIf_bnen rfl (BIf_beqp rfl ⟨_, ⟨trivial, rfl⟩, hs.re [0, 1] rfl⟩)
theorem Read_nil (hok : Ok d) (hx : On d x) (fr : Nat) (A : Option Addr) (m : Nat) (hf : fr ≤ x.w) :
    Tr Try.prog 20 #[.pointer (some ⟨p, 0, none⟩), .int .i64 fr, .slice A 0 m] [pts p (pipO dp ap x), Dk dp d] fun v M => v = .int .i64 0 ∧ M = [pts p (pipO dp ap x), Dk dp d] := fun H hs => by
  apply W_stream_Pipe_Read.ok
  unfold W_stream_Pipe_Read
  refine (pieces_tr (dp := dp) (ap := ap) hok hx fr 0 (by omega)).use hs [0, 1] rfl rfl ?_
  rintro _ _ H ⟨A4, m4, rfl, rfl⟩ hs
  simp only [DI_int', DB_bool, DS_string, DP_pointer, DSl_slice, DM_map, DA_agg, DTup_tuple, DCons_cons, DNil_nil, NN_some, BIf_true, BIf_false, BIf_same, List.toList_toArray, Bool.not_true, Bool.not_false]
  exact BIf_bnen rfl (BIf_beqp rfl ⟨_, ⟨trivial, rfl⟩, hs.re [0, 1] rfl⟩)

/-- The sectors that were ever written. -/
theorem Touched_tr (hok : Ok d) (hd : ∀ k, d.tch k = true → 0 ≤ k ∧ k < d.sec) : Tr Try.prog 11 #[.pointer (some ⟨dp, 3, none⟩)] [Dk dp d] fun v M =>
    ∃ ks A c, KeysOf (tchM d.tch) ks ∧ ks.length ≤ d.sec ∧ v = .slice A ks.length c ∧ M = [Dk dp d, Own 3 1 A ks.length c (ks.map (Value.int .i64))] := fun H hs => by
  have hsec := hok.sec
  obtain ⟨r1, r2, r3, hs⟩ := Dk.open hs
  apply W_disk_counts_Touched.ok
  unfold W_disk_counts_Touched
  try simp only [NN_some, Addr.add_lit', Addr.add_zero, Nat.zero_add, Nat.add_zero]
  refine hs.ld 0 rfl rfl ?_
  simp only [DI_int', DB_bool, DS_string, DP_pointer, DSl_slice, DM_map, DA_agg, DTup_tuple, DCons_cons, DNil_nil, NN_some, BIf_true, BIf_false, BIf_same, List.toList_toArray, Bool.not_true, Bool.not_false]
  refine (Keys_int r2 H).mono ?_
  rintro _ _ ⟨b, hb, rfl, rfl⟩
  have hs := hs.new hb (.obj (.cells #[.map (some r2)] 37))
  obtain ⟨H1, ⟨l, clock, hr1, hgk⟩, hle⟩ := hs.see 2 rfl
  have hdm : ∀ k, (tchM d.tch k).isSome = true → 0 ≤ k ∧ k < (d.sec : Int) := fun k hk => by
    apply hd
    unfold tchM at hk
    cases h : d.tch k with
    | true => rfl
    | false => rw [h] at hk; cases hk
  refine (Sorted_int hgk (N := d.sec) (by omega) hdm _ (hle _ _ hr1) (hs.get 4 rfl)).mono ?_
  rintro _ _ ⟨ks, hks, hkl, ⟨h0, rfl, rfl⟩ | ⟨b', c, rfl, hcap, hn, rfl⟩⟩
  · simp only [DI_int', DB_bool, DS_string, DP_pointer, DSl_slice, DM_map, DA_agg, DTup_tuple, DCons_cons, DNil_nil, NN_some, BIf_true, BIf_false, BIf_same, List.toList_toArray, Bool.not_true, Bool.not_false]
    subst h0
    refine ⟨_, ⟨[], .none, 0, hks, hkl, rfl, rfl⟩, ?_⟩
    have hs2 : Sep (Own 3 1 .none 0 0 [] :: [pts dp (dskO d r1 r2 r3), Mp r1 (strM d.safe), Mp r2 (tchM d.tch), Mp r3 (strM d.cache)]) _ := ⟨fun _ => none, _, fun _ _ h => (nomatch h), Hp.le_refl _, fun _ => .inl rfl, Own.none _ _ _, hs.re [0, 1, 2, 3] rfl⟩
    exact Dk.shut (hs2.re [1, 2, 3, 4, 0] rfl)
  · simp only [DI_int', DB_bool, DS_string, DP_pointer, DSl_slice, DM_map, DA_agg, DTup_tuple, DCons_cons, DNil_nil, NN_some, BIf_true, BIf_false, BIf_same, List.toList_toArray, Bool.not_true, Bool.not_false]
    have hs2 := hs.new hn (.row (ks.map (Value.int .i64)) 3 c)
    have hs3 := hs2.turn 5 (B := Own 3 1 (some ⟨b', 0, none⟩) ks.length c (ks.map (Value.int .i64))) rfl fun H1 hH => ⟨by simp, .inr ⟨b', c, rfl, hH, by omega⟩⟩
    exact ⟨_, ⟨ks, some ⟨b', 0, none⟩, c, hks, hkl, rfl, rfl⟩, Dk.shut (hs3.re [0, 1, 2, 3, 5] rfl)⟩
end

end Go.Proofs.Ytbnhfcdagoigkaa.Str

/- The law StreamPlays: what stays between two acts. -/
set_option maxRecDepth 100000
set_option linter.unusedSimpArgs false
set_option linter.unusedVariables false
set_option linter.unnecessarySimpa false
set_option linter.unusedSectionVars false
namespace Go.Proofs.Ytbnhfcdagoigkaa.Str
open Go Go.Hw Go.Form Go.Proofs.Ytbnhfcdagoigkaa.W Go.Proofs.Ytbnhfcdagoigkaa.Dsk Go.Proofs.Ytbnhfcdagoigkaa.Are

def pX (n : Nat) : X := ⟨2, (n + 3) / 4, n⟩
/-- A disk whose extent holds a row. -/
structure Holds (n c : Nat) (d : D) (row : List UInt64) : Prop where
  ok : Ok d
  calm : Calm d
  size : d.size = 32
  sec : d.sec = 20
  rd : d.rd ≤ c
  wr : d.wr ≤ c
  row : pws d (pX n) 0 n = row
  tch : ∀ i, d.tch i = true → 2 ≤ i ∧ i < 2 + (((n + 3) / 4 : Nat) : Int)

section
variable {n c : Nat} {d : D} {row : List UInt64}
theorem Holds.per (h : Holds n c d row) : D.per d = 4 := by unfold D.per; rw [h.size]
theorem Holds.on (h : Holds n c d row) (h1 : 1 ≤ n) (h2 : n ≤ 40) : On d (pX n) := ⟨h1, by show 1 ≤ (n + 3) / 4; omega, by rw [h.sec]; show 2 + (n + 3) / 4 ≤ 20; omega, by rw [h.per]; show n ≤ (n + 3) / 4 * 4; omega⟩
theorem Holds.len (h : Holds n c d row) : row.length = n := by rw [← h.row, pws_len]
theorem Holds.more (h : Holds n c d row) (t : Nat) : Holds n (c + t) (D.rdN d t) row := ⟨Ok.rdN h.ok t, Calm.rdN h.calm t, h.size, h.sec, by have := h.rd; show d.rd + t ≤ _; omega, by have := h.wr; show d.wr ≤ _; omega, h.row, h.tch⟩
theorem Holds.mono (h : Holds n c d row) {c' : Nat} (hc : c ≤ c') : Holds n c' d row := ⟨h.ok, h.calm, h.size, h.sec, Nat.le_trans h.rd hc, Nat.le_trans h.wr hc, h.row, h.tch⟩
theorem Holds.get (h : Holds n c d row) (i : Nat) (hi : i < n) : row[i]? = some (pw d (pX n) i) := by
  rw [← h.row]
  unfold pws
  rw [List.getElem?_map, List.getElem?_range hi]
  simp

/-- Words are written. -/
theorem Holds.write (h : Holds n c d row) (k fr : Nat) (src : List UInt64) (hk : src.length ≤ k) (hf : fr + src.length ≤ n) : Holds n (c + src.length) (wrs d (pX n) k fr src) (setW row fr src) := by
  have W := wrs_wrote (pX n) k fr d src h.ok hk
  have hcl := List.length_filter_le (fun p : Nat × Nat × Nat => decide (p.2.2 < D.per d)) (pcs (D.per d) (pX n).f k fr src.length)
  have hple : ∀ (k fr m : Nat), (pcs 4 2 k fr m).length ≤ m := fun k => by
    induction k with
    | zero => intro fr m; simp [pcs]
    | succ k ih =>
      intro fr m
      unfold pcs
      split
      · simp
      · have h1 := ih (fr + cN 4 fr m) (m - cN 4 fr m)
        have h2 := cN_pos (per := 4) (fr := fr) (n := m) (by omega) (by omega)
        have h3 := cN_le 4 fr m
        simp only [List.length_cons]; omega
  have hpl := hple k fr src.length
  have hper := h.per
  have hrd := W.rd
  have hwr := W.wr
  have h1 := h.rd
  have h2 := h.wr
  have hf2 : (pX n).f = 2 := rfl
  rw [hper, hf2] at hcl hrd hwr
  have hlen := h.len
  refine ⟨W.ok, W.calm h.calm, W.size.trans h.size, W.sec.trans h.sec, by omega, by omega, ?_, fun i hi => ?_⟩
  · apply List.ext_getElem?
    intro j
    rw [setW_get (by omega)]
    unfold pws
    rw [List.getElem?_map]
    by_cases hj : j < n
    · rw [List.getElem?_range hj]
      simp only [Option.map_some, Nat.zero_add]
      rw [W.pw j]
      by_cases c1 : fr ≤ j ∧ j < fr + src.length
      · rw [if_pos c1, if_neg (by omega), if_pos c1.2, List.getElem?_eq_getElem (by omega)]
        rfl
      · rw [if_neg c1]
        by_cases c2 : j < fr
        · rw [if_pos c2, h.get j hj]
        · rw [if_neg c2, if_neg (by omega), h.get j hj]
    · rw [List.getElem?_eq_none (by simp; omega)]
      have hn : row[j]? = none := List.getElem?_eq_none (by omega)
      by_cases c2 : j < fr
      · omega
      · rw [if_neg c2, if_neg (by omega), hn]; rfl
  · rcases W.tch i hi with h3 | ⟨j, hj, rfl⟩
    · exact h.tch i h3
    · rw [hper, hf2]
      have : (fr + j) / 4 < (n + 3) / 4 := by omega
      omega

/-- Words of a row. -/
theorem Holds.words (h : Holds n c d row) (fr k : Nat) (hf : fr + k ≤ n) : pws d (pX n) fr k = (row.drop fr).take k := by
  rw [← h.row]
  have e : n = fr + (k + (n - fr - k)) := by omega
  have h1 : pws d (pX n) 0 n = pws d (pX n) 0 fr ++ (pws d (pX n) fr k ++ pws d (pX n) (fr + k) (n - fr - k)) := by
    conv => lhs; rw [e]
    rw [pws_add, pws_add, Nat.zero_add]
    congr 2
    congr 2; omega
  rw [h1, List.drop_left' (pws_len _ _ _ _), List.take_left' (pws_len _ _ _ _)]
end

end Go.Proofs.Ytbnhfcdagoigkaa.Str

/- The law StreamPlays: an act. -/
set_option maxRecDepth 100000
set_option linter.unusedSimpArgs false
set_option linter.unusedVariables false
set_option linter.unnecessarySimpa false
set_option linter.unusedSectionVars false
namespace Go.Proofs.Ytbnhfcdagoigkaa.Str
open Go Go.Hw Go.Form Go.Proofs.Ytbnhfcdagoigkaa.W Go.Proofs.Ytbnhfcdagoigkaa.Dsk Go.Proofs.Ytbnhfcdagoigkaa.Are

structure PAct where
  k : Int
  fr : Int
  N : Int
  A : Option Addr
  n : Nat
  m : Nat
  l : List UInt64
def pRow (a : PAct) : List Value := [.int .i64 a.k, .int .i64 a.fr, .int .i64 a.N, .slice a.A a.n a.m]
structure OkP (H : Hp) (a : PAct) : Prop where
  n : a.n = a.l.length
  nm : a.n ≤ a.m
  l : Cells H a.A (wordVals a.l)
  fr : -9223372036854775808 ≤ a.fr ∧ a.fr ≤ 9223372036854775807

section
variable {n c : Nat} {d : D} {row : List UInt64} {p dp ap br b1 : Nat} {pk : Int} {H0 : Hp}
def playL (n : Nat) (d : D) (row : List UInt64) (p dp ap br : Nat) (pk : Int) (H0 : Hp) : List As := [own H0, pts p (pipO dp ap (pX n)), Dk dp d, Ar ap 4 pk [], pts br (.row (wordVals row) 62 (n * 1))]

theorem mx4 {pk : Int} (h : pk ≤ 4) : mx pk (sumB [] + ((4 : Nat) : Int)) ≤ 4 := by
  unfold mx
  rw [sumB_nil]
  split <;> omega

theorem row_loop (K : Value → Hp → Prop) (R11 : Option Addr → Nat → Nat → Int → Option Addr → Option Addr → Option Addr → Option Addr → Nat → Nat → Int → Hp → Prop) (A3 : Option Addr) (n3 m3 : Nat) (jj : Int) (a : PAct) (hOK : OkP H0 a) (hn60 : a.n ≤ 60) (fr : Nat) (hfr : a.fr = fr) (hf : fr + a.n ≤ n) (hn40 : n ≤ 40) (hrow : row.length = n)
    (hnext : ∀ H', Sep (playL n d (setW row fr a.l) p dp ap br pk H0) H' → W_abacistlaw19_StreamPlays.j57 K R11 A3 n3 m3 (n : Int) (some ⟨p, 0, none⟩) (some ⟨dp, 0, none⟩) (some ⟨ap, 0, none⟩) (some ⟨br, 0, none⟩) n n jj H') :
    ∀ (t i : Nat) (H : Hp), i + t = a.n → Sep (playL n d (setW row fr (a.l.take i)) p dp ap br pk H0 ++ [pts b1 (.obj (.cells (pRow a).toArray 60))]) H →
      W_abacistlaw19_StreamPlays.l23 K R11 (t + 1) A3 n3 m3 (n : Int) (some ⟨p, 0, none⟩) (some ⟨dp, 0, none⟩) (some ⟨ap, 0, none⟩) (some ⟨br, 0, none⟩) n n jj ⟨b1, 0, none⟩ (i : Int) H
  | 0, i, H, hi, hs => by
    unfold W_abacistlaw19_StreamPlays.l23
    unfold playL at hs
    refine hs.ld 5 (v := .slice a.A a.n a.m) rfl rfl ?_
    simp only [DI_int', DB_bool, DS_string, DP_pointer, DSl_slice, DM_map, DA_agg, DTup_tuple, DCons_cons, DNil_nil, NN_some, BIf_true, BIf_false, BIf_same, List.toList_toArray, Bool.not_true, Bool.not_false]
    refine BIf_dneg (by omega) (hnext H ?_)
    rw [List.take_of_length_le (by have := hOK.n; omega)] at hs
    exact hs.re [0, 1, 2, 3, 4] rfl
  | t + 1, i, H, hi, hs => by
    have hl := hOK.n
    have hil : i < a.l.length := by omega
    have htl : (a.l.take i).length = i := by rw [List.length_take]; omega
    unfold W_abacistlaw19_StreamPlays.l23
    unfold playL at hs
    refine hs.ld 5 (v := .slice a.A a.n a.m) rfl rfl ?_
    simp only [DI_int', DB_bool, DS_string, DP_pointer, DSl_slice, DM_map, DA_agg, DTup_tuple, DCons_cons, DNil_nil, NN_some, BIf_true, BIf_false, BIf_same, List.toList_toArray, Bool.not_true, Bool.not_false]
    refine BIf_dpos (by omega) ?_
    refine hs.ld 5 (v := .int .i64 a.fr) rfl rfl ?_
    simp only [DI_int', DB_bool, DS_string, DP_pointer, DSl_slice, DM_map, DA_agg, DTup_tuple, DCons_cons, DNil_nil, NN_some, BIf_true, BIf_false, BIf_same, List.toList_toArray, Bool.not_true, Bool.not_false]
    refine hs.ld 5 (v := .slice a.A a.n a.m) rfl rfl ?_
    simp only [DI_int', DB_bool, DS_string, DP_pointer, DSl_slice, DM_map, DA_agg, DTup_tuple, DCons_cons, DNil_nil, NN_some, BIf_true, BIf_false, BIf_same, List.toList_toArray, Bool.not_true, Bool.not_false]
    have hg : (wordVals a.l)[i]? = some (.int .u64 ((a.l[i]'hil).toNat : Int)) := by
      rw [wordVals_get, List.getElem?_eq_getElem hil]; rfl
    refine (hOK.l.le (hs.ow 0 rfl)).read hg rfl (by rw [wordVals_length]; omega) ?_
    simp only [DI_int', DB_bool, DS_string, DP_pointer, DSl_slice, DM_map, DA_agg, DTup_tuple, DCons_cons, DNil_nil, NN_some, BIf_true, BIf_false, BIf_same, List.toList_toArray, Bool.not_true, Bool.not_false]
    rw [hfr, i64w (x := (fr : Int) + (i : Int)) (by omega) (by omega), show (fr : Int) + i = ((fr + i : Nat) : Int) by omega]
    refine ⟨by omega, by omega, ?_⟩
    try simp only [NN_some, Addr.add_lit', Addr.add_zero, Nat.zero_add, Nat.add_zero]
    rw [Int.toNat_natCast, Nat.mul_one]
    try simp only [NN_some, Addr.add_lit', Addr.add_zero, Nat.zero_add, Nat.add_zero]
    have hsl : (setW row fr (a.l.take i)).length = n := by rw [setW_len (by omega)]; exact hrow
    refine hs.str 4 (b := br) (j := fr + i) rfl (by rw [wordVals_length, hsl]; omega) rfl fun H hs => ?_
    rw [i64w (x := (i : Int) + 1) (by omega) (by omega)]
    refine row_loop K R11 A3 n3 m3 jj a hOK hn60 fr hfr hf hn40 hrow hnext t (i + 1) H (by omega) ?_
    have e : (wordVals (setW row fr (a.l.take i))).set (fr + i) (.int .u64 ((a.l[i]'hil).toNat : Int)) = wordVals (setW row fr (a.l.take (i + 1))) := by
      unfold wordVals
      rw [← List.map_set (f := fun w : UInt64 => Value.int .u64 (w.toNat : Int))]
      congr 1
      apply List.ext_getElem?
      intro q
      have htl2 : (a.l.take (i + 1)).length = i + 1 := by rw [List.length_take]; omega
      rw [List.getElem?_set, setW_get (by omega), setW_get (by omega), htl, htl2, hsl]
      by_cases c1 : fr + i = q
      · subst c1
        rw [if_pos rfl, if_pos (by omega), if_neg (by omega), if_pos (by omega), List.getElem?_take_of_lt (by omega), show fr + i - fr = i by omega, List.getElem?_eq_getElem hil]
      · rw [if_neg c1]
        by_cases c2 : q < fr
        · rw [if_pos c2, if_pos c2]
        · rw [if_neg c2, if_neg c2]
          by_cases c3 : q < fr + i
          · rw [if_pos c3, if_pos (by omega), List.getElem?_take_of_lt (by omega), List.getElem?_take_of_lt (by omega)]
          · rw [if_neg c3, if_neg (by omega)]
    unfold playL
    rw [← e]
    exact hs

section
variable (K : Value → Hp → Prop) (R11 : Option Addr → Nat → Nat → Int → Option Addr → Option Addr → Option Addr → Option Addr → Nat → Nat → Int → Hp → Prop) (A3 : Option Addr) (n3 m3 : Nat) (jj : Int) {a : PAct} (hOK : OkP H0 a) (hlim : a.n ≤ 60) (hn1 : 1 ≤ n) (hn40 : n ≤ 40) (hc : c ≤ 100000) (hd : Holds n c d row) (hpk : pk ≤ 4)
  (hnext : ∀ (d' : D) (row' : List UInt64) (pk' : Int) (H' : Hp), Holds n (c + 200) d' row' → pk' ≤ 4 → Sep (playL n d' row' p dp ap br pk' H0) H' → W_abacistlaw19_StreamPlays.j57 K R11 A3 n3 m3 (n : Int) (some ⟨p, 0, none⟩) (some ⟨dp, 0, none⟩) (some ⟨ap, 0, none⟩) (some ⟨br, 0, none⟩) n n jj H')
include hOK hlim hn1 hn40 hc hd hpk hnext

set_option maxHeartbeats 600000 in
theorem write_ok (c3 : Bool) (hc3 : c3 = true ↔ 0 ≤ a.fr ∧ a.fr ≤ n) {H : Hp} (hs : Sep (playL n d row p dp ap br pk H0 ++ [pts b1 (.obj (.cells (pRow a).toArray 60))]) H) :
    HCalls Try.prog 19 #[.pointer (some ⟨p, 0, none⟩), .int .i64 a.fr, .slice a.A a.n a.m] H fun v16 H8 => DI .i64 v16 fun x12 => W_abacistlaw19_StreamPlays.j19 K R11 A3 n3 m3 (n : Int) (some ⟨p, 0, none⟩) (some ⟨dp, 0, none⟩) (some ⟨ap, 0, none⟩) (some ⟨br, 0, none⟩) n n jj ⟨b1, 0, none⟩ c3 x12 H8 := by
  have hlen := hd.len
  have hl := hOK.n
  have hfr := hOK.fr
  have hper := hd.per
  by_cases hfit : 0 ≤ a.fr ∧ a.fr + a.n ≤ n
  · obtain rfl := hc3.2 ⟨hfit.1, by omega⟩
    obtain ⟨fr, hfrn⟩ := Int.eq_ofNat_of_zero_le hfit.1
    have fit : ∀ (d' : D) (pk' : Int) (H' : Hp), Holds n (c + 200) d' (setW row fr a.l) → pk' ≤ 4 → Sep (playL n d' row p dp ap br pk' H0 ++ [pts b1 (.obj (.cells (pRow a).toArray 60))]) H' →
        W_abacistlaw19_StreamPlays.j19 K R11 A3 n3 m3 (n : Int) (some ⟨p, 0, none⟩) (some ⟨dp, 0, none⟩) (some ⟨ap, 0, none⟩) (some ⟨br, 0, none⟩) n n jj ⟨b1, 0, none⟩ true 0 H' := fun d' pk' H' hd' hpk' hs' => by
      unfold W_abacistlaw19_StreamPlays.j19
      refine BIf_pos rfl ?_
      have hs'' := hs'
      unfold playL at hs''
      refine hs''.ld 5 (v := .slice a.A a.n a.m) rfl rfl ?_
      simp only [DI_int', DB_bool, DS_string, DP_pointer, DSl_slice, DM_map, DA_agg, DTup_tuple, DCons_cons, DNil_nil, NN_some, BIf_true, BIf_false, BIf_same, List.toList_toArray, Bool.not_true, Bool.not_false]
      refine hs''.ld 5 (v := .int .i64 a.fr) rfl rfl ?_
      simp only [DI_int', DB_bool, DS_string, DP_pointer, DSl_slice, DM_map, DA_agg, DTup_tuple, DCons_cons, DNil_nil, NN_some, BIf_true, BIf_false, BIf_same, List.toList_toArray, Bool.not_true, Bool.not_false]
      rw [i64w (x := (n : Int) - a.fr) (by omega) (by omega)]
      refine BIf_dpos (by omega) (BIf_bnen rfl ⟨a.n + 1, ?_⟩)
      refine row_loop K R11 A3 n3 m3 jj a hOK hlim fr hfrn (by omega) hn40 hlen (fun H hs => hnext d' _ pk' H hd' hpk' hs) a.n 0 H' (by omega) ?_
      rw [show setW row fr (a.l.take 0) = row by simp [setW]]
      exact hs'
    by_cases h0 : a.n = 0
    · have hnil : a.l = [] := List.length_eq_zero_iff.1 (by omega)
      have hfw : fr ≤ (pX n).w := by show fr ≤ n; omega
      have t : Tr Try.prog 19 #[.pointer (some ⟨p, 0, none⟩), .int .i64 a.fr, .slice a.A a.n a.m] [pts p (pipO dp ap (pX n)), Dk dp d] fun v M => v = .int .i64 0 ∧ M = [pts p (pipO dp ap (pX n)), Dk dp d] := by
        rw [hfrn, h0]
        exact Write_nil (p := p) (dp := dp) (ap := ap) hd.ok (hd.on hn1 hn40) fr a.A a.m hfw
      unfold playL at hs
      refine t.use hs [1, 2] rfl rfl ?_
      rintro _ _ H1 ⟨rfl, rfl⟩ hs
      simp only [DI_int', DB_bool, DS_string, DP_pointer, DSl_slice, DM_map, DA_agg, DTup_tuple, DCons_cons, DNil_nil, NN_some, BIf_true, BIf_false, BIf_same, List.toList_toArray, Bool.not_true, Bool.not_false]
      exact fit d pk H1 (by rw [hnil, show setW row fr [] = row by simp [setW]]; exact hd.mono (by omega)) hpk (hs.re [2, 0, 1, 3, 4, 5] rfl)
    · unfold playL at hs
      have hrd := hd.rd
      have hwr := hd.wr
      have ho : d.rd ≤ 4611686000000000000 ∧ d.wr ≤ 4611686000000000000 := by omega
      have hcap : (D.per d : Int) ≤ 4 - sumB [] := by rw [hper, sumB_nil]; omega
      have hfw : fr + a.n ≤ (pX n).w := by show _ ≤ n; omega
      have hpos : 1 ≤ a.n := by omega
      rw [hfrn]
      refine (Write_tr (p := p) (dp := dp) (ap := ap) (d := d) (x := pX n) (cap := 4) (peak := pk) (bufs := []) (R := own H0) (A := a.A) (n := a.n) (m := a.m) (src := a.l) hd.ok hd.calm (hd.on hn1 hn40) ho fr hl hpos hfw hOK.nm hcap (fun H h => hOK.l.le h)).use hs [1, 2, 3, 0] rfl rfl ?_
      rintro _ _ H1 ⟨rfl, rfl⟩ hs
      simp only [DI_int', DB_bool, DS_string, DP_pointer, DSl_slice, DM_map, DA_agg, DTup_tuple, DCons_cons, DNil_nil, NN_some, BIf_true, BIf_false, BIf_same, List.toList_toArray, Bool.not_true, Bool.not_false]
      rw [hper] at hs
      have hw := hd.write a.n fr a.l (by omega) (by omega)
      exact fit _ _ H1 (hw.mono (by omega)) (mx4 hpk) (hs.re [3, 0, 1, 2, 4, 5] rfl)
  · have hs0 := hs
    unfold playL at hs
    refine HCalls.use (Write_no (x := pX n) (p := p) (dp := dp) (ap := ap) a.fr a.A a.n a.m (by show n ≤ _; omega) (by show a.fr < 0 ∨ (n : Int) < a.fr + a.n; omega) (by omega) hs 1 rfl) ?_
    simp only [DI_int', DB_bool, DS_string, DP_pointer, DSl_slice, DM_map, DA_agg, DTup_tuple, DCons_cons, DNil_nil, NN_some, BIf_true, BIf_false, BIf_same, List.toList_toArray, Bool.not_true, Bool.not_false]
    have nx : W_abacistlaw19_StreamPlays.j57 K R11 A3 n3 m3 (n : Int) (some ⟨p, 0, none⟩) (some ⟨dp, 0, none⟩) (some ⟨ap, 0, none⟩) (some ⟨br, 0, none⟩) n n jj H := hnext d row pk H (hd.mono (by omega)) hpk (hs.re [0, 1, 2, 3, 4] rfl)
    unfold W_abacistlaw19_StreamPlays.j19
    cases hcc : c3 with
    | false => exact BIf_neg rfl (BIf_bnen rfl nx)
    | true =>
      have hin := hc3.1 hcc
      refine BIf_pos rfl (hs.ld 5 (v := .slice a.A a.n a.m) rfl rfl ?_)
      simp only [DI_int', DB_bool, DS_string, DP_pointer, DSl_slice, DM_map, DA_agg, DTup_tuple, DCons_cons, DNil_nil, NN_some, BIf_true, BIf_false, BIf_same, List.toList_toArray, Bool.not_true, Bool.not_false]
      refine hs.ld 5 (v := .int .i64 a.fr) rfl rfl ?_
      simp only [DI_int', DB_bool, DS_string, DP_pointer, DSl_slice, DM_map, DA_agg, DTup_tuple, DCons_cons, DNil_nil, NN_some, BIf_true, BIf_false, BIf_same, List.toList_toArray, Bool.not_true, Bool.not_false]
      rw [i64w (x := (n : Int) - a.fr) (by omega) (by omega)]
      exact BIf_dneg (by omega) (BIf_bnen rfl nx)
end
end

end Go.Proofs.Ytbnhfcdagoigkaa.Str

/- The law StreamPlays: other acts. -/
set_option maxRecDepth 100000
set_option linter.unusedSimpArgs false
set_option linter.unusedVariables false
set_option linter.unnecessarySimpa false
set_option linter.unusedSectionVars false
namespace Go.Proofs.Ytbnhfcdagoigkaa.Str
open Go Go.Hw Go.Form Go.Proofs.Ytbnhfcdagoigkaa.W Go.Proofs.Ytbnhfcdagoigkaa.Dsk Go.Proofs.Ytbnhfcdagoigkaa.Are

section
variable {n c : Nat} {d : D} {row : List UInt64} {p dp ap br b1 : Nat} {pk : Int} {H0 : Hp} {a : PAct}
  (K : Value → Hp → Prop) (R11 : Option Addr → Nat → Nat → Int → Option Addr → Option Addr → Option Addr → Option Addr → Nat → Nat → Int → Hp → Prop) (A3 : Option Addr) (n3 m3 : Nat) (jj : Int) (hn1 : 1 ≤ n) (hn40 : n ≤ 40) (hc : c ≤ 100000) (hd : Holds n c d row) (hpk : pk ≤ 4)
  (hnext : ∀ (d' : D) (row' : List UInt64) (pk' : Int) (H' : Hp), Holds n (c + 200) d' row' → pk' ≤ 4 → Sep (playL n d' row' p dp ap br pk' H0) H' → W_abacistlaw19_StreamPlays.j57 K R11 A3 n3 m3 (n : Int) (some ⟨p, 0, none⟩) (some ⟨dp, 0, none⟩) (some ⟨ap, 0, none⟩) (some ⟨br, 0, none⟩) n n jj H')
include hn1 hn40 hc hd hpk hnext

theorem sum_ok {H : Hp} (hs : Sep (playL n d row p dp ap br pk H0 ++ [pts b1 (.obj (.cells (pRow a).toArray 60))]) H) :
    HCalls Try.prog 24 #[.pointer (some ⟨p, 0, none⟩)] H fun v49 H19 => DTup v49 fun l12 => DCons l12 fun v50 l13 => DI .u32 v50 fun x57 => DCons l13 fun v51 l14 => DI .i64 v51 fun x58 => DNil l14 (W_abacistlaw19_StreamPlays.j55 K R11 A3 n3 m3 (n : Int) (some ⟨p, 0, none⟩) (some ⟨dp, 0, none⟩) (some ⟨ap, 0, none⟩) (some ⟨br, 0, none⟩) n n jj x57 x58 H19) := by
  have hper := hd.per
  have hlen := hd.len
  have hrd := hd.rd
  unfold playL at hs
  have ho : d.rd ≤ 3000000000000000000 := by omega
  have hcap : (D.per d : Int) ≤ 4 - sumB [] := by rw [hper, sumB_nil]; omega
  refine (Sum_tr (p := p) (dp := dp) (ap := ap) (d := d) (x := pX n) (cap := 4) (peak := pk) (bufs := []) hd.ok hd.calm (hd.on hn1 hn40) ho hcap).use hs [1, 2, 3] rfl rfl ?_
  rintro _ _ H1 ⟨i, hi, rfl, rfl⟩ hs
  have hi : i ≤ (n + 3) / 4 := hi
  rw [hper] at hs
  have hrow : pws d (pX n) 0 (pX n).w = row := hd.row
  rw [hrow]
  simp only [DI_int', DB_bool, DS_string, DP_pointer, DSl_slice, DM_map, DA_agg, DTup_tuple, DCons_cons, DNil_nil, NN_some, BIf_true, BIf_false, BIf_same, List.toList_toArray, Bool.not_true, Bool.not_false]
  unfold W_abacistlaw19_StreamPlays.j55
  refine BIf_bnen rfl ?_
  have hs : Sep [pts p (pipO dp ap (pX n)), Dk dp (D.rdN d i), Ar ap 4 (mx pk (sumB [] + ((4 : Nat) : Int))) [], own H0, pts br (.row (wordVals row) 62 (n * 1)), pts b1 (.obj (.cells (pRow a).toArray 60))] H1 := hs
  have hcell : Cells H1 (some ⟨br, 0, none⟩) (wordVals row) := by
    have := Cells.row (hs.get 4 (b := br) (o := .row (wordVals row) 62 (n * 1)) rfl) 0 n
    rw [List.drop_zero, List.take_of_length_le (by rw [wordVals_length]; omega)] at this
    exact this
  refine HCalls.use (CrcP.rOfWords_ok (some ⟨br, 0, none⟩) n n row hlen.symm (by omega) H1 hcell) ?_
  try simp only [DI_int', DB_bool, DS_string, DP_pointer, DSl_slice, DM_map, DA_agg, DTup_tuple, DCons_cons, DNil_nil, NN_some, BIf_true, BIf_false, BIf_same, List.toList_toArray, Bool.not_true, Bool.not_false]
  refine BIf_bnen rfl ?_
  exact hnext (D.rdN d i) row _ H1 ((hd.more i).mono (by omega)) (mx4 hpk) (hs.re [3, 0, 1, 2, 4] rfl)

theorem fill19_loop (w : UInt64) {d2 : D} {pk2 : Int} (hd2 : Holds n (c + 100) d2 (setW row 0 (List.replicate n w))) (hpk2 : pk2 ≤ 4) :
    ∀ (t i : Nat) (H : Hp), i + t = n → Sep (playL n d2 (setW row 0 (List.replicate i w)) p dp ap br pk2 H0) H →
      W_abacistlaw19_StreamPlays.l50 K R11 (t + 1) A3 n3 m3 (n : Int) (some ⟨p, 0, none⟩) (some ⟨dp, 0, none⟩) (some ⟨ap, 0, none⟩) (some ⟨br, 0, none⟩) n n jj (w.toNat : Int) (i : Int) H
  | 0, i, H, hi, hs => by
    obtain rfl : i = n := by omega
    unfold W_abacistlaw19_StreamPlays.l50
    exact BIf_dneg (by omega) (hnext d2 _ pk2 H (hd2.mono (by omega)) hpk2 hs)
  | t + 1, i, H, hi, hs => by
    have hlen := hd.len
    unfold W_abacistlaw19_StreamPlays.l50
    refine BIf_dpos (by omega) ⟨by omega, by omega, ?_⟩
    try simp only [NN_some, Addr.add_lit', Addr.add_zero, Nat.zero_add, Nat.add_zero]
    rw [Int.toNat_natCast, Nat.mul_one]
    try simp only [NN_some, Addr.add_lit', Addr.add_zero, Nat.zero_add, Nat.add_zero]
    have hsl : (setW row 0 (List.replicate i w)).length = n := by rw [setW_len (by simp; omega)]; exact hlen
    unfold playL at hs
    refine hs.str 4 (b := br) (j := i) rfl (by rw [wordVals_length, hsl]; omega) rfl fun H hs => ?_
    rw [i64w (x := (i : Int) + 1) (by omega) (by omega)]
    refine fill19_loop w hd2 hpk2 t (i + 1) H (by omega) ?_
    have e : (wordVals (setW row 0 (List.replicate i w))).set i (.int .u64 (w.toNat : Int)) = wordVals (setW row 0 (List.replicate (i + 1) w)) := by
      unfold wordVals setW
      rw [← List.map_set (f := fun w : UInt64 => Value.int .u64 (w.toNat : Int))]
      congr 1
      simp only [List.take_zero, List.nil_append, List.length_replicate, Nat.zero_add]
      rw [List.replicate_succ', List.append_assoc, List.set_append, if_neg (by rw [List.length_replicate]; omega), List.length_replicate, Nat.sub_self]
      congr 1
      rw [List.drop_eq_getElem_cons (show i < row.length by omega)]
      rfl
    unfold playL
    rw [← e]
    exact hs

theorem fill_ok (w : UInt64) {H : Hp} (hs : Sep (playL n d row p dp ap br pk H0 ++ [pts b1 (.obj (.cells (pRow a).toArray 60))]) H) :
    W_abacistlaw19_StreamPlays.j47 K R11 A3 n3 m3 (n : Int) (some ⟨p, 0, none⟩) (some ⟨dp, 0, none⟩) (some ⟨ap, 0, none⟩) (some ⟨br, 0, none⟩) n n jj (w.toNat : Int) H := by
  have hper := hd.per
  have hrd := hd.rd
  have hwr := hd.wr
  have hlen := hd.len
  unfold W_abacistlaw19_StreamPlays.j47
  unfold playL at hs
  have ho : d.rd ≤ 3000000000000000000 ∧ d.wr ≤ 3000000000000000000 := by omega
  have hcap : (D.per d : Int) ≤ 4 - sumB [] := by rw [hper, sumB_nil]; omega
  refine (Fill_tr (p := p) (dp := dp) (ap := ap) (d := d) (x := pX n) (cap := 4) (peak := pk) (bufs := []) (w := w) hd.ok hd.calm (hd.on hn1 hn40) ho hcap).use hs [1, 2, 3] rfl rfl ?_
  rintro _ _ H1 ⟨rfl, rfl⟩ hs
  rw [hper] at hs
  simp only [DI_int', DB_bool, DS_string, DP_pointer, DSl_slice, DM_map, DA_agg, DTup_tuple, DCons_cons, DNil_nil, NN_some, BIf_true, BIf_false, BIf_same, List.toList_toArray, Bool.not_true, Bool.not_false]
  refine BIf_bnen rfl ⟨n + 1, ?_⟩
  have hw := hd.write n 0 (List.replicate n w) (by simp) (by simp)
  rw [List.length_replicate] at hw
  refine fill19_loop K R11 A3 n3 m3 jj hn1 hn40 hc hd hpk hnext w (hw.mono (by omega)) (mx4 hpk) n 0 H1 (by omega) ?_
  rw [show setW row 0 (List.replicate 0 w) = row by simp [setW]]
  exact hs.re [3, 0, 1, 2, 4] rfl
end

end Go.Proofs.Ytbnhfcdagoigkaa.Str

/- The law StreamPlays: a read, a word. -/
set_option maxRecDepth 100000
set_option linter.unusedSimpArgs false
set_option linter.unusedVariables false
set_option linter.unnecessarySimpa false
set_option linter.unusedSectionVars false
namespace Go.Proofs.Ytbnhfcdagoigkaa.Str
open Go Go.Hw Go.Form Go.Proofs.Ytbnhfcdagoigkaa.W Go.Proofs.Ytbnhfcdagoigkaa.Dsk Go.Proofs.Ytbnhfcdagoigkaa.Are

theorem slB_both {n m l r : Nat} {x y : Int} {K : Nat → Nat → Prop} (hx : x = l) (hy : y = r) (h1 : l ≤ r) (h2 : r ≤ m) (k : K l r) : slB n m (some x) (some y) K := by
  subst hx hy
  refine ⟨by omega, by omega, by omega, by omega, ?_⟩
  rw [Int.toNat_natCast, Int.toNat_natCast]
  exact k

section
variable {n c : Nat} {d : D} {row : List UInt64} {p dp ap br b1 bm : Nat} {pk : Int} {H0 : Hp} {a : PAct}
  (K : Value → Hp → Prop) (R11 : Option Addr → Nat → Nat → Int → Option Addr → Option Addr → Option Addr → Option Addr → Nat → Nat → Int → Hp → Prop) (A3 : Option Addr) (n3 m3 : Nat) (jj : Int) (hfr : -9223372036854775808 ≤ a.fr ∧ a.fr ≤ 9223372036854775807) (hn1 : 1 ≤ n) (hn40 : n ≤ 40) (hc : c ≤ 100000) (hd : Holds n c d row) (hpk : pk ≤ 4)
  (hnext : ∀ (d' : D) (row' : List UInt64) (pk' : Int) (H' : Hp), Holds n (c + 200) d' row' → pk' ≤ 4 → Sep (playL n d' row' p dp ap br pk' H0) H' → W_abacistlaw19_StreamPlays.j57 K R11 A3 n3 m3 (n : Int) (some ⟨p, 0, none⟩) (some ⟨dp, 0, none⟩) (some ⟨ap, 0, none⟩) (some ⟨br, 0, none⟩) n n jj H')
include hfr hn1 hn40 hc hd hpk hnext

theorem get_ok (c3 : Bool) (hc3 : c3 = true ↔ 0 ≤ a.fr ∧ a.fr ≤ n) {H : Hp} (hs : Sep (playL n d row p dp ap br pk H0 ++ [pts b1 (.obj (.cells (pRow a).toArray 60))]) H) :
    HCalls Try.prog 22 #[.pointer (some ⟨p, 0, none⟩), .int .i64 a.fr] H fun v36 H15 => DTup v36 fun l6 => DCons l6 fun v37 l7 => DI .u64 v37 fun x34 => DCons l7 fun v38 l8 => DI .i64 v38 fun x35 => DNil l8 (W_abacistlaw19_StreamPlays.j38 K R11 A3 n3 m3 (n : Int) (some ⟨p, 0, none⟩) (some ⟨dp, 0, none⟩) (some ⟨ap, 0, none⟩) (some ⟨br, 0, none⟩) n n jj ⟨b1, 0, none⟩ c3 x34 x35 H15) := by
  have hper := hd.per
  have hrd := hd.rd
  have hlen := hd.len
  by_cases hfit : 0 ≤ a.fr ∧ a.fr < n
  · obtain rfl := hc3.2 ⟨hfit.1, by omega⟩
    obtain ⟨fr, hfrn⟩ := Int.eq_ofNat_of_zero_le hfit.1
    unfold playL at hs
    have ho : d.rd ≤ 4611686010000000000 := by omega
    have hcap : (D.per d : Int) ≤ 4 - sumB [] := by rw [hper, sumB_nil]; omega
    have hfw : fr < (pX n).w := by show fr < n; omega
    rw [hfrn]
    refine (Get_tr (p := p) (dp := dp) (ap := ap) (d := d) (x := pX n) (cap := 4) (peak := pk) (bufs := []) hd.ok hd.calm (hd.on hn1 hn40) ho fr hfw hcap).use hs [1, 2, 3] rfl rfl ?_
    rintro _ _ H1 ⟨rfl, rfl⟩ hs
    rw [hper] at hs
    simp only [DI_int', DB_bool, DS_string, DP_pointer, DSl_slice, DM_map, DA_agg, DTup_tuple, DCons_cons, DNil_nil, NN_some, BIf_true, BIf_false, BIf_same, List.toList_toArray, Bool.not_true, Bool.not_false]
    unfold W_abacistlaw19_StreamPlays.j38
    have hs : Sep [pts p (pipO dp ap (pX n)), Dk dp (D.rdN d 1), Ar ap 4 (mx pk (sumB [] + ((4 : Nat) : Int))) [], own H0, pts br (.row (wordVals row) 62 (n * 1)), pts b1 (.obj (.cells (pRow a).toArray 60))] H1 := hs
    refine BIf_pos rfl (hs.ld 5 (v := .int .i64 a.fr) rfl rfl ?_)
    simp only [DI_int', DB_bool, DS_string, DP_pointer, DSl_slice, DM_map, DA_agg, DTup_tuple, DCons_cons, DNil_nil, NN_some, BIf_true, BIf_false, BIf_same, List.toList_toArray, Bool.not_true, Bool.not_false]
    refine BIf_dpos (by omega) (BIf_bnen rfl (hs.ld 5 (v := .int .i64 a.fr) rfl rfl ?_))
    simp only [DI_int', DB_bool, DS_string, DP_pointer, DSl_slice, DM_map, DA_agg, DTup_tuple, DCons_cons, DNil_nil, NN_some, BIf_true, BIf_false, BIf_same, List.toList_toArray, Bool.not_true, Bool.not_false]
    have hcell : Cells H1 (some ⟨br, 0, none⟩) (wordVals row) := by
      have := Cells.row (hs.get 4 (b := br) (o := .row (wordVals row) 62 (n * 1)) rfl) 0 n
      rw [List.drop_zero, List.take_of_length_le (by rw [wordVals_length]; omega)] at this
      exact this
    have hg : (wordVals row)[fr]? = some (.int .u64 ((pw d (pX n) fr).toNat : Int)) := by
      rw [wordVals_get, hd.get fr (by omega)]; rfl
    refine hcell.read hg hfrn (by rw [wordVals_length]; omega) ?_
    simp only [DI_int', DB_bool, DS_string, DP_pointer, DSl_slice, DM_map, DA_agg, DTup_tuple, DCons_cons, DNil_nil, NN_some, BIf_true, BIf_false, BIf_same, List.toList_toArray, Bool.not_true, Bool.not_false]
    refine BIf_bnen rfl ?_
    exact hnext (D.rdN d 1) row _ H1 ((hd.more 1).mono (by omega)) (mx4 hpk) (hs.re [3, 0, 1, 2, 4] rfl)
  · unfold playL at hs
    refine HCalls.use (Get_no (x := pX n) (p := p) (dp := dp) (ap := ap) a.fr (by show a.fr < 0 ∨ (n : Int) ≤ a.fr; omega) hs 1 rfl) ?_
    simp only [DI_int', DB_bool, DS_string, DP_pointer, DSl_slice, DM_map, DA_agg, DTup_tuple, DCons_cons, DNil_nil, NN_some, BIf_true, BIf_false, BIf_same, List.toList_toArray, Bool.not_true, Bool.not_false]
    have nx : W_abacistlaw19_StreamPlays.j57 K R11 A3 n3 m3 (n : Int) (some ⟨p, 0, none⟩) (some ⟨dp, 0, none⟩) (some ⟨ap, 0, none⟩) (some ⟨br, 0, none⟩) n n jj H := hnext d row pk H (hd.mono (by omega)) hpk (hs.re [0, 1, 2, 3, 4] rfl)
    unfold W_abacistlaw19_StreamPlays.j38
    cases hcc : c3 with
    | false => exact BIf_neg rfl (BIf_bnen rfl (BIf_bnen rfl nx))
    | true =>
      have hin := hc3.1 hcc
      refine BIf_pos rfl (hs.ld 5 (v := .int .i64 a.fr) rfl rfl ?_)
      simp only [DI_int', DB_bool, DS_string, DP_pointer, DSl_slice, DM_map, DA_agg, DTup_tuple, DCons_cons, DNil_nil, NN_some, BIf_true, BIf_false, BIf_same, List.toList_toArray, Bool.not_true, Bool.not_false]
      exact BIf_dneg (by omega) (BIf_bnen rfl (BIf_bnen rfl nx))

set_option maxHeartbeats 600000 in
theorem read_ok (c3 : Bool) (hc3 : c3 = true ↔ 0 ≤ a.fr ∧ a.fr ≤ n) (q : Nat) (hq : q ≤ 60) {H : Hp} (hs : Sep (playL n d row p dp ap br pk H0 ++ [pts b1 (.obj (.cells (pRow a).toArray 60)), pts bm (.row (wordVals (List.replicate q 0)) 62 (q * 1))]) H) :
    W_abacistlaw19_StreamPlays.j30 K R11 A3 n3 m3 (n : Int) (some ⟨p, 0, none⟩) (some ⟨dp, 0, none⟩) (some ⟨ap, 0, none⟩) (some ⟨br, 0, none⟩) n n jj ⟨b1, 0, none⟩ c3 (some ⟨bm, 0, none⟩) q q H := by
  have hper := hd.per
  have hrd := hd.rd
  have hlen := hd.len
  unfold W_abacistlaw19_StreamPlays.j30
  unfold playL at hs
  refine hs.ld 5 (v := .int .i64 a.fr) rfl rfl ?_
  simp only [DI_int', DB_bool, DS_string, DP_pointer, DSl_slice, DM_map, DA_agg, DTup_tuple, DCons_cons, DNil_nil, NN_some, BIf_true, BIf_false, BIf_same, List.toList_toArray, Bool.not_true, Bool.not_false]
  by_cases hfit : 0 ≤ a.fr ∧ a.fr + q ≤ n
  · obtain rfl := hc3.2 ⟨hfit.1, by omega⟩
    obtain ⟨fr, hfrn⟩ := Int.eq_ofNat_of_zero_le hfit.1
    have fit : ∀ (d' : D) (pk' : Int) (H' : Hp), Holds n (c + 200) d' row → pk' ≤ 4 → Sep [own H0, pts p (pipO dp ap (pX n)), Dk dp d', Ar ap 4 pk' [], pts br (.row (wordVals row) 62 (n * 1)), pts b1 (.obj (.cells (pRow a).toArray 60)), pts bm (.row (wordVals ((row.drop fr).take q)) 62 (q * 1))] H' →
        (BIf true (Ld H' (Addr.add ⟨b1, 0, none⟩ 1) fun v30 => DI .i64 v30 fun x29 => BIf (decide (((q : Nat) : Int) ≤ (IntKind.i64.wrap ((n : Int) - x29)))) (BIf ((0 : Int) != (0 : Int)) (K (.bool false) H') (Ld H' (Addr.add ⟨b1, 0, none⟩ 1) fun v31 => DI .i64 v31 fun x30 => Ld H' (Addr.add ⟨b1, 0, none⟩ 1) fun v32 => DI .i64 v32 fun x31 => slB n n (some x30) (some (IntKind.i64.wrap (x31 + ((q : Nat) : Int)))) fun n21 n22 => HCalls Try.prog 21 #[.slice (some ⟨bm, 0, none⟩) q q, .slice (slA (some ⟨br, 0, none⟩) n n21 1) (n22 - n21) (n - n21)] H' fun v33 H14 => DB v33 fun c6 => BIf (!c6) (K (.bool false) H14) (W_abacistlaw19_StreamPlays.j57 K R11 A3 n3 m3 (n : Int) (some ⟨p, 0, none⟩) (some ⟨dp, 0, none⟩) (some ⟨ap, 0, none⟩) (some ⟨br, 0, none⟩) n n jj H14))) (BIf ((0 : Int) != (2 : Int)) (K (.bool false) H') (W_abacistlaw19_StreamPlays.j57 K R11 A3 n3 m3 (n : Int) (some ⟨p, 0, none⟩) (some ⟨dp, 0, none⟩) (some ⟨ap, 0, none⟩) (some ⟨br, 0, none⟩) n n jj H')))
          (BIf ((0 : Int) != (2 : Int)) (K (.bool false) H') (W_abacistlaw19_StreamPlays.j57 K R11 A3 n3 m3 (n : Int) (some ⟨p, 0, none⟩) (some ⟨dp, 0, none⟩) (some ⟨ap, 0, none⟩) (some ⟨br, 0, none⟩) n n jj H'))) := fun d' pk' H' hd' hpk' hs => by
      refine BIf_pos rfl (hs.ld 5 (v := .int .i64 a.fr) rfl rfl ?_)
      simp only [DI_int', DB_bool, DS_string, DP_pointer, DSl_slice, DM_map, DA_agg, DTup_tuple, DCons_cons, DNil_nil, NN_some, BIf_true, BIf_false, BIf_same, List.toList_toArray, Bool.not_true, Bool.not_false]
      rw [i64w (x := (n : Int) - a.fr) (by omega) (by omega)]
      refine BIf_dpos (by omega) (BIf_bnen rfl (hs.ld 5 (v := .int .i64 a.fr) rfl rfl ?_))
      simp only [DI_int', DB_bool, DS_string, DP_pointer, DSl_slice, DM_map, DA_agg, DTup_tuple, DCons_cons, DNil_nil, NN_some, BIf_true, BIf_false, BIf_same, List.toList_toArray, Bool.not_true, Bool.not_false]
      refine hs.ld 5 (v := .int .i64 a.fr) rfl rfl ?_
      simp only [DI_int', DB_bool, DS_string, DP_pointer, DSl_slice, DM_map, DA_agg, DTup_tuple, DCons_cons, DNil_nil, NN_some, BIf_true, BIf_false, BIf_same, List.toList_toArray, Bool.not_true, Bool.not_false]
      rw [i64w (x := a.fr + (q : Int)) (by omega) (by omega)]
      refine slB_both hfrn (r := fr + q) (by omega) (by omega) (by omega) ?_
      rw [Nat.add_sub_cancel_left]
      have hcellr : Cells H' (some ⟨br, 0, none⟩) (wordVals row) := by
        have := Cells.row (hs.get 4 (b := br) (o := .row (wordVals row) 62 (n * 1)) rfl) 0 n
        rw [List.drop_zero, List.take_of_length_le (by rw [wordVals_length]; omega)] at this
        exact this
      have hwl : ((row.drop fr).take q).length = q := by simp; omega
      have h1 := (hcellr.shift (m := n) (l := fr) (by rw [wordVals_length]; omega)).take q
      have hm : Cells H' (some ⟨bm, 0, none⟩) (wordVals ((row.drop fr).take q)) := by
        have := Cells.row (hs.get 6 (b := bm) (o := .row (wordVals ((row.drop fr).take q)) 62 (q * 1)) rfl) 0 q
        rw [List.drop_zero, List.take_of_length_le (by rw [wordVals_length]; omega)] at this
        exact this
      have h2 : Cells H' (slA (some ⟨br, 0, none⟩) n fr 1) (wordVals ((row.drop fr).take q)) := by
        rw [show wordVals ((row.drop fr).take q) = ((wordVals row).drop fr).take q by unfold wordVals; rw [List.map_take, List.map_drop]]
        exact h1
      refine HCalls.use (Same_ok (some ⟨bm, 0, none⟩) (slA (some ⟨br, 0, none⟩) n fr 1) q q (n - fr) ((row.drop fr).take q) hwl.symm (by omega) H' hm h2) ?_
      try simp only [DI_int', DB_bool, DS_string, DP_pointer, DSl_slice, DM_map, DA_agg, DTup_tuple, DCons_cons, DNil_nil, NN_some, BIf_true, BIf_false, BIf_same, List.toList_toArray, Bool.not_true, Bool.not_false]
      exact hnext d' row pk' H' hd' hpk' (hs.re [0, 1, 2, 3, 4] rfl)
    by_cases h0 : q = 0
    · subst h0
      have hfw : fr ≤ (pX n).w := by show fr ≤ n; omega
      rw [hfrn]
      refine (Read_nil (p := p) (dp := dp) (ap := ap) hd.ok (hd.on hn1 hn40) fr (some ⟨bm, 0, none⟩) 0 hfw).use hs [1, 2] rfl rfl ?_
      rintro _ _ H1 ⟨rfl, rfl⟩ hs
      simp only [DI_int', DB_bool, DS_string, DP_pointer, DSl_slice, DM_map, DA_agg, DTup_tuple, DCons_cons, DNil_nil, NN_some, BIf_true, BIf_false, BIf_same, List.toList_toArray, Bool.not_true, Bool.not_false]
      exact fit d pk H1 (hd.mono (by omega)) hpk (hs.re [2, 0, 1, 3, 4, 5, 6] rfl)
    · have ho : d.rd ≤ 4611686010000000000 := by omega
      have hcap : (D.per d : Int) ≤ 4 - sumB [] := by rw [hper, sumB_nil]; omega
      have hfw : fr + q ≤ (pX n).w := by show fr + q ≤ n; omega
      have hq1 : 1 ≤ q := by omega
      have hl0 : 0 + q ≤ (wordVals (List.replicate q 0)).length := by rw [wordVals_length, List.length_replicate]; omega
      have hqq : q ≤ q := Nat.le_refl q
      rw [hfrn]
      refine (Read_tr (p := p) (dp := dp) (ap := ap) (d := d) (x := pX n) (cap := 4) (peak := pk) (bufs := []) (rl := bm) (off := 0) (mm := q * 1) (xs := wordVals (List.replicate q 0)) hd.ok hd.calm (hd.on hn1 hn40) ho fr q q hq1 hfw hqq hl0 hcap).use hs [1, 2, 3, 6] rfl rfl ?_
      rintro _ _ H1 ⟨rfl, rfl⟩ hs
      have hset : setAt (wordVals (List.replicate q (0 : UInt64))) 0 (wordVals (pws d (pX n) fr q)) = wordVals ((row.drop fr).take q) := by
        rw [hd.words fr q (by omega)]
        have hwl : ((row.drop fr).take q).length = q := by simp; omega
        unfold setAt
        have h9 : (wordVals (List.replicate q (0 : UInt64))).drop (0 + (wordVals ((row.drop fr).take q)).length) = [] := List.drop_eq_nil_of_le (by rw [wordVals_length, wordVals_length, List.length_replicate]; omega)
        rw [h9, List.take_zero, List.nil_append, List.append_nil]
      rw [hset, hper] at hs
      have hpl := pcs_len 4 (pX n).f q fr q
      simp only [DI_int', DB_bool, DS_string, DP_pointer, DSl_slice, DM_map, DA_agg, DTup_tuple, DCons_cons, DNil_nil, NN_some, BIf_true, BIf_false, BIf_same, List.toList_toArray, Bool.not_true, Bool.not_false]
      exact fit _ _ H1 ((hd.more _).mono (by omega)) (mx4 hpk) (hs.re [4, 0, 1, 2, 5, 6, 3] rfl)
  · refine HCalls.use (Read_no (x := pX n) (p := p) (dp := dp) (ap := ap) a.fr (some ⟨bm, 0, none⟩) q q (by show n ≤ _; omega) (by show a.fr < 0 ∨ (n : Int) < a.fr + q; omega) (by omega) hs 1 rfl) ?_
    simp only [DI_int', DB_bool, DS_string, DP_pointer, DSl_slice, DM_map, DA_agg, DTup_tuple, DCons_cons, DNil_nil, NN_some, BIf_true, BIf_false, BIf_same, List.toList_toArray, Bool.not_true, Bool.not_false]
    have nx : W_abacistlaw19_StreamPlays.j57 K R11 A3 n3 m3 (n : Int) (some ⟨p, 0, none⟩) (some ⟨dp, 0, none⟩) (some ⟨ap, 0, none⟩) (some ⟨br, 0, none⟩) n n jj H := hnext d row pk H (hd.mono (by omega)) hpk (hs.re [0, 1, 2, 3, 4] rfl)
    cases hcc : c3 with
    | false => exact BIf_neg rfl (BIf_bnen rfl nx)
    | true =>
      have hin := hc3.1 hcc
      refine BIf_pos rfl (hs.ld 5 (v := .int .i64 a.fr) rfl rfl ?_)
      simp only [DI_int', DB_bool, DS_string, DP_pointer, DSl_slice, DM_map, DA_agg, DTup_tuple, DCons_cons, DNil_nil, NN_some, BIf_true, BIf_false, BIf_same, List.toList_toArray, Bool.not_true, Bool.not_false]
      rw [i64w (x := (n : Int) - a.fr) (by omega) (by omega)]
      exact BIf_dneg (by omega) (BIf_bnen rfl nx)
end

end Go.Proofs.Ytbnhfcdagoigkaa.Str

/- The law StreamPlays. -/
set_option maxRecDepth 100000
set_option linter.unusedSimpArgs false
set_option linter.unusedVariables false
set_option linter.unnecessarySimpa false
set_option linter.unusedSectionVars false
namespace Go.Proofs.Ytbnhfcdagoigkaa.Str
open Go Go.Hw Go.Form Go.Proofs.Ytbnhfcdagoigkaa.W Go.Proofs.Ytbnhfcdagoigkaa.Dsk Go.Proofs.Ytbnhfcdagoigkaa.Are


section
variable {n c : Nat} {d : D} {row : List UInt64} {p dp ap br b1 : Nat} {pk : Int} {H0 : Hp} {a : PAct}
  (K : Value → Hp → Prop) (R11 : Option Addr → Nat → Nat → Int → Option Addr → Option Addr → Option Addr → Option Addr → Nat → Nat → Int → Hp → Prop) (A3 : Option Addr) (n3 m3 : Nat) (jj : Int) (hOK : OkP H0 a) (hlim : a.n ≤ 60 ∧ a.N ≤ 60) (hn1 : 1 ≤ n) (hn40 : n ≤ 40) (hc : c ≤ 100000) (hd : Holds n c d row) (hpk : pk ≤ 4)
  (hnext : ∀ (d' : D) (row' : List UInt64) (pk' : Int) (H' : Hp), Holds n (c + 200) d' row' → pk' ≤ 4 → Sep (playL n d' row' p dp ap br pk' H0) H' → W_abacistlaw19_StreamPlays.j57 K R11 A3 n3 m3 (n : Int) (some ⟨p, 0, none⟩) (some ⟨dp, 0, none⟩) (some ⟨ap, 0, none⟩) (some ⟨br, 0, none⟩) n n jj H')
include hOK hlim hn1 hn40 hc hd hpk hnext

theorem act_ok (c3 : Bool) (hc3 : c3 = true ↔ 0 ≤ a.fr ∧ a.fr ≤ n) {H : Hp} (hs0 : Sep (playL n d row p dp ap br pk H0 ++ [pts b1 (.obj (.cells (pRow a).toArray 60))]) H) :
    W_abacistlaw19_StreamPlays.j15 K R11 A3 n3 m3 (n : Int) (some ⟨p, 0, none⟩) (some ⟨dp, 0, none⟩) (some ⟨ap, 0, none⟩) (some ⟨br, 0, none⟩) n n jj ⟨b1, 0, none⟩ c3 H := by
  have hs := hs0
  unfold playL at hs
  have hz : zeroRow (#[Value.int .u64 0] : Array Value).toList a.N.toNat = wordVals (List.replicate a.N.toNat 0) := by
    show zeroRow [Value.int .u64 0] a.N.toNat = _
    rw [zeroRow_one]
    unfold wordVals
    rw [List.map_replicate]; rfl
  unfold W_abacistlaw19_StreamPlays.j15
  refine hs.ld 5 (v := .int .i64 a.k) rfl rfl ?_
  simp only [DI_int', DB_bool, DS_string, DP_pointer, DSl_slice, DM_map, DA_agg, DTup_tuple, DCons_cons, DNil_nil, NN_some, BIf_true, BIf_false, BIf_same, List.toList_toArray, Bool.not_true, Bool.not_false]
  by_cases k0 : a.k = 0
  · refine BIf_beqp k0 (BIf_beqp k0 ?_)
    refine hs.ld 5 (v := .int .i64 a.fr) rfl rfl ?_
    simp only [DI_int', DB_bool, DS_string, DP_pointer, DSl_slice, DM_map, DA_agg, DTup_tuple, DCons_cons, DNil_nil, NN_some, BIf_true, BIf_false, BIf_same, List.toList_toArray, Bool.not_true, Bool.not_false]
    refine hs.ld 5 (v := .slice a.A a.n a.m) rfl rfl ?_
    simp only [DI_int', DB_bool, DS_string, DP_pointer, DSl_slice, DM_map, DA_agg, DTup_tuple, DCons_cons, DNil_nil, NN_some, BIf_true, BIf_false, BIf_same, List.toList_toArray, Bool.not_true, Bool.not_false]
    exact write_ok K R11 A3 n3 m3 jj hOK hlim.1 hn1 hn40 hc hd hpk hnext c3 hc3 hs0
  refine BIf_beqn k0 ?_
  by_cases k1 : a.k = 1
  · refine BIf_beqp k1 ?_
    refine hs.ld 5 (v := .int .i64 a.fr) rfl rfl ?_
    simp only [DI_int', DB_bool, DS_string, DP_pointer, DSl_slice, DM_map, DA_agg, DTup_tuple, DCons_cons, DNil_nil, NN_some, BIf_true, BIf_false, BIf_same, List.toList_toArray, Bool.not_true, Bool.not_false]
    refine hs.ld 5 (v := .slice a.A a.n a.m) rfl rfl ?_
    simp only [DI_int', DB_bool, DS_string, DP_pointer, DSl_slice, DM_map, DA_agg, DTup_tuple, DCons_cons, DNil_nil, NN_some, BIf_true, BIf_false, BIf_same, List.toList_toArray, Bool.not_true, Bool.not_false]
    exact write_ok K R11 A3 n3 m3 jj hOK hlim.1 hn1 hn40 hc hd hpk hnext c3 hc3 hs0
  refine BIf_beqn k1 ?_
  by_cases k2 : a.k = 2
  · refine BIf_beqp k2 ?_
    refine hs.ld 5 (v := .int .i64 a.N) rfl rfl ?_
    simp only [DI_int', DB_bool, DS_string, DP_pointer, DSl_slice, DM_map, DA_agg, DTup_tuple, DCons_cons, DNil_nil, NN_some, BIf_true, BIf_false, BIf_same, List.toList_toArray, Bool.not_true, Bool.not_false]
    rw [show (if (0 : Int) > a.N then (0 : Int) else a.N) = ((a.N.toNat : Nat) : Int) by split <;> omega]
    refine hs.mks cell_u64 rfl (n := a.N.toNat) (m := a.N.toNat) rfl rfl (Nat.le_refl _) (by omega) (by omega) fun bm H hs => ?_
    simp only [DI_int', DB_bool, DS_string, DP_pointer, DSl_slice, DM_map, DA_agg, DTup_tuple, DCons_cons, DNil_nil, NN_some, BIf_true, BIf_false, BIf_same, List.toList_toArray, Bool.not_true, Bool.not_false]
    rw [hz] at hs
    exact read_ok K R11 A3 n3 m3 jj hOK.fr hn1 hn40 hc hd hpk hnext c3 hc3 a.N.toNat (by omega) hs
  refine BIf_beqn k2 ?_
  by_cases k3 : a.k = 3
  · refine BIf_beqp k3 ?_
    refine hs.ld 5 (v := .int .i64 a.fr) rfl rfl ?_
    simp only [DI_int', DB_bool, DS_string, DP_pointer, DSl_slice, DM_map, DA_agg, DTup_tuple, DCons_cons, DNil_nil, NN_some, BIf_true, BIf_false, BIf_same, List.toList_toArray, Bool.not_true, Bool.not_false]
    exact get_ok K R11 A3 n3 m3 jj hOK.fr hn1 hn40 hc hd hpk hnext c3 hc3 hs0
  refine BIf_beqn k3 ?_
  by_cases k4 : a.k = 4
  · refine BIf_beqp k4 ?_
    unfold W_abacistlaw19_StreamPlays.j45
    refine hs.ld 5 (v := .slice a.A a.n a.m) rfl rfl ?_
    simp only [DI_int', DB_bool, DS_string, DP_pointer, DSl_slice, DM_map, DA_agg, DTup_tuple, DCons_cons, DNil_nil, NN_some, BIf_true, BIf_false, BIf_same, List.toList_toArray, Bool.not_true, Bool.not_false]
    by_cases h0 : a.n > 0
    · refine BIf_dpos (by omega) (hs.ld 5 (v := .slice a.A a.n a.m) rfl rfl ?_)
      simp only [DI_int', DB_bool, DS_string, DP_pointer, DSl_slice, DM_map, DA_agg, DTup_tuple, DCons_cons, DNil_nil, NN_some, BIf_true, BIf_false, BIf_same, List.toList_toArray, Bool.not_true, Bool.not_false]
      have hl := hOK.n
      have hg : (wordVals a.l)[0]? = some (.int .u64 ((a.l[0]'(by omega)).toNat : Int)) := by
        rw [wordVals_get, List.getElem?_eq_getElem (by omega)]; rfl
      refine (hOK.l.le (hs.ow 0 rfl)).read hg rfl (by rw [wordVals_length]; omega) ?_
      simp only [DI_int', DB_bool, DS_string, DP_pointer, DSl_slice, DM_map, DA_agg, DTup_tuple, DCons_cons, DNil_nil, NN_some, BIf_true, BIf_false, BIf_same, List.toList_toArray, Bool.not_true, Bool.not_false]
      exact fill_ok K R11 A3 n3 m3 jj hn1 hn40 hc hd hpk hnext _ hs0
    · refine BIf_dneg (by omega) ?_
      exact fill_ok K R11 A3 n3 m3 jj hn1 hn40 hc hd hpk hnext 0 hs0
  refine BIf_beqn k4 ?_
  by_cases k5 : a.k = 5
  · refine BIf_beqp k5 ?_
    exact sum_ok K R11 A3 n3 m3 jj hn1 hn40 hc hd hpk hnext hs0
  refine BIf_beqn k5 ?_
  exact hnext d row pk H (hd.mono (by omega)) hpk (hs.re [0, 1, 2, 3, 4] rfl)
end

end Go.Proofs.Ytbnhfcdagoigkaa.Str

/- The law StreamPlays. -/
set_option maxRecDepth 100000
set_option linter.unusedSimpArgs false
set_option linter.unusedVariables false
set_option linter.unnecessarySimpa false
set_option linter.unusedSectionVars false
namespace Go.Proofs.Ytbnhfcdagoigkaa.Str
open Go Go.Hw Go.Form Go.Proofs.Ytbnhfcdagoigkaa.W Go.Proofs.Ytbnhfcdagoigkaa.Dsk Go.Proofs.Ytbnhfcdagoigkaa.Are

theorem few19_loop (A : Option Addr) (n m : Nat) (l : List PAct) (hl : l.length = n) (hn : n ≤ 24) (H : Hp) (hc : CellsS 4 H A (l.map pRow)) :
    ∀ (t j : Nat), j + t = n → (∀ i (hi : i < l.length), i < j → (l[i]'hi).n ≤ 60 ∧ (l[i]'hi).N ≤ 60) → W_abacistlaw19_few.l4 (fun v H' => H' = H ∧ ∃ c, v = .bool c ∧ (c = true → n ≤ 24 ∧ ∀ i (hi : i < l.length), (l[i]'hi).n ≤ 60 ∧ (l[i]'hi).N ≤ 60)) (t + 1) A n m (j : Int) H
  | 0, j, h, hj => by
    unfold W_abacistlaw19_few.l4
    exact BIf_dneg (by omega) ⟨rfl, true, rfl, fun _ => ⟨hn, fun i hi => hj i hi (by omega)⟩⟩
  | t + 1, j, h, hj => by
    have hjl : j < l.length := by omega
    unfold W_abacistlaw19_few.l4
    refine BIf_dpos (by omega) ?_
    have hi : (l.map pRow)[j]? = some (pRow (l[j]'hjl)) := by rw [List.getElem?_map, List.getElem?_eq_getElem hjl]; rfl
    refine hc.rd hi rfl (by rw [List.length_map]; omega) (j := 3) rfl ?_
    show DSl (.slice (l[j]'hjl).A (l[j]'hjl).n (l[j]'hjl).m) _
    simp only [DI_int', DB_bool, DS_string, DP_pointer, DSl_slice, DM_map, DA_agg, DTup_tuple, DCons_cons, DNil_nil, NN_some, BIf_true, BIf_false, BIf_same, List.toList_toArray, Bool.not_true, Bool.not_false]
    by_cases h1 : (l[j]'hjl).n > 60
    · exact BIf_dpos (by omega) ⟨trivial, false, rfl, fun h => by cases h⟩
    refine BIf_dneg (by omega) ?_
    refine hc.rd hi rfl (by rw [List.length_map]; omega) (j := 2) rfl ?_
    show DI .i64 (.int .i64 (l[j]'hjl).N) _
    simp only [DI_int', DB_bool, DS_string, DP_pointer, DSl_slice, DM_map, DA_agg, DTup_tuple, DCons_cons, DNil_nil, NN_some, BIf_true, BIf_false, BIf_same, List.toList_toArray, Bool.not_true, Bool.not_false]
    by_cases h2 : (l[j]'hjl).N > 60
    · exact BIf_dpos h2 ⟨trivial, false, rfl, fun h => by cases h⟩
    refine BIf_dneg h2 ?_
    rw [i64w (x := (j : Int) + 1) (by omega) (by omega)]
    refine few19_loop A n m l hl hn H hc t (j + 1) (by omega) fun i hi hij => ?_
    by_cases e : i = j
    · subst e; exact ⟨by omega, by omega⟩
    · exact hj i hi (by omega)
theorem few19_ok (A : Option Addr) (n m : Nat) (l : List PAct) (hl : l.length = n) (H : Hp) (hc : CellsS 4 H A (l.map pRow)) :
    HCalls Try.prog 16 #[.slice A n m] H fun v H' => H' = H ∧ ∃ c, v = .bool c ∧ (c = true → n ≤ 24 ∧ ∀ i (hi : i < l.length), (l[i]'hi).n ≤ 60 ∧ (l[i]'hi).N ≤ 60) := by
  apply W_abacistlaw19_few.ok
  unfold W_abacistlaw19_few
  by_cases hn : n > 24
  · exact BIf_dpos (by omega) ⟨rfl, false, rfl, fun h => by cases h⟩
  · refine BIf_dneg (by omega) ⟨n + 1, ?_⟩
    exact few19_loop A n m l hl (by omega) H hc n 0 (by omega) (fun i hi h => by omega)

section
variable {n : Nat} {p dp ap br : Nat} {H0 : Hp} (K : Value → Hp → Prop) (hK : ∀ H, H0.le H → K (.bool true) H) (hn1 : 1 ≤ n) (hn40 : n ≤ 40)
include hK hn1 hn40

theorem seen_loop {c : Nat} {d : D} {row : List UInt64} {pk : Int} (hc : c ≤ 100000) (hd : Holds n c d row) (hpk : pk ≤ 4) (ks : List Int) (hks : KeysOf (tchM d.tch) ks) (A : Option Addr) (m : Nat) (hkl : ks.length ≤ 20) :
    ∀ (t i : Nat) (H : Hp), i + t = ks.length → Sep (playL n d row p dp ap br pk H0 ++ [Own 3 1 A ks.length m (ks.map (Value.int .i64))]) H →
      W_abacistlaw19_StreamPlays.l61 K (t + 1) (n : Int) (some ⟨p, 0, none⟩) (some ⟨br, 0, none⟩) n n A ks.length m (i : Int) H
  | 0, i, H, hi, hs => by
    have hper := hd.per
    have hrd := hd.rd
    have hlen := hd.len
    unfold W_abacistlaw19_StreamPlays.l61
    refine BIf_dneg (by omega) ?_
    unfold playL at hs
    refine hs.mks cell_u64 rfl (n := n) (m := n) rfl rfl (Nat.le_refl _) (by omega) (by omega) fun bm H hs => ?_
    simp only [DI_int', DB_bool, DS_string, DP_pointer, DSl_slice, DM_map, DA_agg, DTup_tuple, DCons_cons, DNil_nil, NN_some, BIf_true, BIf_false, BIf_same, List.toList_toArray, Bool.not_true, Bool.not_false]
    have hz : zeroRow (#[Value.int .u64 0] : Array Value).toList n = wordVals (List.replicate n 0) := by
      show zeroRow [Value.int .u64 0] n = _
      rw [zeroRow_one]
      unfold wordVals
      rw [List.map_replicate]; rfl
    rw [hz] at hs
    have ho : d.rd ≤ 4611686010000000000 := by omega
    have hcap : (D.per d : Int) ≤ 4 - sumB [] := by rw [hper, sumB_nil]; omega
    have hfw : 0 + n ≤ (pX n).w := by show 0 + n ≤ n; omega
    have hl0 : 0 + n ≤ (wordVals (List.replicate n 0)).length := by rw [wordVals_length, List.length_replicate]; omega
    have hqq : n ≤ n := Nat.le_refl n
    refine (Read_tr (p := p) (dp := dp) (ap := ap) (d := d) (x := pX n) (cap := 4) (peak := pk) (bufs := []) (rl := bm) (off := 0) (mm := n * 1) (xs := wordVals (List.replicate n 0)) hd.ok hd.calm (hd.on hn1 hn40) ho 0 n n hn1 hfw hqq hl0 hcap).use hs [1, 2, 3, 6] rfl rfl ?_
    rintro _ _ H1 ⟨rfl, rfl⟩ hs
    have hset : setAt (wordVals (List.replicate n (0 : UInt64))) 0 (wordVals (pws d (pX n) 0 n)) = wordVals row := by
      rw [hd.row]
      unfold setAt
      have h9 : (wordVals (List.replicate n (0 : UInt64))).drop (0 + (wordVals row).length) = [] := List.drop_eq_nil_of_le (by rw [wordVals_length, wordVals_length, List.length_replicate]; omega)
      rw [h9, List.take_zero, List.nil_append, List.append_nil]
    rw [hset] at hs
    simp only [DI_int', DB_bool, DS_string, DP_pointer, DSl_slice, DM_map, DA_agg, DTup_tuple, DCons_cons, DNil_nil, NN_some, BIf_true, BIf_false, BIf_same, List.toList_toArray, Bool.not_true, Bool.not_false]
    refine BIf_beqp rfl ?_
    have cl : ∀ (q : Nat), H1 q = some (.row (wordVals row) 62 (n * 1)) → Cells H1 (some ⟨q, 0, none⟩) (wordVals row) := fun q hq => by
      have := Cells.row hq 0 n
      rw [List.drop_zero, List.take_of_length_le (by rw [wordVals_length]; omega)] at this
      exact this
    refine HCalls.use (Same_ok (some ⟨bm, 0, none⟩) (some ⟨br, 0, none⟩) n n n row hlen.symm (by omega) H1 (cl bm (hs.get 3 rfl)) (cl br (hs.get 5 rfl))) ?_
    try simp only [DI_int', DB_bool, DS_string, DP_pointer, DSl_slice, DM_map, DA_agg, DTup_tuple, DCons_cons, DNil_nil, NN_some, BIf_true, BIf_false, BIf_same, List.toList_toArray, Bool.not_true, Bool.not_false]
    exact hK _ (hs.ow 4 rfl)
  | t + 1, i, H, hi, hs => by
    have hil : i < ks.length := by omega
    have hk := (hks.mem (ks[i]'hil)).1 (List.getElem_mem _)
    have htch : d.tch (ks[i]'hil) = true := by
      unfold tchM at hk
      cases h : d.tch (ks[i]'hil) with
      | true => rfl
      | false => rw [h] at hk; cases hk
    have hr := hd.tch _ htch
    have hg : (ks.map (Value.int .i64))[i]? = some (.int .i64 (ks[i]'hil)) := by rw [List.getElem?_map, List.getElem?_eq_getElem hil]; rfl
    unfold W_abacistlaw19_StreamPlays.l61
    refine BIf_dpos (by omega) ?_
    have hs' := hs
    unfold playL at hs'
    refine (hs'.own 5 rfl).rd1 rfl hg ?_
    simp only [DI_int', DB_bool, DS_string, DP_pointer, DSl_slice, DM_map, DA_agg, DTup_tuple, DCons_cons, DNil_nil, NN_some, BIf_true, BIf_false, BIf_same, List.toList_toArray, Bool.not_true, Bool.not_false]
    refine BIf_dneg (by omega) ?_
    refine (hs'.own 5 rfl).rd1 rfl hg ?_
    simp only [DI_int', DB_bool, DS_string, DP_pointer, DSl_slice, DM_map, DA_agg, DTup_tuple, DCons_cons, DNil_nil, NN_some, BIf_true, BIf_false, BIf_same, List.toList_toArray, Bool.not_true, Bool.not_false]
    have e : IntKind.i64.wrap ((2 : Int) + IntKind.i64.wrap (Int.tdiv (IntKind.i64.wrap ((n : Int) + 3)) 4)) = 2 + (((n + 3) / 4 : Nat) : Int) := by
      rw [i64w (x := (n : Int) + 3) (by omega) (by omega), show (n : Int) + 3 = ((n + 3 : Nat) : Int) by omega, show Int.tdiv ((n + 3 : Nat) : Int) 4 = (((n + 3) / 4 : Nat) : Int) from rfl, i64n (by omega), i64w (by omega) (by omega)]
    refine ⟨by decide, by simp, ?_⟩
    rw [e]
    refine BIf_dneg (by omega) ?_
    rw [i64w (x := (i : Int) + 1) (by omega) (by omega)]
    exact seen_loop hc hd hpk ks hks A m hkl t (i + 1) H (by omega) hs

theorem plays_loop {A3 : Option Addr} {n3 m3 : Nat} {l : List PAct} (hl : l.length = n3) (h24 : n3 ≤ 24) (hc3 : CellsS 4 H0 A3 (l.map pRow)) (hall : ∀ a ∈ l, OkP H0 a) (hlim : ∀ i (hi : i < l.length), (l[i]'hi).n ≤ 60 ∧ (l[i]'hi).N ≤ 60) :
    ∀ (t j c : Nat) (d : D) (row : List UInt64) (pk : Int) (H : Hp), j + t = n3 → c ≤ 200 * j → Holds n c d row → pk ≤ 4 → Sep (playL n d row p dp ap br pk H0) H →
      W_abacistlaw19_StreamPlays.l11 K (t + 1) A3 n3 m3 (n : Int) (some ⟨p, 0, none⟩) (some ⟨dp, 0, none⟩) (some ⟨ap, 0, none⟩) (some ⟨br, 0, none⟩) n n (j : Int) H := fun t => by
  induction t with
  | zero =>
    intro j c d row pk H hj hc hd hpk hs
    unfold W_abacistlaw19_StreamPlays.l11
    refine BIf_dneg (by omega) ?_
    unfold playL at hs
    try simp only [NN_some, Addr.add_lit', Addr.add_zero, Nat.zero_add, Nat.add_zero]
    have hsec := hd.sec
    refine (Touched_tr (dp := dp) (d := d) hd.ok (fun k hk => by have := hd.tch k hk; omega)).use hs [2] rfl rfl ?_
    rintro _ _ H1 ⟨ks, A, m, hks, hkl, rfl, rfl⟩ hs
    simp only [DI_int', DB_bool, DS_string, DP_pointer, DSl_slice, DM_map, DA_agg, DTup_tuple, DCons_cons, DNil_nil, NN_some, BIf_true, BIf_false, BIf_same, List.toList_toArray, Bool.not_true, Bool.not_false]
    refine ⟨ks.length + 1, ?_⟩
    exact seen_loop K hK hn1 hn40 (by omega) hd hpk ks hks A m (by omega) ks.length 0 H1 (by omega) (hs.re [2, 3, 0, 4, 5, 1] rfl)
  | succ t ih =>
    intro j c d row pk H hj hc hd hpk hs
    have hjl : j < l.length := by omega
    have hOK := hall (l[j]'hjl) (List.getElem_mem _)
    unfold W_abacistlaw19_StreamPlays.l11
    refine BIf_dpos (by omega) ?_
    have hrow : (l.map pRow)[j]? = some (pRow (l[j]'hjl)) := by rw [List.getElem?_map, List.getElem?_eq_getElem hjl]; rfl
    have hs' := hs
    unfold playL at hs'
    refine CellsS.rdA (hc3.le (hs'.ow 0 rfl)) hrow rfl rfl (by rw [List.length_map]; omega) ?_
    refine hs'.nw fun b1 H1 hs => ?_
    refine hs.stw 5 rfl rfl rfl rfl fun H1 hs => ?_
    have hs : Sep (playL n d row p dp ap br pk H0 ++ [pts b1 (.obj (.cells (pRow (l[j]'hjl)).toArray 60))]) H1 := hs
    have hnext : ∀ (d' : D) (row' : List UInt64) (pk' : Int) (H' : Hp), Holds n (c + 200) d' row' → pk' ≤ 4 → Sep (playL n d' row' p dp ap br pk' H0) H' → W_abacistlaw19_StreamPlays.j57 K (W_abacistlaw19_StreamPlays.l11 K (t + 1)) A3 n3 m3 (n : Int) (some ⟨p, 0, none⟩) (some ⟨dp, 0, none⟩) (some ⟨ap, 0, none⟩) (some ⟨br, 0, none⟩) n n (j : Int) H' := fun d' row' pk' H' hd' hpk' hs' => by
      unfold W_abacistlaw19_StreamPlays.j57
      have hs2 := hs'
      unfold playL at hs2
      try simp only [NN_some, Addr.add_lit', Addr.add_zero, Nat.zero_add, Nat.add_zero]
      refine HCalls.use (used_s hs2 3 rfl) ?_
      simp only [DI_int', DB_bool, DS_string, DP_pointer, DSl_slice, DM_map, DA_agg, DTup_tuple, DCons_cons, DNil_nil, NN_some, BIf_true, BIf_false, BIf_same, List.toList_toArray, Bool.not_true, Bool.not_false]
      refine BIf_bnen sumB_nil ?_
      try simp only [NN_some, Addr.add_lit', Addr.add_zero, Nat.zero_add, Nat.add_zero]
      refine HCalls.use (peak_s hs2 3 rfl) ?_
      simp only [DI_int', DB_bool, DS_string, DP_pointer, DSl_slice, DM_map, DA_agg, DTup_tuple, DCons_cons, DNil_nil, NN_some, BIf_true, BIf_false, BIf_same, List.toList_toArray, Bool.not_true, Bool.not_false]
      refine BIf_dneg (by omega) ?_
      rw [i64w (x := (j : Int) + 1) (by omega) (by omega)]
      exact ih (j + 1) (c + 200) d' row' pk' H' (by omega) (by omega) hd' hpk' hs'
    have hs3 := hs
    unfold playL at hs3
    refine hs3.ld 5 (v := .int .i64 (l[j]'hjl).fr) rfl rfl ?_
    simp only [DI_int', DB_bool, DS_string, DP_pointer, DSl_slice, DM_map, DA_agg, DTup_tuple, DCons_cons, DNil_nil, NN_some, BIf_true, BIf_false, BIf_same, List.toList_toArray, Bool.not_true, Bool.not_false]
    by_cases h0 : (l[j]'hjl).fr ≥ 0
    · refine BIf_dpos h0 (hs3.ld 5 (v := .int .i64 (l[j]'hjl).fr) rfl rfl ?_)
      simp only [DI_int', DB_bool, DS_string, DP_pointer, DSl_slice, DM_map, DA_agg, DTup_tuple, DCons_cons, DNil_nil, NN_some, BIf_true, BIf_false, BIf_same, List.toList_toArray, Bool.not_true, Bool.not_false]
      exact act_ok K _ A3 n3 m3 (j : Int) hOK (hlim j hjl) hn1 hn40 (by omega) hd hpk hnext _ (by rw [decide_eq_true_eq]; constructor <;> intro h <;> omega) hs
    · refine BIf_dneg h0 ?_
      exact act_ok K _ A3 n3 m3 (j : Int) hOK (hlim j hjl) hn1 hn40 (by omega) hd hpk hnext false ⟨fun h => (by cases h), fun h => absurd h.1 h0⟩ hs
end

theorem StreamPlays_ok (w : Nat) (hw : w ≤ 255) (A : Option Addr) (n m : Nat) (l : List PAct) (hl : l.length = n) (H : Hp) (hc : CellsS 4 H A (l.map pRow)) (hall : ∀ a ∈ l, OkP H a) :
    HCalls Try.prog 4 #[.int .u8 w, .slice A n m] H (Ret (.bool true) H) := by
  apply W_abacistlaw19_StreamPlays.ok
  unfold W_abacistlaw19_StreamPlays
  have e1 : IntKind.i64.wrap ((1 : Int) + Int.tmod (IntKind.i64.wrap (w : Int)) 40) = ((1 + w % 40 : Nat) : Int) := by
    rw [i64n (n := w) (by omega), show Int.tmod (w : Int) 40 = ((w % 40 : Nat) : Int) from rfl, i64w (by omega) (by omega)]; omega
  have hsz : 1 ≤ 1 + w % 40 ∧ 1 + w % 40 ≤ 40 := by omega
  simp only [e1]
  generalize 1 + w % 40 = q at *
  refine HCalls.use (awake_ok H) ?_
  try simp only [DI_int', DB_bool, DS_string, DP_pointer, DSl_slice, DM_map, DA_agg, DTup_tuple, DCons_cons, DNil_nil, NN_some, BIf_true, BIf_false, BIf_same, List.toList_toArray, Bool.not_true, Bool.not_false]
  refine (few19_ok A n m l hl H hc).mono ?_
  rintro _ _ ⟨rfl, c, rfl, hf⟩
  simp only [DI_int', DB_bool, DS_string, DP_pointer, DSl_slice, DM_map, DA_agg, DTup_tuple, DCons_cons, DNil_nil, NN_some, BIf_true, BIf_false, BIf_same, List.toList_toArray, Bool.not_true, Bool.not_false]
  cases c with
  | false => exact BIf_pos rfl ⟨rfl, Hp.le_refl _⟩
  | true =>
    obtain ⟨h24, hlim⟩ := hf rfl
    refine BIf_neg rfl ⟨by decide, by simp, ?_⟩
    refine (pipe_tr q hsz).use (Sep.start _) [] rfl rfl ?_
    rintro _ _ H1 ⟨p, dp, ap, rfl, rfl⟩ hs
    simp only [DI_int', DB_bool, DS_string, DP_pointer, DSl_slice, DM_map, DA_agg, DTup_tuple, DCons_cons, DNil_nil, NN_some, BIf_true, BIf_false, BIf_same, List.toList_toArray, Bool.not_true, Bool.not_false]
    refine BIf_neg rfl (BIf_neg rfl (BIf_neg rfl ?_))
    refine HCalls.use (words_s hs 0 rfl) ?_
    try simp only [DI_int', DB_bool, DS_string, DP_pointer, DSl_slice, DM_map, DA_agg, DTup_tuple, DCons_cons, DNil_nil, NN_some, BIf_true, BIf_false, BIf_same, List.toList_toArray, Bool.not_true, Bool.not_false]
    refine BIf_bnen rfl ?_
    refine hs.mks cell_u64 rfl (n := q) (m := q) rfl rfl (Nat.le_refl _) (by omega) (by omega) fun br H1 hs => ?_
    simp only [DI_int', DB_bool, DS_string, DP_pointer, DSl_slice, DM_map, DA_agg, DTup_tuple, DCons_cons, DNil_nil, NN_some, BIf_true, BIf_false, BIf_same, List.toList_toArray, Bool.not_true, Bool.not_false]
    refine ⟨n + 1, ?_⟩
    have hz : zeroRow (#[Value.int .u64 0] : Array Value).toList q = wordVals (List.replicate q 0) := by
      show zeroRow [Value.int .u64 0] q = _
      rw [zeroRow_one]
      unfold wordVals
      rw [List.map_replicate]; rfl
    rw [hz] at hs
    have hw0 : ∀ i, pw (D.fresh 20 32) (pX q) i = 0 := fun i => by
      unfold pw
      have hm := Nat.mod_lt i (show 0 < 4 by omega)
      have hnow : ∀ k, (D.fresh 20 32).now k = List.replicate 32 0 := fun k => rfl
      have h4 : wordsB (List.replicate 32 0) = [0, 0, 0, 0] := by decide +kernel
      rw [fresh_per, hnow, h4]
      have : i % 4 = 0 ∨ i % 4 = 1 ∨ i % 4 = 2 ∨ i % 4 = 3 := by omega
      rcases this with h | h | h | h <;> rw [h] <;> rfl
    have hd : Holds q 0 (D.fresh 20 32) (List.replicate q 0) := ⟨fresh_ok (by omega), fresh_calm 20, rfl, rfl, Nat.le_refl _, Nat.le_refl _, by
      unfold pws
      apply List.ext_getElem?
      intro i
      rw [List.getElem?_map]
      by_cases hi : i < q
      · rw [List.getElem?_range hi, List.getElem?_replicate, if_pos hi]
        simp only [Option.map_some]
        rw [hw0]
      · rw [List.getElem?_eq_none (by simp; omega), List.getElem?_replicate, if_neg hi]
        rfl, fun i hi => by cases hi⟩
    exact plays_loop _ (fun H h => ⟨rfl, h⟩) hsz.1 hsz.2 hl h24 hc hall hlim n 0 0 (D.fresh 20 32) (List.replicate q 0) 0 H1 (by omega) (by omega) hd (by omega) (hs.re [3, 0, 1, 2, 4] rfl)

section
open Go.RowKit Go.ChangeShapes Go.WideShapes Go.ChangeAt
variable {H : Type} {enc : TypeId × Value → H} {W : World}
theorem pacts_of {A : Option Addr} {n : Nat} {rows : List (List Value)} (hl : rows.length = n)
    (h : ∀ (i : Nat) (r : List Value), rows[i]? = some r → ∃ a, A = some a ∧ (∀ j v, r[j]? = some v → (Full W).cell? (a.add (i * Try.prog.cellsOf 60 + j)) = some v) ∧ r.length = Try.prog.cellsOf 60 ∧
      ∃ f d' p', DataW.trod enc Try.prog W 0 (fun _ => true) true f 60 r = some (d', p')) : ∃ l : List PAct, l.length = n ∧ CellsS 4 (Full W) A (l.map pRow) ∧ ∀ a ∈ l, OkP (Full W) a := by
  have hc : Try.prog.cellsOf 60 = 4 := by kernel_rfl
  refine rows_st hl fun i r hi => ?_
  obtain ⟨a, ha, h1, h2, f, d', p', h3⟩ := h i r hi
  rw [hc] at h1 h2
  refine ⟨a, ha, h1, ?_⟩
  obtain ⟨_, f', h4⟩ := trod_st Try.underlying60 h3
  obtain ⟨x, hx, _⟩ := trod_fint (o := 0) Try.underlying3 (by kernel_rfl) (h4 0 _ rfl)
  obtain ⟨y, hy, wy⟩ := trod_fint (o := 1) Try.underlying3 (by kernel_rfl) (h4 1 _ rfl)
  obtain ⟨z, hz, _⟩ := trod_fint (o := 2) Try.underlying3 (by kernel_rfl) (h4 2 _ rfl)
  obtain ⟨B, nB, mB, _, _, hB, tB⟩ := trod_fsl (o := 3) Try.underlying58 (by kernel_rfl) (h4 3 _ rfl)
  obtain ⟨_, _, _, e1, hnm, _, bs, hbl, hbc⟩ := trod_words Try.underlying58 Try.underlying62 (by kernel_rfl) tB
  obtain ⟨rfl, rfl, rfl⟩ : B = _ ∧ nB = _ ∧ mB = _ := by simpa using e1
  exact ⟨⟨x, y, z, B, nB, mB, bs⟩, list4 h2 hx hy hz hB, ⟨hbl.symm, hnm, hbc, wf_int wy⟩⟩
end

end Go.Proofs.Ytbnhfcdagoigkaa.Str

