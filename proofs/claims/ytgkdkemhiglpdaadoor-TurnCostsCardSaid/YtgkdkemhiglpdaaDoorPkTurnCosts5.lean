import Derived.Test.YtgkdkemhiglpdaaDoorProg
import Derived.Test.YtgkdkemhiglpdaaDoorPkTurnCosts4
section
/-! TrnC -/
/- turn: lay, Run. -/
set_option maxRecDepth 100000
set_option linter.unusedSimpArgs false
set_option linter.unusedVariables false
set_option linter.unnecessarySimpa false
set_option linter.unusedSectionVars false
namespace Go.Proofs.YtgkdkemhiglpdaaDoor.Str
open Go Go.Hw Go.Form Go.Proofs.YtgkdkemhiglpdaaDoor.W Go.Proofs.YtgkdkemhiglpdaaDoor.Dsk Go.Proofs.YtgkdkemhiglpdaaDoor.Are

/-! ## What a write leaves, whatever the fuse -/

def D.fz (d : D) (q : Nat) : D := { d with fuse := q }
theorem wpc_fz (d : D) (q s at' : Nat) (src : List UInt64) : D.fz (wpcG d s at' src) q = wpc (D.fz d q) s at' src := by
  unfold wpcG wpc
  have e : D.per (D.fz d q) = D.per d := rfl
  rw [e]
  split <;> rfl
theorem wrs_fz (x : X) : ∀ (k fr : Nat) (d : D) (src : List UInt64) (q : Nat), D.fz (wrsG d x k fr src) q = wrs (D.fz d q) x k fr src
  | 0, _, _, _, _ => rfl
  | k + 1, fr, d, src, q => by
    unfold wrsG wrs
    have e : D.per (D.fz d q) = D.per d := rfl
    rw [e]
    split
    · rfl
    · rw [wrs_fz x k, wpc_fz]

/-- A disk's words stay, where nothing is written. -/
theorem Prog.now {S : Int → Prop} {d d' : D} {r w : Nat} (h : Prog S d d' r w) {i : Int} (hi : ¬ S i) : d'.now i = d.now i := by
  unfold D.now D.sat
  rw [h.cache i hi, h.safe, h.size]
theorem Dead.now {S : Int → Prop} {d d' : D} (h : Dead S d d') {i : Int} (hi : ¬ S i) : d'.now i = d.now i := by
  unfold D.now D.sat
  rw [h.cache i hi, h.safe, h.size]
theorem Prog.pw {S : Int → Prop} {d d' : D} {r w : Nat} (h : Prog S d d' r w) {x : X} (hok : Ok d) (hx : On d x) (hS : ∀ i, S i → i < (x.f : Int) ∨ ((x.f + x.s : Nat) : Int) ≤ i) {j : Nat} (hj : j < x.w) : pw d' x j = pw d x j := by
  have hp := Ok.per_le hok
  have h4 := hx.room
  unfold Str.pw
  rw [h.per, h.now]
  intro hs
  have hdiv : j / D.per d < x.s := by rw [Nat.div_lt_iff_lt_mul (by omega)]; omega
  have := hS _ hs
  generalize j / D.per d = u at *
  omega

theorem wrsG_pw (x : X) {d : D} (hok : Ok d) (fr : Nat) (src : List UInt64) (j : Nat) : pw (wrsG d x src.length fr src) x j = if fr ≤ j ∧ j < fr + src.length then (src[j - fr]?).getD 0 else pw d x j := by
  have hW := (wrs_wrote x src.length fr (D.fz d 0) src ⟨hok.sec, hok.size, hok.big, hok.per, hok.safe, hok.cache, Nat.zero_le _⟩ (Nat.le_refl _)).pw j
  rw [← wrs_fz] at hW
  exact hW

theorem On.prog {S : Int → Prop} {d d' : D} {r w : Nat} {x : X} (hx : On d x) (h : Prog S d d' r w) : On d' x := ⟨hx.w1, hx.s1, by rw [h.sec]; exact hx.fit, by rw [h.per]; exact hx.room⟩
end Go.Proofs.YtgkdkemhiglpdaaDoor.Str

namespace Go.Proofs.YtgkdkemhiglpdaaDoor.Trn
open Go Go.Hw Go.Crc Go.Form Go.Proofs.YtgkdkemhiglpdaaDoor.W Go.Proofs.YtgkdkemhiglpdaaDoor.Shp Go.Proofs.YtgkdkemhiglpdaaDoor.Str Go.Proofs.YtgkdkemhiglpdaaDoor.Dsk Go.Proofs.YtgkdkemhiglpdaaDoor.Are

/-- A pipe's sectors. -/
def inX (x : X) (i : Int) : Prop := (x.f : Int) ≤ i ∧ i < ((x.f + x.s : Nat) : Int)

section
variable {rn p q dp ap bn bb rl : Nat} {s : W32} {sk : Nat} {x y : X} {ea eb j : Nat} {cap peak : Int} {bufs : List (Nat × Nat × Option Addr)} {mb mr : Nat}

/-- What laying leaves. -/
def layP (rn p q dp ap bn bb : Nat) (s : W32) (sk : Nat) (d : D) (y : X) (rows cols c : Nat) (ws : List UInt64) (cap peak : Int) (bufs : List (Nat × Nat × Option Addr)) (mb : Nat) (v : Value) (M : List As) : Prop :=
  (Prog (inX y) d (wrsG d y ws.length (c * rows) ws) (pcsR (D.per d) y.f ws.length (c * rows) ws.length) (pcs (D.per d) y.f ws.length (c * rows) ws.length).length ∧ v = .int .i64 0 ∧
    M = [pts rn (runO (more s (form ws)) (sk + 8 * ws.length) p q rows cols bn), pts bb (.row (wordVals ws) 22 mb), pts q (pipO dp ap y), Dk dp (wrsG d y ws.length (c * rows) ws), Ar ap cap (mx peak (sumB bufs + D.per d)) bufs]) ∨
  (∃ d', Dead (inX y) d d' ∧ d.fuse ≤ pcsR (D.per d) y.f ws.length (c * rows) ws.length + (pcs (D.per d) y.f ws.length (c * rows) ws.length).length ∧ v = .int .i64 8 ∧
    M = [pts q (pipO dp ap y), Dk dp d', Ar ap cap (mx peak (sumB bufs + D.per d)) bufs])

theorem lay_tr {d : D} {rows cols c : Nat} {ws : List UInt64} (hok : Ok d) (hl : d.down = false) (hy : On d y) (ho : d.rd ≤ 4000000000000000000 ∧ d.wr ≤ 4000000000000000000) (hw1 : 1 ≤ ws.length) (hf : c * rows + ws.length ≤ y.w) (hyw : y.w ≤ 4294967296) (hsk : sk ≤ 1000000000000) (hcap : (D.per d : Int) ≤ cap - sumB bufs) (hbn : (bn, ws.length, some ⟨bb, 0, none⟩) ∈ bufs) :
    Tr Tryd.prog 53 #[.pointer (some ⟨rn, 0, none⟩), .int .i64 (c : Int)] [pts rn (runO s sk p q rows cols bn), pts bb (.row (wordVals ws) 22 mb), pts q (pipO dp ap y), Dk dp d, Ar ap cap peak bufs] (layP rn p q dp ap bn bb s sk d y rows cols c ws cap peak bufs mb) := fun H hs => by
  have hcell : ∀ H, pts bb (.row (wordVals ws) 22 mb) H → Cells H (some ⟨bb, 0, none⟩) (wordVals ws) := fun H h => by
    have := Cells.row h 0 ws.length
    rwa [List.drop_zero, List.take_of_length_le (by rw [wordVals_length]; exact Nat.le_refl _)] at this
  apply W_turn_run_lay.ok
  unfold W_turn_run_lay
  simp only [NN_some]
  refine hs.ldf 0 rfl rfl ?_
  simp only [DI_int', DB_bool, DS_string, DP_pointer, DSl_slice, DM_map, DA_agg, DTup_tuple, DCons_cons, DNil_nil, NN_some, BIf_true, BIf_false, BIf_same, List.toList_toArray, Bool.not_true, Bool.not_false]
  refine QCall.use (Words_s hs 4 rfl hbn) ?_
  try simp only [DI_int', DB_bool, DS_string, DP_pointer, DSl_slice, DM_map, DA_agg, DTup_tuple, DCons_cons, DNil_nil, NN_some, BIf_true, BIf_false, BIf_same, List.toList_toArray, Bool.not_true, Bool.not_false]
  rw [Addr.add_zero]
  refine CrcP.AddWordsG_s hs 0 rfl (some ⟨bb, 0, none⟩) ws.length ws.length ws rfl ?_ (by omega) (by omega) fun H hs => ?_
  · obtain ⟨H1, h1, hle⟩ := hs.see 1 rfl
    exact (hcell H1 h1).le hle
  have hs : Sep [pts rn (runO (more s (form ws)) (sk + 8 * ws.length) p q rows cols bn), pts bb (.row (wordVals ws) 22 mb), pts q (pipO dp ap y), Dk dp d, Ar ap cap peak bufs] H := hs
  refine hs.ldf 0 rfl rfl ?_
  simp only [DI_int', DB_bool, DS_string, DP_pointer, DSl_slice, DM_map, DA_agg, DTup_tuple, DCons_cons, DNil_nil, NN_some, BIf_true, BIf_false, BIf_same, List.toList_toArray, Bool.not_true, Bool.not_false]
  refine hs.ldg 0 rfl rfl ?_
  simp only [DI_int', DB_bool, DS_string, DP_pointer, DSl_slice, DM_map, DA_agg, DTup_tuple, DCons_cons, DNil_nil, NN_some, BIf_true, BIf_false, BIf_same, List.toList_toArray, Bool.not_true, Bool.not_false]
  refine hs.ldf 0 rfl rfl ?_
  simp only [DI_int', DB_bool, DS_string, DP_pointer, DSl_slice, DM_map, DA_agg, DTup_tuple, DCons_cons, DNil_nil, NN_some, BIf_true, BIf_false, BIf_same, List.toList_toArray, Bool.not_true, Bool.not_false]
  refine QCall.use (Words_s hs 4 rfl hbn) ?_
  try simp only [DI_int', DB_bool, DS_string, DP_pointer, DSl_slice, DM_map, DA_agg, DTup_tuple, DCons_cons, DNil_nil, NN_some, BIf_true, BIf_false, BIf_same, List.toList_toArray, Bool.not_true, Bool.not_false]
  rw [← Int.natCast_mul, i64n (by omega)]
  refine (WriteG_tr (p := q) (dp := dp) (ap := ap) (d := d) (x := y) (cap := cap) (peak := peak) (bufs := bufs) (R := pts bb (.row (wordVals ws) 22 mb)) (A := some ⟨bb, 0, none⟩) (n := ws.length) (m := ws.length) (src := ws) hok hl hy (by omega) (c * rows) rfl hw1 hf (Nat.le_refl _) hcap hcell).use hs [2, 3, 4, 1] rfl rfl ?_
  rintro v M H (⟨hpg, rfl, rfl⟩ | ⟨d', hd, hfu, rfl, rfl⟩) hs
  · simp only [DI_int', DB_bool, DS_string, DP_pointer, DSl_slice, DM_map, DA_agg, DTup_tuple, DCons_cons, DNil_nil, NN_some, BIf_true, BIf_false, BIf_same, List.toList_toArray, Bool.not_true, Bool.not_false]
    exact ⟨_, .inl ⟨hpg, rfl, rfl⟩, hs.re [4, 3, 0, 1, 2] rfl⟩
  · simp only [DI_int', DB_bool, DS_string, DP_pointer, DSl_slice, DM_map, DA_agg, DTup_tuple, DCons_cons, DNil_nil, NN_some, BIf_true, BIf_false, BIf_same, List.toList_toArray, Bool.not_true, Bool.not_false]
    exact ⟨_, .inr ⟨d', hd, hfu, rfl, rfl⟩, hs.re [0, 1, 2] rfl⟩

/-! ## The turn -/

/-- The words column by column. -/
def trK (d : D) (x : X) (rows cols k : Nat) : UInt64 := pw d x (k % rows * cols + k / rows)
def trW (d : D) (x : X) (rows cols : Nat) : List UInt64 := (List.range (rows * cols)).map (trK d x rows cols)
theorem trW_len (d : D) (x : X) (rows cols : Nat) : (trW d x rows cols).length = rows * cols := by simp [trW]

theorem band_words (d d1 : D) (x : X) {rows cols b c : Nat} (hr : 0 < rows) (hcb : c + b ≤ cols) (hsame : ∀ k, k < rows * cols → pw d1 x k = pw d x k) :
    ((List.range (b * rows)).map fun j => pw d1 x (j % rows * cols + c + j / rows)) = ((trW d x rows cols).drop (c * rows)).take (b * rows) := by
  apply List.ext_getElem?
  intro j
  have hle : (c + b) * rows ≤ cols * rows := Nat.mul_le_mul_right rows hcb
  rw [Nat.add_mul, Nat.mul_comm cols rows] at hle
  rw [List.getElem?_map, List.getElem?_take]
  by_cases hj : j < b * rows
  · rw [List.getElem?_range hj, if_pos hj, List.getElem?_drop]
    unfold trW
    rw [List.getElem?_map, List.getElem?_range (by omega)]
    simp only [Option.map_some, Option.some.injEq]
    unfold trK
    have hm := Nat.mod_lt j hr
    have hd : j / rows < b := by rw [Nat.div_lt_iff_lt_mul hr]; exact hj
    rw [show c * rows + j = j + c * rows by omega, Nat.add_mul_mod_self_right, Nat.add_mul_div_right _ _ hr, hsame]
    · congr 1; omega
    · have : (j % rows + 1) * cols ≤ rows * cols := Nat.mul_le_mul_right cols hm
      rw [Nat.succ_mul] at this; omega
  · rw [if_neg hj, List.getElem?_eq_none (by simp; omega)]; rfl

/-- The reads and the writes of the first m bands. -/
def rT (per f f' rows cols b m : Nat) : Nat := ((List.range m).map fun m' => gR per f cols (m' * b) b rows + pcsR per f' (b * rows) (m' * b * rows) (b * rows)).sum
def wT (per f' rows b m : Nat) : Nat := ((List.range m).map fun m' => (pcs per f' (b * rows) (m' * b * rows) (b * rows)).length).sum
theorem rT_succ (per f f' rows cols b m : Nat) : rT per f f' rows cols b (m + 1) = rT per f f' rows cols b m + (gR per f cols (m * b) b rows + pcsR per f' (b * rows) (m * b * rows) (b * rows)) := by
  unfold rT; rw [List.range_succ, List.map_append, List.sum_append]; simp
theorem wT_succ (per f' rows b m : Nat) : wT per f' rows b (m + 1) = wT per f' rows b m + (pcs per f' (b * rows) (m * b * rows) (b * rows)).length := by
  unfold wT; rw [List.range_succ, List.map_append, List.sum_append]; simp
theorem rT_mono (per f f' rows cols b : Nat) {i j : Nat} (h : i ≤ j) : rT per f f' rows cols b i ≤ rT per f f' rows cols b j := by
  induction h with
  | refl => exact Nat.le_refl _
  | step h ih => rw [rT_succ]; omega
theorem wT_mono (per f' rows b : Nat) {i j : Nat} (h : i ≤ j) : wT per f' rows b i ≤ wT per f' rows b j := by
  induction h with
  | refl => exact Nat.le_refl _
  | step h ih => rw [wT_succ]; omega
theorem rT_le (per f f' rows cols b : Nat) : ∀ m, rT per f f' rows cols b m ≤ m * (2 * (b * rows))
  | 0 => by simp [rT]
  | m + 1 => by
    rw [rT_succ, Nat.succ_mul]
    have h1 := rT_le per f f' rows cols b m
    have h2 := gR_le per f cols (m * b) b rows
    have h3 := pcs_len per f' (b * rows) (m * b * rows) (b * rows)
    have h4 : pcsR per f' (b * rows) (m * b * rows) (b * rows) ≤ (pcs per f' (b * rows) (m * b * rows) (b * rows)).length := List.length_filter_le _ _
    have h5 := Nat.mul_comm rows b
    omega
theorem wT_le (per f' rows b : Nat) : ∀ m, wT per f' rows b m ≤ m * (b * rows)
  | 0 => by simp [wT]
  | m + 1 => by
    rw [wT_succ, Nat.succ_mul]
    have h1 := wT_le per f' rows b m
    have h3 := pcs_len per f' (b * rows) (m * b * rows) (b * rows)
    omega

/-- So many bands are turned. -/
structure TurnI (d d' : D) (x y : X) (rows cols b m : Nat) : Prop where
  pg : Prog (inX y) d d' (rT (D.per d) x.f y.f rows cols b m) (wT (D.per d) y.f rows b m)
  src : ∀ k, k < x.w → pw d' x k = pw d x k
  dst : ∀ k, k < m * b * rows → pw d' y k = trK d x rows cols k

/-- What a turn leaves. -/
def runP (p q dp ap : Nat) (d : D) (x y : X) (rows cols b : Nat) (cap peak : Int) (bufs : List (Nat × Nat × Option Addr)) (v : Value) (M : List As) : Prop :=
  (∃ d', TurnI d d' x y rows cols b (cols / b) ∧ v = .tuple #[.int .u32 ((sum (form (trW d x rows cols))).toNat : Int), .int .i64 0] ∧
    M = [pts p (pipO dp ap x), pts q (pipO dp ap y), Dk dp d', Ar ap cap (mx peak (sumB bufs + (b * rows : Nat) + D.per d)) bufs]) ∨
  (∃ d', Dead (inX y) d d' ∧ d.fuse ≤ rT (D.per d) x.f y.f rows cols b (cols / b) + wT (D.per d) y.f rows b (cols / b) ∧ v = .tuple #[.int .u32 0, .int .i64 8] ∧
    M = [pts p (pipO dp ap x), pts q (pipO dp ap y), Dk dp d', Ar ap cap (mx peak (sumB bufs + (b * rows : Nat) + D.per d)) bufs])


theorem cut_sum (T : List UInt64) (a n : Nat) : more (sum (form (T.take a))) (form ((T.drop a).take n)) = sum (form (T.take (a + n))) := by
  unfold sum
  rw [← more_append, ← form_append]
  congr 2
  rw [List.take_add]

/-- The parts of memory while a turn is under way. -/
def turnL (rn p q dp ap bn bb sb vb : Nat) (d0 d' : D) (x y : X) (rows cols b m : Nat) (cap pk : Int) (bufs : List (Nat × Nat × Option Addr)) (ws : List UInt64) (mb : Nat) (TT : As) : List As :=
  [pts sb (.obj (.cells #[.int .i64 (rows : Int), .int .i64 (cols : Int)] 29)), pts rn (runO (sum (form ((trW d0 x rows cols).take (m * b * rows)))) (8 * (m * b * rows)) p q rows cols bn), pts bb (.row (wordVals ws) 22 mb),
    pts p (pipO dp ap x), pts q (pipO dp ap y), Dk dp d', Ar ap cap pk (bufs ++ [(bn, b * rows, some ⟨bb, 0, none⟩)]), pts vb (.row [.pointer (some ⟨bn, 0, none⟩)] 101 1), TT]

theorem run_loop (K : Value → Hp → Prop) {TT : As} {sb vb : Nat} {d : D} {rows cols b : Nat} (hok : Ok d) (hx : On d x) (hy : On d y) (ho : d.rd ≤ 2000000000000000000 ∧ d.wr ≤ 2000000000000000000) (hxw : x.w = rows * cols) (hyw : y.w = rows * cols) (hdis : x.f + x.s ≤ y.f ∨ y.f + y.s ≤ x.f) (hb1 : 1 ≤ b) (hbd : cols = cols / b * b) (hsz : rows * cols ≤ 4294967296) (hr1 : 1 ≤ rows) (hc1 : 1 ≤ cols)
    (hcap : (D.per d : Int) ≤ cap - sumB (bufs ++ [(bn, b * rows, some ⟨bb, 0, none⟩)])) (hbm : ∀ z ∈ bufs, z.1 ≠ bn)
    {P1 : Int} (hP1 : P1 = mx peak (sumB (bufs ++ [(bn, b * rows, some ⟨bb, 0, none⟩)]) + D.per d))
    (hK : ∀ d' H, TurnI d d' x y rows cols b (cols / b) → Sep [pts p (pipO dp ap x), pts q (pipO dp ap y), Dk dp d', Ar ap cap P1 bufs, TT] H → K (.tuple #[.int .u32 ((sum (form (trW d x rows cols))).toNat : Int), .int .i64 0]) H)
    (hK8 : ∀ d' H, Dead (inX y) d d' → d.fuse ≤ rT (D.per d) x.f y.f rows cols b (cols / b) + wT (D.per d) y.f rows b (cols / b) → Sep [pts p (pipO dp ap x), pts q (pipO dp ap y), Dk dp d', Ar ap cap P1 bufs, TT] H → K (.tuple #[.int .u32 0, .int .i64 8]) H) :
    ∀ (t m : Nat) (d' : D) (pk : Int) (ws : List UInt64) (H : Hp), m + t = cols / b → TurnI d d' x y rows cols b m → ws.length = b * rows → mx pk (sumB (bufs ++ [(bn, b * rows, some ⟨bb, 0, none⟩)]) + D.per d) = P1 → (m = 0 ∨ pk = P1) → Sep (turnL rn p q dp ap bn bb sb vb d d' x y rows cols b m cap pk bufs ws mb TT) H →
      W_turn_Run.l14 K (t + 1) ⟨sb, 0, none⟩ (b : Int) ⟨rn, 0, none⟩ ((m * b : Nat) : Int) (some ⟨ap, 0, none⟩) (some ⟨vb, 0, none⟩) 1 1 H := fun t => by
  have hp := Ok.per_le hok
  have hcc : cols / b * b * rows = rows * cols := by rw [← hbd, Nat.mul_comm]
  have hnb : cols / b ≤ cols := Nat.div_le_self _ _
  have hn1 : 1 ≤ cols / b := by
    have : cols / b ≠ 0 := fun h0 => by rw [h0, Nat.zero_mul] at hbd; omega
    exact Nat.pos_of_ne_zero this
  have hbr : b * rows ≤ rows * cols := by
    rw [← hcc, Nat.mul_assoc]
    exact Nat.le_mul_of_pos_left _ hn1
  have hcr : cols * 1 ≤ cols * rows := Nat.mul_le_mul_left cols hr1
  rw [Nat.mul_comm cols rows] at hcr
  have hbr1 : 1 * rows ≤ b * rows := Nat.mul_le_mul_right rows hb1
  have hbr2 : b * 1 ≤ b * rows := Nat.mul_le_mul_left b hr1
  have cnt : ∀ m, m ≤ cols / b → m * (2 * (b * rows)) ≤ 2 * (rows * cols) ∧ m * (b * rows) ≤ rows * cols := fun m hm => by
    have : m * (b * rows) ≤ rows * cols := by
      rw [← hcc, Nat.mul_assoc]; exact Nat.mul_le_mul_right _ hm
    refine ⟨?_, this⟩
    rw [Nat.mul_left_comm]; omega
  induction t with
  | zero =>
    intro m d' pk ws H hm hI hws hpk hip hs
    have hme : m = cols / b := by omega
    subst hme
    unfold turnL at hs
    unfold W_turn_Run.l14
    refine hs.ldf 0 rfl rfl ?_
    simp only [DI_int', DB_bool, DS_string, DP_pointer, DSl_slice, DM_map, DA_agg, DTup_tuple, DCons_cons, DNil_nil, NN_some, BIf_true, BIf_false, BIf_same, List.toList_toArray, Bool.not_true, Bool.not_false]
    rw [← hbd]
    refine BIf_dneg (Int.lt_irrefl _) ?_
    rw [Addr.add_zero]
    refine HCalls.use (CrcP.CSumG_s hs 1 rfl) ?_
    try simp only [DI_int', DB_bool, DS_string, DP_pointer, DSl_slice, DM_map, DA_agg, DTup_tuple, DCons_cons, DNil_nil, NN_some, BIf_true, BIf_false, BIf_same, List.toList_toArray, Bool.not_true, Bool.not_false]
    refine (Give_oneD vb bn (b * rows) (some ⟨bb, 0, none⟩) hbm).use hs [6, 7] rfl rfl ?_
    rintro _ _ H ⟨rfl, rfl⟩ hs
    rw [hcc, List.take_of_length_le (by rw [trW_len]; exact Nat.le_refl _)]
    rw [hip.resolve_left (by omega)] at hs
    exact hK d' H hI (hs.re [4, 5, 6, 0, 7] rfl)
  | succ t ih =>
    intro m d' pk ws H hm hI hws hpk hip hs
    have hmlt : m < cols / b := by omega
    have hmb : (m + 1) * b ≤ cols := by
      have h1 : (m + 1) * b ≤ cols / b * b := Nat.mul_le_mul_right b hmlt
      omega
    have hmb' := hmb
    rw [Nat.succ_mul] at hmb'
    have hper : D.per d' = D.per d := hI.pg.per
    have hxd := hx.prog hI.pg
    have hyd := hy.prog hI.pg
    have hrt := rT_le (D.per d) x.f y.f rows cols b m
    have hwt := wT_le (D.per d) y.f rows b m
    have hcnt := cnt m (by omega)
    have hrd := hI.pg.rd
    have hwr := hI.pg.wr
    unfold turnL at hs
    unfold W_turn_Run.l14
    refine hs.ldf 0 rfl rfl ?_
    simp only [DI_int', DB_bool, DS_string, DP_pointer, DSl_slice, DM_map, DA_agg, DTup_tuple, DCons_cons, DNil_nil, NN_some, BIf_true, BIf_false, BIf_same, List.toList_toArray, Bool.not_true, Bool.not_false]
    refine BIf_dpos (by omega) ?_
    refine (gather_tr (rn := rn) (p := p) (q := q) (dp := dp) (ap := ap) (bn := bn) (bb := bb) (s := sum (form ((trW d x rows cols).take (m * b * rows)))) (sk := 8 * (m * b * rows)) (x := x) (cap := cap) (peak := pk) (bufs := bufs ++ [(bn, b * rows, some ⟨bb, 0, none⟩)]) (mb := mb) (c := m * b) hI.pg.ok hI.pg.down hxd (by omega) hxw hb1 hmb' hsz hr1 (by rw [hper]; exact hcap) (List.mem_append_right _ (List.mem_singleton.2 rfl)) ws hws).use hs [1, 2, 3, 5, 6] rfl rfl ?_
    rintro v M H (⟨hgo, rfl, rfl⟩ | ⟨d2, hdd, hfu, rfl, rfl⟩) hs
    case inr =>
      simp only [DI_int', DB_bool, DS_string, DP_pointer, DSl_slice, DM_map, DA_agg, DTup_tuple, DCons_cons, DNil_nil, NN_some, BIf_true, BIf_false, BIf_same, List.toList_toArray, Bool.not_true, Bool.not_false]
      refine BIf_bnep (by decide) ?_
      refine (Give_oneD vb bn (b * rows) (some ⟨bb, 0, none⟩) hbm).use hs [3, 6] rfl rfl ?_
      rintro _ _ H ⟨rfl, rfl⟩ hs
      rw [hper, hpk] at hs
      refine hK8 d2 H (hI.pg.dead (hdd.mono fun _ h => h.elim)) ?_ (hs.re [2, 5, 3, 0, 6] rfl)
      have z1 := hI.pg.fuse; have z2 := hI.pg.go
      have z3 := rT_mono (D.per d) x.f y.f rows cols b (show m + 1 ≤ cols / b by omega)
      have z4 := wT_mono (D.per d) y.f rows b (show m + 1 ≤ cols / b by omega)
      rw [rT_succ] at z3
      rw [wT_succ] at z4
      rw [hper] at hfu
      omega
    simp only [DI_int', DB_bool, DS_string, DP_pointer, DSl_slice, DM_map, DA_agg, DTup_tuple, DCons_cons, DNil_nil, NN_some, BIf_true, BIf_false, BIf_same, List.toList_toArray, Bool.not_true, Bool.not_false]
    refine BIf_bnen rfl ?_
    rw [hper, hpk, band_words d d' x (by omega) hmb' (fun k hk => hI.src k (by rw [hxw]; exact hk))] at hs
    have hg := Prog.rdG (inX y) hI.pg.ok hI.pg.down hgo
    rw [hper] at hg hgo
    have hpg1 := hI.pg.trans hg
    have hper1 : D.per (D.rdG d' (gR (D.per d) x.f cols (m * b) b rows)) = D.per d := hper
    generalize hbw : ((trW d x rows cols).drop (m * b * rows)).take (b * rows) = bw at *
    have hmr : m * b * rows + b * rows ≤ rows * cols := by
      have h1 : (m * b + b) * rows ≤ cols * rows := Nat.mul_le_mul_right rows hmb'
      rw [Nat.add_mul, Nat.mul_comm cols rows] at h1
      exact h1
    have hbl : bw.length = b * rows := by
      rw [← hbw, List.length_take, List.length_drop, trW_len]; omega
    have hgl := gR_le (D.per d) x.f cols (m * b) b rows
    have hcomm := Nat.mul_comm rows b
    refine (lay_tr (rn := rn) (p := p) (q := q) (dp := dp) (ap := ap) (bn := bn) (bb := bb) (s := sum (form ((trW d x rows cols).take (m * b * rows)))) (sk := 8 * (m * b * rows)) (y := y) (rows := rows) (cols := cols) (c := m * b) (cap := cap) (peak := P1) (bufs := bufs ++ [(bn, b * rows, some ⟨bb, 0, none⟩)]) (mb := mb) (ws := bw) (d := D.rdG d' (gR (D.per d) x.f cols (m * b) b rows)) hpg1.ok hpg1.down (hy.prog hpg1) ⟨by show d'.rd + _ ≤ _; omega, by show d'.wr ≤ _; omega⟩ (by omega) (by rw [hbl, hyw]; exact hmr) (by omega) (by omega) (by rw [hper1]; exact hcap) (by rw [hbl]; exact List.mem_append_right _ (List.mem_singleton.2 rfl))).use hs [0, 1, 6, 3, 4] rfl rfl ?_
    have hPP : mx P1 (sumB (bufs ++ [(bn, b * rows, some ⟨bb, 0, none⟩)]) + D.per d) = P1 := by rw [hP1, mx_mx]
    rintro v M H hQ hs
    unfold layP at hQ
    rw [hper1, hbl] at hQ
    rcases hQ with (⟨hpg2, rfl, rfl⟩ | ⟨d2, hdd, hfu, rfl, rfl⟩)
    case inr =>
      simp only [DI_int', DB_bool, DS_string, DP_pointer, DSl_slice, DM_map, DA_agg, DTup_tuple, DCons_cons, DNil_nil, NN_some, BIf_true, BIf_false, BIf_same, List.toList_toArray, Bool.not_true, Bool.not_false]
      refine BIf_bnep (by decide) ?_
      refine (Give_oneD vb bn (b * rows) (some ⟨bb, 0, none⟩) hbm).use hs [2, 5] rfl rfl ?_
      rintro _ _ H ⟨rfl, rfl⟩ hs
      rw [hPP] at hs
      refine hK8 d2 H (hpg1.dead hdd) ?_ (hs.re [3, 1, 2, 0, 5] rfl)
      have z1 := hpg1.fuse; have z2 := hpg1.go
      have z3 := rT_mono (D.per d) x.f y.f rows cols b (show m + 1 ≤ cols / b by omega)
      have z4 := wT_mono (D.per d) y.f rows b (show m + 1 ≤ cols / b by omega)
      rw [rT_succ] at z3
      rw [wT_succ] at z4
      omega
    simp only [DI_int', DB_bool, DS_string, DP_pointer, DSl_slice, DM_map, DA_agg, DTup_tuple, DCons_cons, DNil_nil, NN_some, BIf_true, BIf_false, BIf_same, List.toList_toArray, Bool.not_true, Bool.not_false]
    refine BIf_bnen rfl ?_
    have hpg3 := hpg1.trans hpg2
    have hrT : rT (D.per d) x.f y.f rows cols b m + gR (D.per d) x.f cols (m * b) b rows + pcsR (D.per d) y.f (b * rows) (m * b * rows) (b * rows) = rT (D.per d) x.f y.f rows cols b (m + 1) := by rw [rT_succ]; omega
    have hwT : wT (D.per d) y.f rows b m + 0 + (pcs (D.per d) y.f (b * rows) (m * b * rows) (b * rows)).length = wT (D.per d) y.f rows b (m + 1) := by rw [wT_succ]; omega
    rw [hrT, hwT] at hpg3
    have hok1 : Ok (D.rdG d' (gR (D.per d) x.f cols (m * b) b rows)) := hpg1.ok
    have hpw := fun k => wrsG_pw y hok1 (m * b * rows) bw k
    rw [hbl] at hpw
    have hI2 : TurnI d (wrsG (D.rdG d' (gR (D.per d) x.f cols (m * b) b rows)) y (b * rows) (m * b * rows) bw) x y rows cols b (m + 1) := by
      refine ⟨hpg3, fun k hk => hpg3.pw hok hx (fun i hi => ?_) hk, fun k hk => ?_⟩
      · unfold inX at hi; omega
      · rw [hpw k]
        have hk2 : k < m * b * rows + b * rows := by
          rw [Nat.succ_mul, Nat.add_mul] at hk; exact hk
        by_cases h1 : m * b * rows ≤ k
        · rw [if_pos ⟨h1, hk2⟩, ← hbw, List.getElem?_take_of_lt (by omega), List.getElem?_drop, show m * b * rows + (k - m * b * rows) = k by omega]
          unfold trW
          rw [List.getElem?_map, List.getElem?_range (by omega)]; rfl
        · rw [if_neg (by omega)]
          have := hI.dst k (by omega)
          exact this
    have hcs := cut_sum (trW d x rows cols) (m * b * rows) (b * rows)
    rw [hbw] at hcs
    have htk : m * b * rows + b * rows = (m + 1) * b * rows := by rw [Nat.succ_mul, Nat.add_mul]
    have hsk : 8 * (m * b * rows) + 8 * (b * rows) = 8 * ((m + 1) * b * rows) := by rw [← htk]; omega
    rw [hcs, hsk, htk, hPP] at hs
    rw [show IntKind.i64.wrap (((m * b : Nat) : Int) + (b : Int)) = (((m + 1) * b : Nat) : Int) by rw [show (((m * b : Nat) : Int) + (b : Int)) = (((m + 1) * b : Nat) : Int) by rw [Nat.succ_mul]; omega, i64n (by omega)]]
    refine ih (m + 1) _ P1 bw H (by omega) hI2 hbl hPP (.inr rfl) ?_
    exact hs.re [6, 0, 1, 5, 2, 3, 4, 7, 8] rfl
end
end Go.Proofs.YtgkdkemhiglpdaaDoor.Trn

end
section
/-! TrnD -/
/- turn: Run. -/
set_option maxRecDepth 100000
set_option linter.unusedSimpArgs false
set_option linter.unusedVariables false
set_option linter.unnecessarySimpa false
set_option linter.unusedSectionVars false
namespace Go.Proofs.YtgkdkemhiglpdaaDoor.Trn
open Go Go.Hw Go.Crc Go.Form Go.Proofs.YtgkdkemhiglpdaaDoor.W Go.Proofs.YtgkdkemhiglpdaaDoor.Shp Go.Proofs.YtgkdkemhiglpdaaDoor.Str Go.Proofs.YtgkdkemhiglpdaaDoor.Dsk Go.Proofs.YtgkdkemhiglpdaaDoor.Are

theorem BandIs.unique {r c per free : Int} {j j' : Nat} (hr : 1 ≤ r) (h : BandIs r c per free j) (h' : BandIs r c per free j') : j = j' := by
  have key : ∀ {a b : Nat}, BandIs r c per free a → BandIs r c per free b → ¬ a < b := fun {a b} ha hb hlt => by
    have hp : 2 ^ (a + 1) ≤ 2 ^ b := pow_le hlt
    rw [Nat.pow_succ] at hp
    have hz := pow_pos a
    have h1 := hb.le
    have h2 := hb.fit
    rcases ha.most with e | e
    · omega
    · have h3 : 2 * ((2 ^ a : Nat) : Int) ≤ ((2 ^ b : Nat) : Int) := by omega
      have := Int.mul_le_mul_of_nonneg_right h3 (show 0 ≤ r by omega)
      omega
  have h1 := key h h'
  have h2 := key h' h
  omega

theorem Band_is (r c per free : Int) (hper : -9223372036854775808 ≤ per ∧ per ≤ 9223372036854775807) (hf : free ≤ 9223372036854775807) (H : Hp) (hT : T64 H) (hg : goodS r c = true) (hp : perB per = true) (h1 : per ≤ free) (h2 : r ≤ free - per) {j : Nat} (hj : BandIs r c per free j) :
    HCalls Tryd.prog 14 #[.agg #[.int .i64 r, .int .i64 c], .int .i64 per, .int .i64 free] H (RetE (.tuple #[.int .i64 ((2 ^ j : Nat) : Int), .bool true]) H) :=
  (Band_ok r c per free hper hf H hT).mono fun v H' ⟨hq, e⟩ => by
    rcases hq with ⟨h, _⟩ | ⟨_, j', hj', rfl⟩
    · exact absurd ⟨hg, hp, h1, h2⟩ h
    · obtain ⟨ea, _, rfl, _⟩ := goodS_some hg
      have := pow_pos ea
      rw [hj.unique (by omega) hj']
      exact ⟨rfl, e⟩
theorem Band_no (r c per free : Int) (hper : -9223372036854775808 ≤ per ∧ per ≤ 9223372036854775807) (hf : free ≤ 9223372036854775807) (H : Hp) (hT : T64 H) (hn : ¬ (goodS r c = true ∧ perB per = true ∧ per ≤ free ∧ r ≤ free - per)) :
    HCalls Tryd.prog 14 #[.agg #[.int .i64 r, .int .i64 c], .int .i64 per, .int .i64 free] H (RetE (.tuple #[.int .i64 0, .bool false]) H) :=
  (Band_ok r c per free hper hf H hT).mono fun v H' ⟨hq, e⟩ => by
    rcases hq with ⟨_, rfl⟩ | ⟨h, _⟩
    · exact ⟨rfl, e⟩
    · exact absurd h hn

/-- There is a band. -/
theorem BandIs.ex {ea eb : Nat} {per free : Int} (hab : ea + eb ≤ 32) (h : ((2 ^ ea : Nat) : Int) ≤ free - per) : ∃ j, j ≤ eb ∧ BandIs ((2 ^ ea : Nat) : Int) ((2 ^ eb : Nat) : Int) per free j := by
  have key : ∀ t j, j + t = eb → ((2 ^ j : Nat) : Int) * ((2 ^ ea : Nat) : Int) ≤ free - per → ∃ j, j ≤ eb ∧ BandIs ((2 ^ ea : Nat) : Int) ((2 ^ eb : Nat) : Int) per free j := fun t => by
    induction t with
    | zero => intro j hj hf; exact ⟨j, by omega, ⟨by rw [show j = eb by omega]; exact Int.le_refl _, hf, .inl (by rw [show j = eb by omega])⟩⟩
    | succ t ih =>
      intro j hj hf
      by_cases hc : ((2 ^ (j + 1) : Nat) : Int) * ((2 ^ ea : Nat) : Int) ≤ free - per
      · exact ih (j + 1) (by omega) hc
      · refine ⟨j, by omega, ⟨Int.ofNat_le.2 (pow_le (by omega)), hf, .inr ?_⟩⟩
        rw [show (2 : Int) * ((2 ^ j : Nat) : Int) = ((2 ^ (j + 1) : Nat) : Int) by rw [Nat.pow_succ]; omega]
        omega
  exact key eb 0 (by omega) (by rw [Nat.pow_zero]; omega)
theorem BandIs.ge {r : Int} {eb : Nat} {per free : Int} {j : Nat} (h : BandIs r ((2 ^ eb : Nat) : Int) per free j) : j ≤ eb := by
  apply Nat.le_of_not_lt
  intro hlt
  have h1 := pow_le (show eb + 1 ≤ j from hlt)
  rw [Nat.pow_succ] at h1
  have := h.le
  have := pow_pos eb
  omega

section
variable {p q dp ap : Nat} {x y : X} {cap peak : Int} {bufs : List (Nat × Nat × Option Addr)} {TT : As}

theorem see_T {L : List As} {H : Hp} (hT : ∀ H, TT H → T64 H) (hs : Sep L H) (i : Nat) (hi : L[i]? = some TT) : T64 H := by
  obtain ⟨H1, h1, hle⟩ := hs.see i hi
  exact (hT H1 h1).le hle

theorem div_pow {a b : Nat} (h : a ≤ b) : 2 ^ b = 2 ^ b / 2 ^ a * 2 ^ a := (Nat.div_mul_cancel (Nat.pow_dvd_pow 2 h)).symm

theorem Run_tr {d : D} {ea eb j : Nat} (hT : ∀ H, TT H → T64 H) (hok : Ok d) (hl : d.down = false) (hx : On d x) (hy : On d y) (ho : d.rd ≤ 2000000000000000000 ∧ d.wr ≤ 2000000000000000000) (hab : ea + eb ≤ 32) (hxw : x.w = 2 ^ ea * 2 ^ eb) (hyw : y.w = 2 ^ ea * 2 ^ eb) (hdis : x.f + x.s ≤ y.f ∨ y.f + y.s ≤ x.f)
    (hper : perB (D.per d : Int) = true) (hcap : cap ≤ 1000000000000) (hsum : 0 ≤ sumB bufs) (hj : BandIs ((2 ^ ea : Nat) : Int) ((2 ^ eb : Nat) : Int) (D.per d) (cap - sumB bufs) j) :
    Tr Tryd.prog 17 #[.pointer (some ⟨p, 0, none⟩), .pointer (some ⟨q, 0, none⟩), .agg #[.int .i64 ((2 ^ ea : Nat) : Int), .int .i64 ((2 ^ eb : Nat) : Int)], .pointer (some ⟨ap, 0, none⟩), .int .i64 (D.per d : Int)]
      [pts p (pipO dp ap x), pts q (pipO dp ap y), Dk dp d, Ar ap cap peak bufs, TT] fun v M => ∃ M0, runP p q dp ap d x y (2 ^ ea) (2 ^ eb) (2 ^ j) cap peak bufs v M0 ∧ M = M0 ++ [TT] := fun H hs => by
  have hp := Ok.per_le hok
  have hg := goodS_pow hab
  have hsz := size_le hab
  have hr1 := pow_pos ea
  have hc1 := pow_pos eb
  have hb1 := pow_pos j
  have hjb := hj.ge
  have hfit := hj.fit
  rw [← Int.natCast_mul] at hfit
  have hbr : 1 * 2 ^ ea ≤ 2 ^ j * 2 ^ ea := Nat.mul_le_mul_right _ hb1
  have hbsz : 2 ^ j * 2 ^ ea ≤ 2 ^ ea * 2 ^ eb := by
    rw [Nat.mul_comm]; exact Nat.mul_le_mul_left _ (pow_le hjb)
  have hS : sizeS ((2 ^ ea : Nat) : Int) ((2 ^ eb : Nat) : Int) = ((2 ^ ea * 2 ^ eb : Nat) : Int) := by
    unfold sizeS; rw [if_pos hg, Int.natCast_mul]
  apply W_turn_Run.ok
  unfold W_turn_Run
  refine hs.nw fun sb H hs => BIf_neg rfl (BIf_neg rfl (BIf_neg rfl ?_))
  first | refine hs.ldw 5 rfl rfl ?_
  try simp only [DI_int', DB_bool, DS_string, DP_pointer, DSl_slice, DM_map, DA_agg, DTup_tuple, DCons_cons, DNil_nil, NN_some, BIf_true, BIf_false, BIf_same, List.toList_toArray, Bool.not_true, Bool.not_false]
  refine QCall.use (Good_ok _ _ H (see_T hT hs 4 rfl)) ?_
  rw [hg]
  simp only [DI_int', DB_bool, DS_string, DP_pointer, DSl_slice, DM_map, DA_agg, DTup_tuple, DCons_cons, DNil_nil, NN_some, BIf_true, BIf_false, BIf_same, List.toList_toArray, Bool.not_true, Bool.not_false]
  refine QCall.use (words_s hs 0 rfl) ?_
  simp only [DI_int', DB_bool, DS_string, DP_pointer, DSl_slice, DM_map, DA_agg, DTup_tuple, DCons_cons, DNil_nil, NN_some, BIf_true, BIf_false, BIf_same, List.toList_toArray, Bool.not_true, Bool.not_false]
  first | refine hs.ldw 5 rfl rfl ?_
  try simp only [DI_int', DB_bool, DS_string, DP_pointer, DSl_slice, DM_map, DA_agg, DTup_tuple, DCons_cons, DNil_nil, NN_some, BIf_true, BIf_false, BIf_same, List.toList_toArray, Bool.not_true, Bool.not_false]
  refine QCall.use (Size_ok _ _ H (see_T hT hs 4 rfl)) ?_
  rw [hS]
  simp only [DI_int', DB_bool, DS_string, DP_pointer, DSl_slice, DM_map, DA_agg, DTup_tuple, DCons_cons, DNil_nil, NN_some, BIf_true, BIf_false, BIf_same, List.toList_toArray, Bool.not_true, Bool.not_false]
  refine BIf_bnen (by rw [hxw]) ?_
  refine QCall.use (words_s hs 1 rfl) ?_
  simp only [DI_int', DB_bool, DS_string, DP_pointer, DSl_slice, DM_map, DA_agg, DTup_tuple, DCons_cons, DNil_nil, NN_some, BIf_true, BIf_false, BIf_same, List.toList_toArray, Bool.not_true, Bool.not_false]
  first | refine hs.ldw 5 rfl rfl ?_
  try simp only [DI_int', DB_bool, DS_string, DP_pointer, DSl_slice, DM_map, DA_agg, DTup_tuple, DCons_cons, DNil_nil, NN_some, BIf_true, BIf_false, BIf_same, List.toList_toArray, Bool.not_true, Bool.not_false]
  refine QCall.use (Size_ok _ _ H (see_T hT hs 4 rfl)) ?_
  rw [hS]
  simp only [DI_int', DB_bool, DS_string, DP_pointer, DSl_slice, DM_map, DA_agg, DTup_tuple, DCons_cons, DNil_nil, NN_some, BIf_true, BIf_false, BIf_same, List.toList_toArray, Bool.not_true, Bool.not_false]
  refine BIf_bnen (by rw [hyw]) ?_
  first | refine hs.ldw 5 rfl rfl ?_
  try simp only [DI_int', DB_bool, DS_string, DP_pointer, DSl_slice, DM_map, DA_agg, DTup_tuple, DCons_cons, DNil_nil, NN_some, BIf_true, BIf_false, BIf_same, List.toList_toArray, Bool.not_true, Bool.not_false]
  simp only [NN_some, Addr.add_zero]
  refine QCall.use (free_s hs 3 rfl) ?_
  simp only [DI_int', DB_bool, DS_string, DP_pointer, DSl_slice, DM_map, DA_agg, DTup_tuple, DCons_cons, DNil_nil, NN_some, BIf_true, BIf_false, BIf_same, List.toList_toArray, Bool.not_true, Bool.not_false]
  refine QCall.use (Band_is _ _ _ _ ⟨by omega, by omega⟩ (by omega) H (see_T hT hs 4 rfl) hg hper (by omega) (by omega) hj) ?_
  simp only [DI_int', DB_bool, DS_string, DP_pointer, DSl_slice, DM_map, DA_agg, DTup_tuple, DCons_cons, DNil_nil, NN_some, BIf_true, BIf_false, BIf_same, List.toList_toArray, Bool.not_true, Bool.not_false]
  refine hs.ld 5 (v := .int .i64 ((2 ^ ea : Nat) : Int)) rfl rfl ?_
  simp only [DI_int', DB_bool, DS_string, DP_pointer, DSl_slice, DM_map, DA_agg, DTup_tuple, DCons_cons, DNil_nil, NN_some, BIf_true, BIf_false, BIf_same, List.toList_toArray, Bool.not_true, Bool.not_false]
  rw [← Int.natCast_mul, i64n (by omega)]
  refine (Take_tr (a := ap) (cap := cap) (peak := peak) (bufs := bufs) (n := 2 ^ j * 2 ^ ea) (by omega) (by omega)).use hs [3] rfl rfl ?_
  rintro _ _ H ⟨bn, bb, rfl, rfl⟩ hs
  simp only [DI_int', DB_bool, DS_string, DP_pointer, DSl_slice, DM_map, DA_agg, DTup_tuple, DCons_cons, DNil_nil, NN_some, BIf_true, BIf_false, BIf_same, List.toList_toArray, Bool.not_true, Bool.not_false]
  refine BIf_bnen rfl ?_
  have hbm : ∀ z ∈ bufs, z.1 ≠ bn := fun z hz e => by
    obtain ⟨mp, cl, tk, hA⟩ := Sep.ar hs 0 rfl
    have := hA.bn
    rw [List.map_append, List.nodup_append] at this
    exact this.2.2 z.1 (List.mem_map_of_mem hz) bn (by simp) e
  refine hs.nw fun vb H hs => ?_
  refine hs.ldw 6 rfl rfl ?_
  simp only [DI_int', DB_bool, DS_string, DP_pointer, DSl_slice, DM_map, DA_agg, DTup_tuple, DCons_cons, DNil_nil, NN_some, BIf_true, BIf_false, BIf_same, List.toList_toArray, Bool.not_true, Bool.not_false]
  refine hs.nw fun rn H hs => ?_
  refine ⟨2 ^ eb / 2 ^ j + 1, ?_⟩
  have hz : zerosU64 (2 ^ j * 2 ^ ea) = wordVals (List.replicate (2 ^ j * 2 ^ ea) 0) := by
    unfold zerosU64
    rw [zeroRow_one]
    unfold wordVals
    rw [List.map_replicate]; rfl
  rw [hz] at hs
  have hsb : sumB (bufs ++ [(bn, 2 ^ j * 2 ^ ea, some ⟨bb, 0, none⟩)]) = sumB bufs + ((2 ^ j * 2 ^ ea : Nat) : Int) := by
    rw [sumB_append]; simp [sumB]
  have hpk : mx (mx peak (sumB bufs + ((2 ^ j * 2 ^ ea : Nat) : Int))) (sumB (bufs ++ [(bn, 2 ^ j * 2 ^ ea, some ⟨bb, 0, none⟩)]) + D.per d) = mx peak (sumB bufs + ((2 ^ j * 2 ^ ea : Nat) : Int) + D.per d) := by
    rw [hsb]
    generalize ((2 ^ j * 2 ^ ea : Nat) : Int) = n at *
    unfold mx
    by_cases h1 : sumB bufs + n > peak
    · rw [if_pos h1, if_pos (by omega), if_pos (by omega)]
    · rw [if_neg h1]
  have out : ∀ {v : Value} {d' : D} {H : Hp}, (∀ {M}, M = [pts p (pipO dp ap x), pts q (pipO dp ap y), Dk dp d', Ar ap cap (mx peak (sumB bufs + ((2 ^ j * 2 ^ ea : Nat) : Int) + D.per d)) bufs] → runP p q dp ap d x y (2 ^ ea) (2 ^ eb) (2 ^ j) cap peak bufs v M) →
      Sep [pts p (pipO dp ap x), pts q (pipO dp ap y), Dk dp d', Ar ap cap (mx (mx peak (sumB bufs + ((2 ^ j * 2 ^ ea : Nat) : Int))) (sumB (bufs ++ [(bn, 2 ^ j * 2 ^ ea, some ⟨bb, 0, none⟩)]) + D.per d)) bufs, TT] H → ∃ M, (∃ M0, runP p q dp ap d x y (2 ^ ea) (2 ^ eb) (2 ^ j) cap peak bufs v M0 ∧ M = M0 ++ [TT]) ∧ Sep M H := fun h hs => by
    rw [hpk] at hs
    exact ⟨_, ⟨_, h rfl, rfl⟩, hs⟩
  have hkk := run_loop (p := p) (q := q) (dp := dp) (ap := ap) (rn := rn) (bn := bn) (bb := bb) (sb := sb) (vb := vb) (x := x) (y := y) (cap := cap) (peak := mx peak (sumB bufs + ((2 ^ j * 2 ^ ea : Nat) : Int))) (bufs := bufs) (mb := 2 ^ j * 2 ^ ea) (TT := TT) (fun v H' => ∃ M, (∃ M0, runP p q dp ap d x y (2 ^ ea) (2 ^ eb) (2 ^ j) cap peak bufs v M0 ∧ M = M0 ++ [TT]) ∧ Sep M H') hok hx hy ho hxw hyw hdis hb1 (div_pow hjb) hsz hr1 hc1 (by rw [hsb]; omega) hbm rfl
    (fun d' H hI hs => out (fun e => .inl ⟨d', hI, rfl, e⟩) hs) (fun d' H hd hfu hs => out (fun e => .inr ⟨d', hd, hfu, rfl, e⟩) hs) (2 ^ eb / 2 ^ j) 0 d _ (List.replicate (2 ^ j * 2 ^ ea) 0) H (by omega)
    ⟨by simpa [rT, wT] using Prog.refl (inX y) hok hl, fun _ _ => rfl, fun k hk => by simp at hk⟩ (by simp) rfl (.inl rfl)
  have e0 : ((0 * 2 ^ j : Nat) : Int) = 0 := by rw [Nat.zero_mul]; rfl
  rw [e0] at hkk
  refine hkk ?_
  have hs := hs.re [6, 8, 1, 2, 3, 4, 0, 7, 5] rfl
  unfold turnL
  simp only [Nat.zero_mul, Nat.mul_zero, List.take_zero]
  exact hs
end

end Go.Proofs.YtgkdkemhiglpdaaDoor.Trn

end
section
/-! StrF -/
/- The law StreamCosts. -/
set_option maxRecDepth 100000
set_option linter.unusedSimpArgs false
set_option linter.unusedVariables false
set_option linter.unnecessarySimpa false
set_option linter.unusedSectionVars false

namespace Go.Proofs.YtgkdkemhiglpdaaDoor.Str
open Go Go.Hw Go.Form Go.Proofs.YtgkdkemhiglpdaaDoor.W Go.Proofs.YtgkdkemhiglpdaaDoor.Dsk Go.Proofs.YtgkdkemhiglpdaaDoor.Are

theorem p_ops : plain64 Tryd.prog 59 3 := ⟨by kernel_rfl, by kernel_rfl, by kernel_rfl, by kernel_rfl⟩

theorem fresh_ok {sec : Nat} (h1 : 1 ≤ sec ∧ sec ≤ 1000) : Ok (D.fresh sec 32) := Ok.fresh ⟨h1.1, by omega⟩ (by decide) (by omega)
theorem fresh_calm (sec : Nat) : Calm (D.fresh sec 32) := ⟨rfl, rfl⟩
theorem fresh_per (sec : Nat) : D.per (D.fresh sec 32) = 4 := by show 32 / 8 = 4; decide
theorem fresh_on {sec f w : Nat} (h1 : 1 ≤ w) (h2 : f + (w + 3) / 4 ≤ sec) : On (D.fresh sec 32) ⟨f, (w + 3) / 4, w⟩ := ⟨h1, by show 1 ≤ (w + 3) / 4; omega, h2, by rw [fresh_per]; show w ≤ (w + 3) / 4 * 4; omega⟩

/-- How many sectors are written in part. -/
def part1 (a k : Nat) : Nat := if a % 4 ≠ 0 ∨ (a / 4 = (a + k - 1) / 4 ∧ k < 4) then 1 else 0
def partN (a k : Nat) : Nat := part1 a k + (if (a + k - 1) / 4 > a / 4 ∧ (a + k) % 4 ≠ 0 then 1 else 0)
set_option maxRecDepth 100000 in
theorem costs4 : ∀ a < 40, ∀ k < 41, 1 ≤ k → a + k ≤ 40 → (pcs 4 2 k a k).length = (a + k - 1) / 4 - a / 4 + 1 ∧ ((pcs 4 2 k a k).filter (fun p => decide (p.2.2 < 4))).length = partN a k := by
  decide +kernel

end Go.Proofs.YtgkdkemhiglpdaaDoor.Str

end
section
/-! Wabacistlaw22 -/
/- Formulas of functions, printed by wip/tools/hwp.py. -/
set_option maxRecDepth 100000
set_option linter.unusedVariables false
namespace Go.Proofs.YtgkdkemhiglpdaaDoor.W
open Go Go.Hw

theorem mixWabacistlaw22 : Tryd.prog.follows .mixedOrders = true := by kernel_rfl
-- abacistlaw22.TurnBands
def W_abacistlaw22_TurnBands.j5 (K : Value → Hp → Prop) (x6 : Int) (x7 : Int) (a1 : Addr) (x8 : Int) (c3 : Bool) (c4 : Bool) (H : Hp) : Prop :=
  LdA H a1 2 fun l5 => HCalls Tryd.prog 15 #[.agg l5.toArray] H fun v5 H4 => DB v5 fun c5 => BIf (!c5) (BIf (!c3) (K (.bool (x8 == (0 : Int))) H4) (K (.bool false) H4)) (BIf (!c4) (BIf (!c3) (K (.bool (x8 == (0 : Int))) H4) (K (.bool false) H4)) (BIf (decide (x7 < x6)) (BIf (!c3) (K (.bool (x8 == (0 : Int))) H4) (K (.bool false) H4)) (Ld H4 (a1.add 0) fun v6 => DI .i64 v6 fun x9 => BIf (decide ((IntKind.i64.wrap (x7 - x6)) < x9)) (BIf (!c3) (K (.bool (x8 == (0 : Int))) H4) (K (.bool false) H4)) (BIf (!c3) (K (.bool false) H4) (BIf (decide (x8 < (1 : Int))) (K (.bool false) H4) (Ld H4 (a1.add 1) fun v7 => DI .i64 v7 fun x10 => BIf (decide (x8 > x10)) (K (.bool false) H4) (BIf ((bAnd .i64 x8 (IntKind.i64.wrap (x8 - (1 : Int)))) != (0 : Int)) (K (.bool false) H4) (Ld H4 (a1.add 0) fun v8 => DI .i64 v8 fun x11 => (x11 ≠ 0 ∧ IntKind.i64 = IntKind.i64 ∧ BIf (decide (x8 > (IntKind.i64.wrap (Int.tdiv (IntKind.i64.wrap (x7 - x6)) x11)))) (K (.bool false) H4) (Ld H4 (a1.add 1) fun v9 => DI .i64 v9 fun x12 => BIf (x8 == x12) (K (.bool true) H4) (Ld H4 (a1.add 0) fun v10 => DI .i64 v10 fun x13 => (x13 ≠ 0 ∧ IntKind.i64 = IntKind.i64 ∧ K (.bool (decide ((IntKind.i64.wrap ((2 : Int) * x8)) > (IntKind.i64.wrap (Int.tdiv (IntKind.i64.wrap (x7 - x6)) x13))))) H4))))))))))))
def W_abacistlaw22_TurnBands (x1 : Int) (x2 : Int) (x3 : Int) (x4 : Int) (H : Hp) (K : Value → Hp → Prop) : Prop :=
  Nw H (.obj (.cells #[.int .i64 x1, .int .i64 x2] 29)) fun b1 H1 => HCalls Tryd.prog 13 #[] H1 fun v1 H2 => DB v1 fun c1 => BIf (!c1) (K (.bool false) H2) (LdA H2 (⟨b1, 0, none⟩ : Addr) 2 fun l1 => HCalls Tryd.prog 14 #[.agg l1.toArray, .int .i64 x3, .int .i64 x4] H2 fun v2 H3 => DTup v2 fun l2 => DCons l2 fun v3 l3 => DI .i64 v3 fun x5 => DCons l3 fun v4 l4 => DB v4 fun c2 => DNil l4 (BIf (x3 == (4 : Int)) (W_abacistlaw22_TurnBands.j5 K x3 x4 (⟨b1, 0, none⟩ : Addr) x5 c2 true H3) (BIf (x3 == (8 : Int)) (W_abacistlaw22_TurnBands.j5 K x3 x4 (⟨b1, 0, none⟩ : Addr) x5 c2 true H3) (BIf (x3 == (16 : Int)) (W_abacistlaw22_TurnBands.j5 K x3 x4 (⟨b1, 0, none⟩ : Addr) x5 c2 true H3) (BIf (x3 == (32 : Int)) (W_abacistlaw22_TurnBands.j5 K x3 x4 (⟨b1, 0, none⟩ : Addr) x5 c2 true H3) (BIf (x3 == (64 : Int)) (W_abacistlaw22_TurnBands.j5 K x3 x4 (⟨b1, 0, none⟩ : Addr) x5 c2 true H3) (BIf (x3 == (128 : Int)) (W_abacistlaw22_TurnBands.j5 K x3 x4 (⟨b1, 0, none⟩ : Addr) x5 c2 true H3) (BIf (x3 == (256 : Int)) (W_abacistlaw22_TurnBands.j5 K x3 x4 (⟨b1, 0, none⟩ : Addr) x5 c2 true H3) (W_abacistlaw22_TurnBands.j5 K x3 x4 (⟨b1, 0, none⟩ : Addr) x5 c2 (x3 == (512 : Int)) H3)))))))))
def W_abacistlaw22_TurnBands.Λ (K : Value → Hp → Prop) : Cuts := ⟨fun i => match Nat.beq i 5 with | true => some (fun E D H => DG (E.get? 1) fun w1 => DI .i64 w1 fun x6 => DG (E.get? 2) fun w2 => DI .i64 w2 fun x7 => DG (E.get? 3) fun w3 => DP w3 fun pw3 => NN pw3 fun a1 => DG (E.get? 7) fun w7 => DI .i64 w7 fun x8 => DG (E.get? 8) fun w8 => DB w8 fun c3 => DG (E.get? 9) fun w9 => DB w9 fun c4 => DNilD D (W_abacistlaw22_TurnBands.j5 K x6 x7 a1 x8 c3 c4 H)) | false => none, fun i => none, (fun _ => none)⟩
theorem W_abacistlaw22_TurnBands.ok (x1 : Int) (x2 : Int) (x3 : Int) (x4 : Int) (H : Hp) (K : Value → Hp → Prop) (h : W_abacistlaw22_TurnBands x1 x2 x3 x4 H K) : HCalls Tryd.prog 4 #[.agg #[.int .i64 x1, .int .i64 x2], .int .i64 x3, .int .i64 x4] H K :=
  hcalls Tryd.func4 rfl (Nat.le_of_ble_eq_true rfl) (hw_safe (Λ := (W_abacistlaw22_TurnBands.Λ K)) mixWabacistlaw22 _ _ _ _ _ (Eq.mp (by kernel_rfl) h) (obs_seq obs_region rfl (obs_seq (obs_seq obs_region rfl (obs_cond (obs_seq obs_region rfl obs_ret) obs_skip)) rfl (obs_seq obs_region rfl (obs_seqc obs_region rfl (fun E D H h => by
      obtain ⟨w1, e1, g1⟩ := DG.out h
      obtain ⟨x6, rfl, g2⟩ := DI.out g1
      obtain ⟨w2, e2, g3⟩ := DG.out g2
      obtain ⟨x7, rfl, g4⟩ := DI.out g3
      obtain ⟨w3, e3, g5⟩ := DG.out g4
      obtain ⟨pw3, rfl, g6⟩ := DP.out g5
      obtain ⟨a1, rfl, g7⟩ := NN.out g6
      obtain ⟨w7, e7, g8⟩ := DG.out g7
      obtain ⟨x8, rfl, g9⟩ := DI.out g8
      obtain ⟨w8, e8, g10⟩ := DG.out g9
      obtain ⟨c3, rfl, g11⟩ := DB.out g10
      obtain ⟨w9, e9, g12⟩ := DG.out g11
      obtain ⟨c4, rfl, g13⟩ := DB.out g12
      obtain ⟨rfl, h'⟩ := DNilD.out g13
      exact (hw_safe (Λ := (W_abacistlaw22_TurnBands.Λ K)) mixWabacistlaw22 _ _ [(1, .int .i64 x6), (2, .int .i64 x7), (3, .pointer (some a1)), (7, .int .i64 x8), (8, .bool c3), (9, .bool c4)] [] H (Eq.mp (by kernel_rfl) h') (obs_seq (obs_seq obs_region rfl (obs_cond (obs_seq obs_region rfl obs_ret) obs_skip)) rfl (obs_seq (obs_seq obs_region rfl (obs_cond (obs_seq obs_region rfl obs_ret) obs_skip)) rfl (obs_seq obs_region rfl obs_ret)))).weaken (EnvLe.cons e1 (EnvLe.cons e2 (EnvLe.cons e3 (EnvLe.cons e7 (EnvLe.cons e8 (EnvLe.cons e9 (EnvLe.nil _))))))) (Hp.le_refl _)))))))

-- abacistlaw22.TurnRuns
def W_abacistlaw22_TurnRuns (A1 : Option Addr) (n1 : Nat) (m1 : Nat) (x1 : Int) (x2 : Int) (x3 : Int) (H : Hp) (K : Value → Hp → Prop) : Prop :=
  Nw H (.obj (.cells #[.int .i64 x1, .int .i64 x2] 29)) fun b1 H1 => HCalls Tryd.prog 13 #[] H1 fun v1 H2 => DB v1 fun c1 => BIf (!c1) (K (.bool false) H2) (BIf (((n1 : Nat) : Int) == (0 : Int)) (K (.bool true) H2) (BIf (decide (((n1 : Nat) : Int) > (256 : Int))) (K (.bool true) H2) (((600 : Int) ≠ 0 ∧ IntKind.i64 = IntKind.i64 ∧ HCalls Tryd.prog 16 #[.slice A1 n1 m1, .int .i64 (IntKind.i64.wrap ((1 : Int) + (Int.tmod (IntKind.i64.wrap x3) (600 : Int))))] H2 fun v2 H3 => DTup v2 fun l1 => DCons l1 fun v3 l2 => DA v3 fun y1 => DCons l2 fun v4 l3 => DB v4 fun c2 => DNil l3 (Nw H3 (.obj (.cells #[.pointer none, .pointer none, .pointer none, .pointer none] 40)) fun b2 H4 => StA H4 (⟨b2, 0, none⟩ : Addr) y1 4 fun H5 => BIf (!c2) (K (.bool false) H5) (Ld H5 ((⟨b2, 0, none⟩ : Addr).add 2) fun v5 => DP v5 fun p1 => Ld H5 ((⟨b2, 0, none⟩ : Addr).add 3) fun v6 => DP v6 fun p2 => LdA H5 (⟨b1, 0, none⟩ : Addr) 2 fun l4 => Ld H5 ((⟨b2, 0, none⟩ : Addr).add 1) fun v7 => DP v7 fun p3 => HCalls Tryd.prog 17 #[.pointer p1, .pointer p2, .agg l4.toArray, .pointer p3, .int .i64 (4 : Int)] H5 fun v8 H6 => DTup v8 fun l5 => DCons l5 fun v9 l6 => DI .u32 v9 fun x4 => DCons l6 fun v10 l7 => DI .i64 v10 fun x5 => DNil l7 (Ld H6 ((⟨b2, 0, none⟩ : Addr).add 3) fun v11 => DP v11 fun p4 => LdA H6 (⟨b1, 0, none⟩ : Addr) 2 fun l8 => Ld H6 ((⟨b2, 0, none⟩ : Addr).add 1) fun v12 => DP v12 fun p5 => HCalls Tryd.prog 17 #[.pointer none, .pointer p4, .agg l8.toArray, .pointer p5, .int .i64 (4 : Int)] H6 fun v13 H7 => DTup v13 fun l9 => DCons l9 fun v14 l10 => DI .u32 v14 fun x6 => DCons l10 fun v15 l11 => DI .i64 v15 fun x7 => DNil l11 (BIf (x7 != (1 : Int)) (K (.bool false) H7) (Ld H7 ((⟨b2, 0, none⟩ : Addr).add 1) fun v16 => DP v16 fun p6 => NN p6 fun a1 => HCalls Tryd.prog 18 #[.pointer (some (a1.add 0))] H7 fun v17 H8 => DI .i64 v17 fun x8 => BIf (x8 != (0 : Int)) (K (.bool false) H8) (LdA H8 (⟨b1, 0, none⟩ : Addr) 2 fun l12 => HCalls Tryd.prog 15 #[.agg l12.toArray] H8 fun v18 H9 => DB v18 fun c3 => BIf (!c3) (BIf (x5 == (19 : Int)) (K (.bool (x4 == (0 : Int))) H9) (K (.bool false) H9)) (Ld H9 ((⟨b1, 0, none⟩ : Addr).add 0) fun v19 => DI .i64 v19 fun x9 => Ld H9 ((⟨b1, 0, none⟩ : Addr).add 1) fun v20 => DI .i64 v20 fun x10 => BIf ((IntKind.i64.wrap (x9 * x10)) != ((n1 : Nat) : Int)) (BIf (x5 == (19 : Int)) (K (.bool (x4 == (0 : Int))) H9) (K (.bool false) H9)) (Ld H9 ((⟨b1, 0, none⟩ : Addr).add 0) fun v21 => DI .i64 v21 fun x11 => BIf (decide ((IntKind.i64.wrap ((1 : Int) + (Int.tmod (IntKind.i64.wrap x3) (600 : Int)))) < (IntKind.i64.wrap (x11 + (4 : Int))))) (BIf (x5 == (6 : Int)) (K (.bool (x4 == (0 : Int))) H9) (K (.bool false) H9)) (((4 : Int) ≠ 0 ∧ IntKind.i64 = IntKind.i64 ∧ Ld H9 ((⟨b2, 0, none⟩ : Addr).add 0) fun v22 => DP v22 fun p7 => HCalls Tryd.prog 19 #[.pointer p7, .int .i64 (1 : Int), .int .i64 ((n1 : Nat) : Int)] H9 fun v23 H10 => DTup v23 fun l13 => DCons l13 fun v24 l14 => DSl v24 fun A2 n2 m2 => DCons l14 fun v25 l15 => DB v25 fun c4 => DNil l15 (Ld H10 ((⟨b2, 0, none⟩ : Addr).add 0) fun v26 => DP v26 fun p8 => HCalls Tryd.prog 19 #[.pointer p8, .int .i64 (IntKind.i64.wrap ((IntKind.i64.wrap (Int.tdiv (IntKind.i64.wrap (((n1 : Nat) : Int) + (3 : Int))) (4 : Int))) + (1 : Int))), .int .i64 ((n1 : Nat) : Int)] H10 fun v27 H11 => DTup v27 fun l16 => DCons l16 fun v28 l17 => DSl v28 fun A3 n3 m3 => DCons l17 fun v29 l18 => DB v29 fun c5 => DNil l18 (LdA H11 (⟨b1, 0, none⟩ : Addr) 2 fun l19 => HCalls Tryd.prog 20 #[.slice A1 n1 m1, .agg l19.toArray] H11 fun v30 H12 => DSl v30 fun A4 n4 m4 => BIf (x5 != (0 : Int)) (K (.bool false) H12) (BIf (!c4) (K (.bool false) H12) (BIf (!c5) (K (.bool false) H12) (HCalls Tryd.prog 21 #[.slice A2 n2 m2, .slice A1 n1 m1] H12 fun v31 H13 => DB v31 fun c6 => BIf (!c6) (K (.bool false) H13) (HCalls Tryd.prog 21 #[.slice A3 n3 m3, .slice A4 n4 m4] H13 fun v32 H14 => DB v32 fun c7 => BIf (!c7) (K (.bool false) H14) (HCalls Tryd.prog 22 #[.slice A4 n4 m4] H14 fun v33 H15 => DI .u32 v33 fun x12 => BIf (x4 != x12) (K (.bool false) H15) (Ld H15 ((⟨b2, 0, none⟩ : Addr).add 1) fun v34 => DP v34 fun p9 => NN p9 fun a2 => HCalls Tryd.prog 23 #[.pointer (some (a2.add 0))] H15 fun v35 H16 => DI .i64 v35 fun x13 => BIf (decide (x13 > (IntKind.i64.wrap ((1 : Int) + (Int.tmod (IntKind.i64.wrap x3) (600 : Int)))))) (K (.bool false) H16) (Ld H16 ((⟨b1, 0, none⟩ : Addr).add 1) fun v36 => DI .i64 v36 fun x14 => BIf (decide ((IntKind.i64.wrap ((1 : Int) + (Int.tmod (IntKind.i64.wrap x3) (600 : Int)))) < (IntKind.i64.wrap (x14 + (4 : Int))))) (K (.bool true) H16) (Ld H16 ((⟨b2, 0, none⟩ : Addr).add 3) fun v37 => DP v37 fun p10 => Ld H16 ((⟨b2, 0, none⟩ : Addr).add 2) fun v38 => DP v38 fun p11 => Ld H16 ((⟨b1, 0, none⟩ : Addr).add 1) fun v39 => DI .i64 v39 fun x15 => Ld H16 ((⟨b1, 0, none⟩ : Addr).add 0) fun v40 => DI .i64 v40 fun x16 => Ld H16 ((⟨b2, 0, none⟩ : Addr).add 1) fun v41 => DP v41 fun p12 => HCalls Tryd.prog 17 #[.pointer p10, .pointer p11, .agg #[.int .i64 x15, .int .i64 x16], .pointer p12, .int .i64 (4 : Int)] H16 fun v42 H17 => DTup v42 fun l20 => DCons l20 fun v43 l21 => DI .u32 v43 fun x17 => DCons l21 fun v44 l22 => DI .i64 v44 fun x18 => DNil l22 (Ld H17 ((⟨b2, 0, none⟩ : Addr).add 0) fun v45 => DP v45 fun p13 => HCalls Tryd.prog 19 #[.pointer p13, .int .i64 (1 : Int), .int .i64 ((n1 : Nat) : Int)] H17 fun v46 H18 => DTup v46 fun l23 => DCons l23 fun v47 l24 => DSl v47 fun A5 n5 m5 => DCons l24 fun v48 l25 => DB v48 fun c8 => DNil l25 (BIf (x18 == (0 : Int)) (BIf c8 (HCalls Tryd.prog 21 #[.slice A5 n5 m5, .slice A1 n1 m1] H18 fun v49 H19 => DB v49 fun c9 => BIf c9 (HCalls Tryd.prog 22 #[.slice A1 n1 m1] H19 fun v50 H20 => DI .u32 v50 fun x19 => K (.bool (x17 == x19)) H20) (K (.bool false) H19)) (K (.bool false) H18)) (K (.bool false) H18)))))))))))))))))))))))))))
def W_abacistlaw22_TurnRuns.Λ (_ : Value → Hp → Prop) : Cuts := Cuts.none (fun _ => none)
theorem W_abacistlaw22_TurnRuns.ok (A1 : Option Addr) (n1 : Nat) (m1 : Nat) (x1 : Int) (x2 : Int) (x3 : Int) (H : Hp) (K : Value → Hp → Prop) (h : W_abacistlaw22_TurnRuns A1 n1 m1 x1 x2 x3 H K) : HCalls Tryd.prog 5 #[.slice A1 n1 m1, .agg #[.int .i64 x1, .int .i64 x2], .int .u16 x3] H K :=
  hcalls Tryd.func5 rfl (Nat.le_of_ble_eq_true rfl) (hw_safe (Λ := Cuts.none (fun _ => none)) mixWabacistlaw22 _ _ _ _ _ (Eq.mp (by kernel_rfl) h) (obs_none _ _ _ _ _))

-- abacistlaw22.TurnCosts
def W_abacistlaw22_TurnCosts (x1 : Int) (x2 : Int) (x3 : Int) (H : Hp) (K : Value → Hp → Prop) : Prop :=
  Nw H (.obj (.cells #[.int .i64 x1, .int .i64 x2] 29)) fun b1 H1 => HCalls Tryd.prog 13 #[] H1 fun v1 H2 => DB v1 fun c1 => BIf (!c1) (K (.bool false) H2) (((600 : Int) ≠ 0 ∧ IntKind.i64 = IntKind.i64 ∧ LdA H2 (⟨b1, 0, none⟩ : Addr) 2 fun l1 => HCalls Tryd.prog 24 #[.agg l1.toArray, .int .i64 (4 : Int), .int .i64 (IntKind.i64.wrap ((1 : Int) + (Int.tmod (IntKind.i64.wrap x3) (600 : Int))))] H2 fun v2 H3 => DTup v2 fun l2 => DCons l2 fun v3 l3 => DA v3 fun y1 => DCons l3 fun v4 l4 => DI .i64 v4 fun x4 => DNil l4 (Nw H3 (.obj (.cells #[.int .i64 (0 : Int), .int .i64 (0 : Int), .int .i64 (0 : Int)] 59)) fun b2 H4 => StA H4 (⟨b2, 0, none⟩ : Addr) y1 3 fun H5 => LdA H5 (⟨b1, 0, none⟩ : Addr) 2 fun l5 => HCalls Tryd.prog 15 #[.agg l5.toArray] H5 fun v5 H6 => DB v5 fun c2 => BIf (!c2) (BIf (x4 == (6 : Int)) (LdA H6 (⟨b2, 0, none⟩ : Addr) 3 fun l6 => EqV Tryd.prog .eql 59 (.agg l6.toArray) (.agg #[.int .i64 (0 : Int), .int .i64 (0 : Int), .int .i64 (0 : Int)]) fun c3 => K (.bool c3) H6) (K (.bool false) H6)) (Ld H6 ((⟨b1, 0, none⟩ : Addr).add 0) fun v6 => DI .i64 v6 fun x5 => BIf (decide ((IntKind.i64.wrap ((IntKind.i64.wrap ((1 : Int) + (Int.tmod (IntKind.i64.wrap x3) (600 : Int)))) - (4 : Int))) < x5)) (BIf (x4 == (6 : Int)) (LdA H6 (⟨b2, 0, none⟩ : Addr) 3 fun l7 => EqV Tryd.prog .eql 59 (.agg l7.toArray) (.agg #[.int .i64 (0 : Int), .int .i64 (0 : Int), .int .i64 (0 : Int)]) fun c4 => K (.bool c4) H6) (K (.bool false) H6)) (Ld H6 ((⟨b1, 0, none⟩ : Addr).add 0) fun v7 => DI .i64 v7 fun x6 => BIf (decide (x6 > (256 : Int))) (K (.bool true) H6) (Ld H6 ((⟨b1, 0, none⟩ : Addr).add 1) fun v8 => DI .i64 v8 fun x7 => Ld H6 ((⟨b1, 0, none⟩ : Addr).add 0) fun v9 => DI .i64 v9 fun x8 => (x8 ≠ 0 ∧ IntKind.i64 = IntKind.i64 ∧ BIf (decide (x7 > (IntKind.i64.wrap (Int.tdiv (256 : Int) x8)))) (K (.bool true) H6) (Ld H6 ((⟨b1, 0, none⟩ : Addr).add 0) fun v10 => DI .i64 v10 fun x9 => Ld H6 ((⟨b1, 0, none⟩ : Addr).add 1) fun v11 => DI .i64 v11 fun x10 => MkS Tryd.prog 22 (IntKind.i64.wrap (x9 * x10)) (IntKind.i64.wrap (x9 * x10)) H6 fun v12 H7 => DSl v12 fun A1 n1 m1 => HCalls Tryd.prog 16 #[.slice A1 n1 m1, .int .i64 (IntKind.i64.wrap ((1 : Int) + (Int.tmod (IntKind.i64.wrap x3) (600 : Int))))] H7 fun v13 H8 => DTup v13 fun l8 => DCons l8 fun v14 l9 => DA v14 fun y2 => DCons l9 fun v15 l10 => DB v15 fun c5 => DNil l10 (Nw H8 (.obj (.cells #[.pointer none, .pointer none, .pointer none, .pointer none] 40)) fun b3 H9 => StA H9 (⟨b3, 0, none⟩ : Addr) y2 4 fun H10 => BIf (!c5) (K (.bool false) H10) (BIf (x4 != (0 : Int)) (K (.bool false) H10) (Ld H10 ((⟨b3, 0, none⟩ : Addr).add 0) fun v16 => DP v16 fun p1 => NN p1 fun a1 => HCalls Tryd.prog 25 #[.pointer (some (a1.add 3))] H10 fun v17 H11 => DA v17 fun y3 => Nw H11 (.obj (.cells #[.int .i64 (0 : Int), .int .i64 (0 : Int), .int .i64 (0 : Int)] 59)) fun b4 H12 => StA H12 (⟨b4, 0, none⟩ : Addr) y3 3 fun H13 => Ld H13 ((⟨b3, 0, none⟩ : Addr).add 2) fun v18 => DP v18 fun p2 => Ld H13 ((⟨b3, 0, none⟩ : Addr).add 3) fun v19 => DP v19 fun p3 => LdA H13 (⟨b1, 0, none⟩ : Addr) 2 fun l11 => Ld H13 ((⟨b3, 0, none⟩ : Addr).add 1) fun v20 => DP v20 fun p4 => HCalls Tryd.prog 17 #[.pointer p2, .pointer p3, .agg l11.toArray, .pointer p4, .int .i64 (4 : Int)] H13 fun v21 H14 => DTup v21 fun l12 => DCons l12 fun v22 l13 => DI .u32 v22 fun x11 => DCons l13 fun v23 l14 => DI .i64 v23 fun x12 => DNil l14 (BIf (x12 != (0 : Int)) (K (.bool false) H14) (Ld H14 ((⟨b3, 0, none⟩ : Addr).add 0) fun v24 => DP v24 fun p5 => NN p5 fun a2 => HCalls Tryd.prog 25 #[.pointer (some (a2.add 3))] H14 fun v25 H15 => DA v25 fun y4 => Nw H15 (.obj (.cells #[.int .i64 (0 : Int), .int .i64 (0 : Int), .int .i64 (0 : Int)] 59)) fun b5 H16 => StA H16 (⟨b5, 0, none⟩ : Addr) y4 3 fun H17 => Ld H17 ((⟨b5, 0, none⟩ : Addr).add 0) fun v26 => DI .i64 v26 fun x13 => Ld H17 ((⟨b4, 0, none⟩ : Addr).add 0) fun v27 => DI .i64 v27 fun x14 => Ld H17 ((⟨b2, 0, none⟩ : Addr).add 0) fun v28 => DI .i64 v28 fun x15 => BIf ((IntKind.i64.wrap (x13 - x14)) == x15) (Ld H17 ((⟨b5, 0, none⟩ : Addr).add 1) fun v29 => DI .i64 v29 fun x16 => Ld H17 ((⟨b4, 0, none⟩ : Addr).add 1) fun v30 => DI .i64 v30 fun x17 => Ld H17 ((⟨b2, 0, none⟩ : Addr).add 1) fun v31 => DI .i64 v31 fun x18 => BIf ((IntKind.i64.wrap (x16 - x17)) == x18) (Ld H17 ((⟨b5, 0, none⟩ : Addr).add 2) fun v32 => DI .i64 v32 fun x19 => Ld H17 ((⟨b4, 0, none⟩ : Addr).add 2) fun v33 => DI .i64 v33 fun x20 => K (.bool (x19 == x20)) H17) (K (.bool false) H17)) (K (.bool false) H17))))))))))))))
def W_abacistlaw22_TurnCosts.Λ (_ : Value → Hp → Prop) : Cuts := Cuts.none (fun _ => none)
theorem W_abacistlaw22_TurnCosts.ok (x1 : Int) (x2 : Int) (x3 : Int) (H : Hp) (K : Value → Hp → Prop) (h : W_abacistlaw22_TurnCosts x1 x2 x3 H K) : HCalls Tryd.prog 6 #[.agg #[.int .i64 x1, .int .i64 x2], .int .u16 x3] H K :=
  hcalls Tryd.func6 rfl (Nat.le_of_ble_eq_true rfl) (hw_safe (Λ := Cuts.none (fun _ => none)) mixWabacistlaw22 _ _ _ _ _ (Eq.mp (by kernel_rfl) h) (obs_none _ _ _ _ _))

-- abacistlaw22.awake
def W_abacistlaw22_awake (H : Hp) (K : Value → Hp → Prop) : Prop :=
  Nw H (.row [.int .u64 (1 : Int), .int .u64 (2 : Int), .int .u64 (3 : Int), .int .u64 (4 : Int)] 22 4) fun b1 H1 => HCalls Tryd.prog 16 #[.slice (some ⟨b1, 0, none⟩) 4 4, .int .i64 (40 : Int)] H1 fun v1 H2 => DTup v1 fun l1 => DCons l1 fun v2 l2 => DA v2 fun y1 => DCons l2 fun v3 l3 => DB v3 fun c1 => DNil l3 (Nw H2 (.obj (.cells #[.pointer none, .pointer none, .pointer none, .pointer none] 40)) fun b2 H3 => StA H3 (⟨b2, 0, none⟩ : Addr) y1 4 fun H4 => BIf (!c1) (K (.bool false) H4) (Ld H4 ((⟨b2, 0, none⟩ : Addr).add 2) fun v4 => DP v4 fun p1 => Ld H4 ((⟨b2, 0, none⟩ : Addr).add 3) fun v5 => DP v5 fun p2 => Ld H4 ((⟨b2, 0, none⟩ : Addr).add 1) fun v6 => DP v6 fun p3 => HCalls Tryd.prog 17 #[.pointer p1, .pointer p2, .agg #[.int .i64 (2 : Int), .int .i64 (2 : Int)], .pointer p3, .int .i64 (4 : Int)] H4 fun v7 H5 => DTup v7 fun l4 => DCons l4 fun v8 l5 => DI .u32 v8 fun x1 => DCons l5 fun v9 l6 => DI .i64 v9 fun x2 => DNil l6 (Ld H5 ((⟨b2, 0, none⟩ : Addr).add 0) fun v10 => DP v10 fun p4 => HCalls Tryd.prog 19 #[.pointer p4, .int .i64 (2 : Int), .int .i64 (4 : Int)] H5 fun v11 H6 => DTup v11 fun l7 => DCons l7 fun v12 l8 => DSl v12 fun A1 n1 m1 => DCons l8 fun v13 l9 => DB v13 fun c2 => DNil l9 (BIf (x2 == (0 : Int)) (BIf c2 (HCalls Tryd.prog 22 #[.slice A1 n1 m1] H6 fun v14 H7 => DI .u32 v14 fun x3 => BIf (x1 == x3) (Nw H7 (.row [.int .u64 (1 : Int), .int .u64 (3 : Int), .int .u64 (2 : Int), .int .u64 (4 : Int)] 22 4) fun b3 H8 => HCalls Tryd.prog 21 #[.slice A1 n1 m1, .slice (some ⟨b3, 0, none⟩) 4 4] H8 fun v15 H9 => DB v15 fun c3 => K (.bool c3) H9) (K (.bool false) H7)) (K (.bool false) H6)) (K (.bool false) H6)))))
def W_abacistlaw22_awake.Λ (_ : Value → Hp → Prop) : Cuts := Cuts.none (fun _ => none)
theorem W_abacistlaw22_awake.ok (H : Hp) (K : Value → Hp → Prop) (h : W_abacistlaw22_awake H K) : HCalls Tryd.prog 13 #[] H K :=
  hcalls Tryd.func13 rfl (Nat.le_of_ble_eq_true rfl) (hw_safe (Λ := Cuts.none (fun _ => none)) mixWabacistlaw22 _ _ _ _ _ (Eq.mp (by kernel_rfl) h) (obs_none _ _ _ _ _))

-- abacistlaw22.Make
def W_abacistlaw22_Make (A1 : Option Addr) (n1 : Nat) (m1 : Nat) (x1 : Int) (H : Hp) (K : Value → Hp → Prop) : Prop :=
  Nw H (.obj (.cells #[.pointer none, .pointer none, .pointer none, .pointer none] 40)) fun b1 H1 => ((4 : Int) ≠ 0 ∧ IntKind.i64 = IntKind.i64 ∧ HCalls Tryd.prog 43 #[.int .i64 (IntKind.i64.wrap ((IntKind.i64.wrap ((2 : Int) * (IntKind.i64.wrap (Int.tdiv (IntKind.i64.wrap (((n1 : Nat) : Int) + (3 : Int))) (4 : Int))))) + (1 : Int))), .int .i64 (32 : Int)] H1 fun v1 H2 => DP v1 fun p1 => HCalls Tryd.prog 44 #[.int .i64 x1] H2 fun v2 H3 => DP v2 fun p2 => HCalls Tryd.prog 44 #[.int .i64 (4 : Int)] H3 fun v3 H4 => DP v3 fun p3 => Nw H4 (.obj (.cells #[.pointer none, .pointer none, .pointer none, .pointer none] 40)) fun b2 H5 => StA H5 (⟨b2, 0, none⟩ : Addr) #[.pointer p1, .pointer p2, .pointer none, .pointer none] 4 fun H6 => BIf p1.isNone (LdA H6 (⟨b2, 0, none⟩ : Addr) 4 fun l1 => StA H6 (⟨b1, 0, none⟩ : Addr) l1.toArray 4 fun H7 => LdA H7 (⟨b1, 0, none⟩ : Addr) 4 fun l18 => K (.tuple #[.agg l18.toArray, .bool false]) H7) (BIf p2.isNone (LdA H6 (⟨b2, 0, none⟩ : Addr) 4 fun l2 => StA H6 (⟨b1, 0, none⟩ : Addr) l2.toArray 4 fun H8 => LdA H8 (⟨b1, 0, none⟩ : Addr) 4 fun l19 => K (.tuple #[.agg l19.toArray, .bool false]) H8) (BIf p3.isNone (LdA H6 (⟨b2, 0, none⟩ : Addr) 4 fun l3 => StA H6 (⟨b1, 0, none⟩ : Addr) l3.toArray 4 fun H9 => LdA H9 (⟨b1, 0, none⟩ : Addr) 4 fun l20 => K (.tuple #[.agg l20.toArray, .bool false]) H9) (HCalls Tryd.prog 45 #[.pointer p1, .pointer p3, .agg #[.int .i64 (1 : Int), .int .i64 (IntKind.i64.wrap (Int.tdiv (IntKind.i64.wrap (((n1 : Nat) : Int) + (3 : Int))) (4 : Int))), .int .i64 ((n1 : Nat) : Int)]] H6 fun v4 H10 => DTup v4 fun l4 => DCons l4 fun v5 l5 => DP v5 fun p4 => DCons l5 fun v6 l6 => DI .i64 v6 fun x2 => DNil l6 (HCalls Tryd.prog 45 #[.pointer p1, .pointer p2, .agg #[.int .i64 (1 : Int), .int .i64 (IntKind.i64.wrap (Int.tdiv (IntKind.i64.wrap (((n1 : Nat) : Int) + (3 : Int))) (4 : Int))), .int .i64 ((n1 : Nat) : Int)]] H10 fun v7 H11 => DTup v7 fun l7 => DCons l7 fun v8 l8 => DP v8 fun p5 => DCons l8 fun v9 l9 => DI .i64 v9 fun x3 => DNil l9 (HCalls Tryd.prog 45 #[.pointer p1, .pointer p2, .agg #[.int .i64 (IntKind.i64.wrap ((IntKind.i64.wrap (Int.tdiv (IntKind.i64.wrap (((n1 : Nat) : Int) + (3 : Int))) (4 : Int))) + (1 : Int))), .int .i64 (IntKind.i64.wrap (Int.tdiv (IntKind.i64.wrap (((n1 : Nat) : Int) + (3 : Int))) (4 : Int))), .int .i64 ((n1 : Nat) : Int)]] H11 fun v10 H12 => DTup v10 fun l10 => DCons l10 fun v11 l11 => DP v11 fun p6 => DCons l11 fun v12 l12 => DI .i64 v12 fun x4 => DNil l12 (BIf (x2 != (0 : Int)) (LdA H12 (⟨b2, 0, none⟩ : Addr) 4 fun l13 => StA H12 (⟨b1, 0, none⟩ : Addr) l13.toArray 4 fun H14 => LdA H14 (⟨b1, 0, none⟩ : Addr) 4 fun l21 => K (.tuple #[.agg l21.toArray, .bool false]) H14) (BIf (x3 != (0 : Int)) (LdA H12 (⟨b2, 0, none⟩ : Addr) 4 fun l14 => StA H12 (⟨b1, 0, none⟩ : Addr) l14.toArray 4 fun H15 => LdA H15 (⟨b1, 0, none⟩ : Addr) 4 fun l22 => K (.tuple #[.agg l22.toArray, .bool false]) H15) (BIf (x4 != (0 : Int)) (LdA H12 (⟨b2, 0, none⟩ : Addr) 4 fun l15 => StA H12 (⟨b1, 0, none⟩ : Addr) l15.toArray 4 fun H16 => LdA H16 (⟨b1, 0, none⟩ : Addr) 4 fun l23 => K (.tuple #[.agg l23.toArray, .bool false]) H16) (HCalls Tryd.prog 46 #[.pointer p4, .int .i64 (0 : Int), .slice A1 n1 m1] H12 fun v13 H13 => DI .i64 v13 fun x5 => BIf (x5 != (0 : Int)) (LdA H13 (⟨b2, 0, none⟩ : Addr) 4 fun l16 => StA H13 (⟨b1, 0, none⟩ : Addr) l16.toArray 4 fun H17 => LdA H17 (⟨b1, 0, none⟩ : Addr) 4 fun l24 => K (.tuple #[.agg l24.toArray, .bool false]) H17) (St H13 (((⟨b2, 0, none⟩ : Addr).add 2).add 0) (.pointer p5) fun H18 => St H18 (((⟨b2, 0, none⟩ : Addr).add 3).add 0) (.pointer p6) fun H19 => LdA H19 (⟨b2, 0, none⟩ : Addr) 4 fun l17 => StA H19 (⟨b1, 0, none⟩ : Addr) l17.toArray 4 fun H20 => LdA H20 (⟨b1, 0, none⟩ : Addr) 4 fun l25 => K (.tuple #[.agg l25.toArray, .bool true]) H20)))))))))))
def W_abacistlaw22_Make.Λ (_ : Value → Hp → Prop) : Cuts := Cuts.none (fun _ => none)
theorem W_abacistlaw22_Make.ok (A1 : Option Addr) (n1 : Nat) (m1 : Nat) (x1 : Int) (H : Hp) (K : Value → Hp → Prop) (h : W_abacistlaw22_Make A1 n1 m1 x1 H K) : HCalls Tryd.prog 16 #[.slice A1 n1 m1, .int .i64 x1] H K :=
  hcalls Tryd.func16 rfl (Nat.le_of_ble_eq_true rfl) (hw_safe (Λ := Cuts.none (fun _ => none)) mixWabacistlaw22 _ _ _ _ _ (Eq.mp (by kernel_rfl) h) (obs_none _ _ _ _ _))

-- abacistlaw22.Words
def W_abacistlaw22_Words (p1 : Option Addr) (x1 : Int) (x2 : Int) (H : Hp) (K : Value → Hp → Prop) : Prop :=
  HCalls Tryd.prog 44 #[.int .i64 (4 : Int)] H fun v1 H1 => DP v1 fun p2 => ((4 : Int) ≠ 0 ∧ IntKind.i64 = IntKind.i64 ∧ HCalls Tryd.prog 45 #[.pointer p1, .pointer p2, .agg #[.int .i64 x1, .int .i64 (IntKind.i64.wrap (Int.tdiv (IntKind.i64.wrap (x2 + (3 : Int))) (4 : Int))), .int .i64 x2]] H1 fun v2 H2 => DTup v2 fun l1 => DCons l1 fun v3 l2 => DP v3 fun p3 => DCons l2 fun v4 l3 => DI .i64 v4 fun x3 => DNil l3 (MkS Tryd.prog 22 x2 x2 H2 fun v5 H3 => DSl v5 fun A1 n1 m1 => BIf (x3 != (0 : Int)) (K (.tuple #[.slice none 0 0, .bool false]) H3) (HCalls Tryd.prog 55 #[.pointer p3, .int .i64 (0 : Int), .slice A1 n1 m1] H3 fun v6 H4 => DI .i64 v6 fun x4 => BIf (x4 != (0 : Int)) (K (.tuple #[.slice none 0 0, .bool false]) H4) (K (.tuple #[.slice A1 n1 m1, .bool true]) H4))))
def W_abacistlaw22_Words.Λ (_ : Value → Hp → Prop) : Cuts := Cuts.none (fun _ => none)
theorem W_abacistlaw22_Words.ok (p1 : Option Addr) (x1 : Int) (x2 : Int) (H : Hp) (K : Value → Hp → Prop) (h : W_abacistlaw22_Words p1 x1 x2 H K) : HCalls Tryd.prog 19 #[.pointer p1, .int .i64 x1, .int .i64 x2] H K :=
  hcalls Tryd.func19 rfl (Nat.le_of_ble_eq_true rfl) (hw_safe (Λ := Cuts.none (fun _ => none)) mixWabacistlaw22 _ _ _ _ _ (Eq.mp (by kernel_rfl) h) (obs_none _ _ _ _ _))

end Go.Proofs.YtgkdkemhiglpdaaDoor.W

end
section
/-! TrnE -/
/- Law 22: a pair of pipes, a pipe's words, and the law's first look. -/
set_option maxRecDepth 100000
set_option linter.unusedSimpArgs false
set_option linter.unusedVariables false
set_option linter.unnecessarySimpa false
set_option linter.unusedSectionVars false
namespace Go.Proofs.YtgkdkemhiglpdaaDoor.Trn
open Go Go.Hw Go.Crc Go.Form Go.Proofs.YtgkdkemhiglpdaaDoor.W Go.Proofs.YtgkdkemhiglpdaaDoor.Shp Go.Proofs.YtgkdkemhiglpdaaDoor.Str Go.Proofs.YtgkdkemhiglpdaaDoor.Dsk Go.Proofs.YtgkdkemhiglpdaaDoor.Are

theorem Same_loop (H : Hp) (A B : Option Addr) (n m m' : Nat) (ws : List UInt64) (hn : n = ws.length) (hl : n ≤ 1000000000) (ha : Cells H A (wordVals ws)) (hb : Cells H B (wordVals ws)) :
    ∀ (t i : Nat), i + t = n → W_abacistref04_Same.l4 (RetE (.bool true) H) (t + 1) A n m B n m' (i : Int) H
  | 0, i, h => by
    unfold W_abacistref04_Same.l4
    exact BIf_dneg (by omega) (RetE.mk _ _)
  | t + 1, i, h => by
    unfold W_abacistref04_Same.l4
    refine BIf_dpos (by omega) ?_
    have hg : (wordVals ws)[i]? = some (.int .u64 ((ws[i]'(by omega)).toNat : Int)) := by
      rw [wordVals_get, List.getElem?_eq_getElem (by omega)]; rfl
    refine ha.read hg rfl (by rw [wordVals_length]; omega) ?_
    simp only [DI_int', DB_bool, DS_string, DP_pointer, DSl_slice, DM_map, DA_agg, DTup_tuple, DCons_cons, DNil_nil, NN_some, BIf_true, BIf_false, BIf_same, List.toList_toArray, Bool.not_true, Bool.not_false]
    refine hb.read hg rfl (by rw [wordVals_length]; omega) ?_
    simp only [DI_int', DB_bool, DS_string, DP_pointer, DSl_slice, DM_map, DA_agg, DTup_tuple, DCons_cons, DNil_nil, NN_some, BIf_true, BIf_false, BIf_same, List.toList_toArray, Bool.not_true, Bool.not_false]
    refine BIf_bnen rfl ?_
    rw [i64w (x := (i : Int) + 1) (by omega) (by omega)]
    exact Same_loop H A B n m m' ws hn hl ha hb t (i + 1) (by omega)
theorem Same_ok (A B : Option Addr) (n m m' : Nat) (ws : List UInt64) (hn : n = ws.length) (hl : n ≤ 1000000000) (H : Hp) (ha : Cells H A (wordVals ws)) (hb : Cells H B (wordVals ws)) :
    HCalls Tryd.prog 21 #[.slice A n m, .slice B n m'] H (RetE (.bool true) H) := by
  apply W_abacistref04_Same.ok
  unfold W_abacistref04_Same
  refine BIf_bnen rfl ⟨n + 1, ?_⟩
  exact Same_loop H A B n m m' ws hn hl ha hb n 0 (by omega)

theorem zeros_u64 (n : Nat) : zeroRow [Value.int .u64 0] n = wordVals (List.replicate n 0) := by
  rw [zeroRow_one]
  unfold wordVals
  rw [List.map_replicate]; rfl
theorem zeros_set (n : Nat) (ws : List UInt64) (h : ws.length = n) : setAt (wordVals (List.replicate n 0)) 0 (wordVals ws) = wordVals ws := by
  rw [setW_vals]
  unfold setW
  rw [List.take_zero, List.nil_append, List.drop_eq_nil_of_le (by simp; omega), List.append_nil]

/-- A pair's disk. -/
structure MadeD (d : D) (k n : Nat) : Prop where
  ok : Ok d
  down : d.down = false
  fuse : d.fuse = 0
  cnt : d.rd ≤ 100000000 ∧ d.wr ≤ 100000000
  sec : d.sec = 2 * k + 1
  size : d.size = 32
theorem MadeD.per {d : D} {k n : Nat} (h : MadeD d k n) : D.per d = 4 := by unfold D.per; rw [h.size]
theorem MadeD.calm {d : D} {k n : Nat} (h : MadeD d k n) : Str.Calm d := ⟨h.down, h.fuse⟩

def xP (n : Nat) : X := ⟨1, (n + 3) / 4, n⟩
def xQ (n : Nat) : X := ⟨(n + 3) / 4 + 1, (n + 3) / 4, n⟩
theorem MadeD.onP {d : D} {n : Nat} (h : MadeD d ((n + 3) / 4) n) (h1 : 1 ≤ n) : On d (xP n) :=
  ⟨h1, by show 1 ≤ (n + 3) / 4; omega, by rw [h.sec]; show 1 + (n + 3) / 4 ≤ _; omega, by rw [h.per]; show n ≤ (n + 3) / 4 * 4; omega⟩
theorem MadeD.onQ {d : D} {n : Nat} (h : MadeD d ((n + 3) / 4) n) (h1 : 1 ≤ n) : On d (xQ n) :=
  ⟨h1, by show 1 ≤ (n + 3) / 4; omega, by rw [h.sec]; show (n + 3) / 4 + 1 + (n + 3) / 4 ≤ _; omega, by rw [h.per]; show n ≤ (n + 3) / 4 * 4; omega⟩

theorem MadeD.prog {S : Int → Prop} {d d' : D} {k n r w : Nat} (h : MadeD d k n) (hp : Prog S d d' r w) (hc : d'.rd ≤ 100000000 ∧ d'.wr ≤ 100000000) : MadeD d' k n :=
  ⟨hp.ok, hp.down, by rw [hp.fuse, h.fuse]; omega, hc, by rw [hp.sec, h.sec], by rw [hp.size, h.size]⟩
theorem MadeD.rdN {d : D} {k n : Nat} (h : MadeD d k n) (t : Nat) (hc : d.rd + t ≤ 100000000) : MadeD (D.rdN d t) k n :=
  ⟨Ok.rdN h.ok t, h.down, h.fuse, ⟨hc, h.cnt.2⟩, h.sec, h.size⟩

section
variable {A : Option Addr} {n m : Nat} {R : As}

theorem Make_tr (l : List UInt64) (hn : n = l.length) (h1 : 1 ≤ n) (h2 : n ≤ 1000) (hm : n ≤ m) (room : Nat) (hr : 1 ≤ room ∧ room ≤ 1000) (hR : ∀ H, R H → Cells H A (wordVals l)) :
    Tr Tryd.prog 16 #[.slice A n m, .int .i64 (room : Int)] [R] fun v M =>
      ∃ dp ap p q d, v = .tuple #[.agg #[.pointer (some ⟨dp, 0, none⟩), .pointer (some ⟨ap, 0, none⟩), .pointer (some ⟨p, 0, none⟩), .pointer (some ⟨q, 0, none⟩)], .bool true] ∧
        MadeD d ((n + 3) / 4) n ∧ d.rd ≤ n ∧ d.wr ≤ n ∧ (∀ j, j < n → pw d (xP n) j = (l[j]?).getD 0) ∧
        M = [pts p (pipO dp ap (xP n)), pts q (pipO dp ap (xQ n)), Dk dp d, Ar ap room 0 [], R] := fun H hs => by
  apply W_abacistlaw22_Make.ok
  unfold W_abacistlaw22_Make
  have eL : IntKind.i64.wrap (Int.tdiv (IntKind.i64.wrap ((n : Int) + 3)) 4) = (((n + 3) / 4 : Nat) : Int) := by
    rw [i64w (x := (n : Int) + 3) (by omega) (by omega), show (n : Int) + 3 = ((n + 3 : Nat) : Int) by omega, show Int.tdiv ((n + 3 : Nat) : Int) 4 = (((n + 3) / 4 : Nat) : Int) from rfl, i64n (by omega)]
  simp only [eL]
  have e2 : IntKind.i64.wrap (IntKind.i64.wrap ((2 : Int) * (((n + 3) / 4 : Nat) : Int)) + 1) = ((2 * ((n + 3) / 4) + 1 : Nat) : Int) := by
    rw [i64w (x := 2 * (((n + 3) / 4 : Nat) : Int)) (by omega) (by omega), i64w (by omega) (by omega)]; omega
  have e3 : IntKind.i64.wrap ((((n + 3) / 4 : Nat) : Int) + 1) = (((n + 3) / 4 + 1 : Nat) : Int) := by
    rw [i64w (by omega) (by omega)]; omega
  simp only [e2, e3]
  have hokF : Ok (D.fresh (2 * ((n + 3) / 4) + 1) 32) := fresh_ok (by omega)
  have hMF : MadeD (D.fresh (2 * ((n + 3) / 4) + 1) 32) ((n + 3) / 4) n := ⟨hokF, rfl, rfl, ⟨Nat.zero_le _, Nat.zero_le _⟩, rfl, rfl⟩
  have hx := hMF.onP h1
  have hy := hMF.onQ h1
  refine hs.nw fun b1 H hs => ⟨by decide, by simp, ?_⟩
  refine (Dsk.New_tr (2 * ((n + 3) / 4) + 1) 32 (by omega) (by decide) (by omega)).use hs [] rfl rfl ?_
  rintro _ _ H ⟨dp, rfl, rfl⟩ hs
  simp only [DI_int', DB_bool, DS_string, DP_pointer, DSl_slice, DM_map, DA_agg, DTup_tuple, DCons_cons, DNil_nil, NN_some, BIf_true, BIf_false, BIf_same, List.toList_toArray, Bool.not_true, Bool.not_false]
  refine (Are.New_tr (room : Int) (by omega)).use hs [] rfl rfl ?_
  rintro _ _ H ⟨ap, rfl, rfl⟩ hs
  simp only [DI_int', DB_bool, DS_string, DP_pointer, DSl_slice, DM_map, DA_agg, DTup_tuple, DCons_cons, DNil_nil, NN_some, BIf_true, BIf_false, BIf_same, List.toList_toArray, Bool.not_true, Bool.not_false]
  refine (Are.New_tr 4 (by omega)).use hs [] rfl rfl ?_
  rintro _ _ H ⟨bp, rfl, rfl⟩ hs
  simp only [DI_int', DB_bool, DS_string, DP_pointer, DSl_slice, DM_map, DA_agg, DTup_tuple, DCons_cons, DNil_nil, NN_some, BIf_true, BIf_false, BIf_same, List.toList_toArray, Bool.not_true, Bool.not_false]
  refine hs.nw fun b2 H hs => ?_
  refine hs.stw 5 rfl rfl rfl rfl fun H hs => ?_
  refine BIf_neg rfl (BIf_neg rfl (BIf_neg rfl ?_))
  refine (New_tr (dp := dp) (ap := bp) hokF (xP n) hx).use hs [2] rfl rfl ?_
  rintro _ _ H ⟨o, rfl, rfl⟩ hs
  simp only [DI_int', DB_bool, DS_string, DP_pointer, DSl_slice, DM_map, DA_agg, DTup_tuple, DCons_cons, DNil_nil, NN_some, BIf_true, BIf_false, BIf_same, List.toList_toArray, Bool.not_true, Bool.not_false]
  refine (New_tr (dp := dp) (ap := ap) hokF (xP n) hx).use hs [0] rfl rfl ?_
  rintro _ _ H ⟨p, rfl, rfl⟩ hs
  simp only [DI_int', DB_bool, DS_string, DP_pointer, DSl_slice, DM_map, DA_agg, DTup_tuple, DCons_cons, DNil_nil, NN_some, BIf_true, BIf_false, BIf_same, List.toList_toArray, Bool.not_true, Bool.not_false]
  refine (New_tr (dp := dp) (ap := ap) hokF (xQ n) hy).use hs [0] rfl rfl ?_
  rintro _ _ H ⟨q, rfl, rfl⟩ hs
  simp only [DI_int', DB_bool, DS_string, DP_pointer, DSl_slice, DM_map, DA_agg, DTup_tuple, DCons_cons, DNil_nil, NN_some, BIf_true, BIf_false, BIf_same, List.toList_toArray, Bool.not_true, Bool.not_false]
  refine BIf_bnen rfl (BIf_bnen rfl (BIf_bnen rfl ?_))
  refine (Write_tr (p := o) (dp := dp) (ap := bp) (d := D.fresh (2 * ((n + 3) / 4) + 1) 32) (x := xP n) (cap := 4) (peak := 0) (bufs := []) (R := R) (A := A) (n := n) (m := m) (src := l) hokF (fresh_calm _) hx ⟨Nat.zero_le _, Nat.zero_le _⟩ 0 hn (by omega) (by show 0 + n ≤ n; omega) hm (by rw [fresh_per, sumB_nil]; omega) hR).use hs [3, 0, 4, 6] rfl rfl ?_
  rintro _ _ H ⟨rfl, rfl⟩ hs
  simp only [DI_int', DB_bool, DS_string, DP_pointer, DSl_slice, DM_map, DA_agg, DTup_tuple, DCons_cons, DNil_nil, NN_some, BIf_true, BIf_false, BIf_same, List.toList_toArray, Bool.not_true, Bool.not_false]
  refine BIf_bnen rfl ?_
  have W := wrs_wrote (xP n) n 0 (D.fresh (2 * ((n + 3) / 4) + 1) 32) l hokF (by omega)
  have hpl := pcs_len (D.per (D.fresh (2 * ((n + 3) / 4) + 1) 32)) (xP n).f n 0 l.length
  have hcl := List.length_filter_le (fun p : Nat × Nat × Nat => decide (p.2.2 < D.per (D.fresh (2 * ((n + 3) / 4) + 1) 32))) (pcs (D.per (D.fresh (2 * ((n + 3) / 4) + 1) 32)) (xP n).f n 0 l.length)
  have hrd : (wrs (D.fresh (2 * ((n + 3) / 4) + 1) 32) (xP n) n 0 l).rd ≤ n := by
    rw [W.rd]
    exact Nat.le_trans (Nat.add_le_add_left hcl _) (by show 0 + (pcs (D.per (D.fresh (2 * ((n + 3) / 4) + 1) 32)) (xP n).f n 0 l.length).length ≤ _; omega)
  have hwr : (wrs (D.fresh (2 * ((n + 3) / 4) + 1) 32) (xP n) n 0 l).wr ≤ n := by
    rw [W.wr]; show 0 + (pcs (D.per (D.fresh (2 * ((n + 3) / 4) + 1) 32)) (xP n).f n 0 l.length).length ≤ _; omega
  have hM : MadeD (wrs (D.fresh (2 * ((n + 3) / 4) + 1) 32) (xP n) n 0 l) ((n + 3) / 4) n :=
    ⟨W.ok, (W.calm (fresh_calm _)).down, (W.calm (fresh_calm _)).fuse, ⟨by omega, by omega⟩, W.sec, W.size⟩
  have hpw := W.pw
  clear W hcl hpl
  generalize wrs (D.fresh (2 * ((n + 3) / 4) + 1) 32) (xP n) n 0 l = d at *
  refine hs.stf 8 rfl (Nat.lt_of_sub_eq_succ rfl) rfl fun H hs => ?_
  refine hs.stf 8 rfl (Nat.lt_of_sub_eq_succ rfl) rfl fun H hs => ?_
  refine hs.ldw 8 rfl rfl ?_
  refine hs.stw 7 rfl rfl rfl rfl fun H hs => ?_
  refine hs.ldw 7 rfl rfl ?_
  refine ⟨_, ⟨dp, ap, p, q, d, rfl, hM, hrd, hwr, fun j hj => ?_, rfl⟩, hs.re [5, 4, 1, 6, 3] rfl⟩
  rw [hpw j, if_pos ⟨by omega, by omega⟩, Nat.sub_zero]

/-- A pipe's words. -/
theorem Words_tr {dp : Nat} {d : D} (f w : Nat) (hok : Ok d) (hc : Str.Calm d) (hx : On d ⟨f, (w + 3) / 4, w⟩) (hper : D.per d = 4) (ho : d.rd ≤ 100000000) :
    Tr Tryd.prog 19 #[.pointer (some ⟨dp, 0, none⟩), .int .i64 (f : Int), .int .i64 (w : Int)] [Dk dp d] fun v M =>
      ∃ b t, t ≤ w ∧ v = .tuple #[.slice (some ⟨b, 0, none⟩) w w, .bool true] ∧ M = [Dk dp (D.rdN d t), pts b (.row (wordVals (pws d ⟨f, (w + 3) / 4, w⟩ 0 w)) 22 (w * 1))] := fun H hs => by
  have hsec := hok.sec
  have hw1 : 1 ≤ w := hx.w1
  have hfit : f + (w + 3) / 4 ≤ d.sec := hx.fit
  apply W_abacistlaw22_Words.ok
  unfold W_abacistlaw22_Words
  have eL : IntKind.i64.wrap (Int.tdiv (IntKind.i64.wrap ((w : Int) + 3)) 4) = (((w + 3) / 4 : Nat) : Int) := by
    rw [i64w (x := (w : Int) + 3) (by omega) (by omega), show (w : Int) + 3 = ((w + 3 : Nat) : Int) by omega, show Int.tdiv ((w + 3 : Nat) : Int) 4 = (((w + 3) / 4 : Nat) : Int) from rfl, i64n (by omega)]
  simp only [eL]
  refine (Are.New_tr 4 (by omega)).use hs [] rfl rfl ?_
  rintro _ _ H ⟨ap, rfl, rfl⟩ hs
  simp only [DI_int', DB_bool, DS_string, DP_pointer, DSl_slice, DM_map, DA_agg, DTup_tuple, DCons_cons, DNil_nil, NN_some, BIf_true, BIf_false, BIf_same, List.toList_toArray, Bool.not_true, Bool.not_false]
  refine ⟨by decide, by simp, ?_⟩
  refine (New_tr (dp := dp) (ap := ap) hok ⟨f, (w + 3) / 4, w⟩ hx).use hs [1] rfl rfl ?_
  rintro _ _ H ⟨p, rfl, rfl⟩ hs
  simp only [DI_int', DB_bool, DS_string, DP_pointer, DSl_slice, DM_map, DA_agg, DTup_tuple, DCons_cons, DNil_nil, NN_some, BIf_true, BIf_false, BIf_same, List.toList_toArray, Bool.not_true, Bool.not_false]
  refine hs.mks cell_u64 rfl (n := w) (m := w) rfl rfl (Nat.le_refl _) (by omega) (by omega) fun b H hs => ?_
  simp only [DI_int', DB_bool, DS_string, DP_pointer, DSl_slice, DM_map, DA_agg, DTup_tuple, DCons_cons, DNil_nil, NN_some, BIf_true, BIf_false, BIf_same, List.toList_toArray, Bool.not_true, Bool.not_false]
  refine BIf_bnen rfl ?_
  have hs : Sep [Dk dp d, pts p (pipO dp ap ⟨f, (w + 3) / 4, w⟩), Ar ap 4 0 [], pts b (.row (wordVals (List.replicate w 0)) 22 (w * 1))] H := by rw [← zeros_u64]; exact hs
  refine (Read_tr (p := p) (dp := dp) (ap := ap) (d := d) (x := ⟨f, (w + 3) / 4, w⟩) (cap := 4) (bufs := []) (rl := b) (off := 0) (mm := w * 1) (xs := wordVals (List.replicate w 0)) hok hc hx (by omega) 0 w w (by omega) (by show 0 + w ≤ w; omega) (Nat.le_refl _) (by rw [wordVals_length, List.length_replicate]; omega) (by rw [hper, sumB_nil]; omega)).use hs [1, 0, 2, 3] rfl rfl ?_
  rintro _ _ H ⟨rfl, rfl⟩ hs
  simp only [DI_int', DB_bool, DS_string, DP_pointer, DSl_slice, DM_map, DA_agg, DTup_tuple, DCons_cons, DNil_nil, NN_some, BIf_true, BIf_false, BIf_same, List.toList_toArray, Bool.not_true, Bool.not_false]
  refine BIf_bnen rfl ?_
  rw [zeros_set w _ (pws_len _ _ _ _)] at hs
  exact ⟨_, ⟨b, (pcs (D.per d) f w 0 w).length, pcs_len _ _ _ _ _, rfl, rfl⟩, hs.re [1, 3] rfl⟩
end

end Go.Proofs.YtgkdkemhiglpdaaDoor.Trn

end
section
/-! TrnF -/
/- Law 22: a turn of a pair, and the law's first look. -/
set_option maxRecDepth 100000
set_option linter.unusedSimpArgs false
set_option linter.unusedVariables false
set_option linter.unnecessarySimpa false
set_option linter.unusedSectionVars false
namespace Go.Proofs.YtgkdkemhiglpdaaDoor.Trn
open Go Go.Hw Go.Crc Go.Form Go.Proofs.YtgkdkemhiglpdaaDoor.W Go.Proofs.YtgkdkemhiglpdaaDoor.Shp Go.Proofs.YtgkdkemhiglpdaaDoor.Str Go.Proofs.YtgkdkemhiglpdaaDoor.Dsk Go.Proofs.YtgkdkemhiglpdaaDoor.Are

theorem Dead.calm {S : Int → Prop} {d d' : D} (h : Dead S d d') (hf : d.fuse = 0) : False := by
  have h1 := h.cnt; have h2 := h.rd; have h3 := h.wr
  omega

theorem pws_map {d : D} {x : X} {n : Nat} {f : Nat → UInt64} (h : ∀ j, j < n → pw d x j = f j) : pws d x 0 n = (List.range n).map f := by
  unfold pws
  apply List.map_congr_left
  intro j hj
  rw [Nat.zero_add]
  exact h j (List.mem_range.1 hj)
theorem range_get (l : List UInt64) : (List.range l.length).map (fun j => (l[j]?).getD 0) = l := by
  apply List.ext_getElem?
  intro j
  rw [List.getElem?_map]
  by_cases hj : j < l.length
  · rw [List.getElem?_range hj, Option.map_some, List.getElem?_eq_getElem hj]; rfl
  · rw [List.getElem?_eq_none (by simp; omega), List.getElem?_eq_none (by omega)]; rfl

section
variable {p q dp ap : Nat} {x y : X} {cap peak : Int} {TT : As}

theorem RunM_tr {d : D} {n ea eb j : Nat} (hT : ∀ H, TT H → T64 H) (hM : MadeD d ((n + 3) / 4) n) (hx : On d x) (hy : On d y) (hc : d.rd ≤ 10000000 ∧ d.wr ≤ 10000000) (hn : n ≤ 1000) (hab : ea + eb ≤ 32) (hxw : x.w = 2 ^ ea * 2 ^ eb) (hyw : y.w = 2 ^ ea * 2 ^ eb) (hxn : x.w = n) (hdis : x.f + x.s ≤ y.f ∨ y.f + y.s ≤ x.f)
    (hcap : cap ≤ 1000000000000) (hj : BandIs ((2 ^ ea : Nat) : Int) ((2 ^ eb : Nat) : Int) 4 cap j) :
    Tr Tryd.prog 17 #[.pointer (some ⟨p, 0, none⟩), .pointer (some ⟨q, 0, none⟩), .agg #[.int .i64 ((2 ^ ea : Nat) : Int), .int .i64 ((2 ^ eb : Nat) : Int)], .pointer (some ⟨ap, 0, none⟩), .int .i64 4]
      [pts p (pipO dp ap x), pts q (pipO dp ap y), Dk dp d, Ar ap cap peak [], TT] fun v M => ∃ d', MadeD d' ((n + 3) / 4) n ∧ Prog (inX y) d d' (rT 4 x.f y.f (2 ^ ea) (2 ^ eb) (2 ^ j) (2 ^ eb / 2 ^ j)) (wT 4 y.f (2 ^ ea) (2 ^ j) (2 ^ eb / 2 ^ j)) ∧ d'.rd ≤ d.rd + 2 * n ∧ d'.wr ≤ d.wr + n ∧
        pws d' x 0 n = pws d x 0 n ∧ pws d' y 0 n = trW d x (2 ^ ea) (2 ^ eb) ∧
        v = .tuple #[.int .u32 ((sum (form (trW d x (2 ^ ea) (2 ^ eb)))).toNat : Int), .int .i64 0] ∧
        M = [pts p (pipO dp ap x), pts q (pipO dp ap y), Dk dp d', Ar ap cap (mx peak ((2 ^ j * 2 ^ ea : Nat) + 4)) [], TT] := fun H hs => by
  have hper := hM.per
  have e4 : ((D.per d : Nat) : Int) = 4 := by rw [hper]; rfl
  have hjb := hj.ge
  have hb := div_pow hjb
  have R := Run_tr (p := p) (q := q) (dp := dp) (ap := ap) (peak := peak) (bufs := []) (TT := TT) hT hM.ok hM.down hx hy ⟨by omega, by omega⟩ hab hxw hyw hdis (by rw [e4]; decide) hcap (by rw [sumB_nil]; omega) (by rw [e4, sumB_nil, Int.sub_zero]; exact hj) H hs
  rw [e4] at R
  refine R.mono ?_
  rintro v H' ⟨M, ⟨M0, hr | hr, rfl⟩, hM'⟩
  · obtain ⟨d', hI, rfl, rfl⟩ := hr
    have hpg := hI.pg
    rw [hper] at hpg
    have r1 := rT_le 4 x.f y.f (2 ^ ea) (2 ^ eb) (2 ^ j) (2 ^ eb / 2 ^ j)
    have r2 := wT_le 4 y.f (2 ^ ea) (2 ^ j) (2 ^ eb / 2 ^ j)
    have e1 : 2 ^ eb / 2 ^ j * (2 * (2 ^ j * 2 ^ ea)) = 2 * n := by
      rw [← hxn, hxw]
      calc 2 ^ eb / 2 ^ j * (2 * (2 ^ j * 2 ^ ea)) = 2 * ((2 ^ eb / 2 ^ j * 2 ^ j) * 2 ^ ea) := by rw [Nat.mul_left_comm, Nat.mul_assoc]
        _ = 2 * (2 ^ ea * 2 ^ eb) := by rw [← hb, Nat.mul_comm (2 ^ eb)]
    have e2 : 2 ^ eb / 2 ^ j * (2 ^ j * 2 ^ ea) = n := by
      rw [← hxn, hxw, ← Nat.mul_assoc, ← hb, Nat.mul_comm]
    have h1 := hpg.rd; have h2 := hpg.wr
    have hrd : d'.rd ≤ d.rd + 2 * n := by omega
    have hwr : d'.wr ≤ d.wr + n := by omega
    refine ⟨_, ⟨d', hM.prog hpg ⟨by omega, by omega⟩, hpg, hrd, hwr, ?_, ?_, rfl, rfl⟩, ?_⟩
    · rw [pws_map (f := pw d x) fun k hk => hI.src k (by omega), pws_map (f := pw d x) fun _ _ => rfl]
    · have e3 : n = 2 ^ ea * 2 ^ eb := by omega
      rw [pws_map (f := trK d x (2 ^ ea) (2 ^ eb)) fun k hk => hI.dst k (by
        rw [← hb, Nat.mul_comm, ← e3]; exact hk)]
      unfold trW
      rw [e3]
    · rw [sumB_nil, Int.zero_add, e4] at hM'
      exact hM'
  · obtain ⟨d', hd, _⟩ := hr
    exact (Dead.calm hd hM.fuse).elim
end

theorem awake_ok (H : Hp) (hT : T64 H) : HCalls Tryd.prog 13 #[] H (RetE (.bool true) H) := HCalls.ret (by
  apply W_abacistlaw22_awake.ok
  unfold W_abacistlaw22_awake
  refine (Sep.start H).nw fun b1 H1 hs => ?_
  have hs : Sep [own H, pts b1 (.row (wordVals [1, 2, 3, 4]) 22 4)] H1 := hs
  refine (Make_tr (A := some ⟨b1, 0, none⟩) (n := 4) (m := 4) (R := pts b1 (.row (wordVals [1, 2, 3, 4]) 22 4)) [1, 2, 3, 4] rfl (by omega) (by omega) (by omega) 40 (by omega) (fun H h => by
    have := Cells.row h 0 4
    exact this)).use hs [1] rfl rfl ?_
  rintro _ _ H1 ⟨dp, ap, p, q, d, rfl, hM, hrd, hwr, hw, rfl⟩ hs
  simp only [DI_int', DB_bool, DS_string, DP_pointer, DSl_slice, DM_map, DA_agg, DTup_tuple, DCons_cons, DNil_nil, NN_some, BIf_true, BIf_false, BIf_same, List.toList_toArray, Bool.not_true, Bool.not_false]
  refine hs.nw fun b2 H1 hs => ?_
  refine hs.stw 6 rfl rfl rfl rfl fun H1 hs => ?_
  first | refine hs.ldf 6 rfl rfl ?_ | refine hs.ldg 6 rfl rfl ?_
  try simp only [DI_int', DB_bool, DS_string, DP_pointer, DSl_slice, DM_map, DA_agg, DTup_tuple, DCons_cons, DNil_nil, NN_some, BIf_true, BIf_false, BIf_same, List.toList_toArray, Bool.not_true, Bool.not_false]
  first | refine hs.ldf 6 rfl rfl ?_ | refine hs.ldg 6 rfl rfl ?_
  try simp only [DI_int', DB_bool, DS_string, DP_pointer, DSl_slice, DM_map, DA_agg, DTup_tuple, DCons_cons, DNil_nil, NN_some, BIf_true, BIf_false, BIf_same, List.toList_toArray, Bool.not_true, Bool.not_false]
  first | refine hs.ldf 6 rfl rfl ?_ | refine hs.ldg 6 rfl rfl ?_
  try simp only [DI_int', DB_bool, DS_string, DP_pointer, DSl_slice, DM_map, DA_agg, DTup_tuple, DCons_cons, DNil_nil, NN_some, BIf_true, BIf_false, BIf_same, List.toList_toArray, Bool.not_true, Bool.not_false]
  refine (RunM_tr (p := p) (q := q) (dp := dp) (ap := ap) (x := xP 4) (y := xQ 4) (cap := 40) (peak := 0) (TT := own H) (d := d) (n := 4) (ea := 1) (eb := 1) (j := 1) (fun H' h => hT.le h) hM (hM.onP (by omega)) (hM.onQ (by omega)) ⟨by omega, by omega⟩ (by omega) (by omega) rfl rfl rfl (.inl (by decide)) (by omega) ⟨by decide, by decide, .inl (by decide)⟩).use hs [0, 1, 2, 3, 5] rfl rfl ?_
  rintro _ _ H1 ⟨d1, hM1, hpg, hrd1, hwr1, hP, hQ, rfl, rfl⟩ hs
  simp only [DI_int', DB_bool, DS_string, DP_pointer, DSl_slice, DM_map, DA_agg, DTup_tuple, DCons_cons, DNil_nil, NN_some, BIf_true, BIf_false, BIf_same, List.toList_toArray, Bool.not_true, Bool.not_false]
  first | refine hs.ldf 6 rfl rfl ?_ | refine hs.ldg 6 rfl rfl ?_
  try simp only [DI_int', DB_bool, DS_string, DP_pointer, DSl_slice, DM_map, DA_agg, DTup_tuple, DCons_cons, DNil_nil, NN_some, BIf_true, BIf_false, BIf_same, List.toList_toArray, Bool.not_true, Bool.not_false]
  refine (Words_tr (dp := dp) (d := d1) 2 4 hM1.ok hM1.calm (hM1.onQ (by omega)) hM1.per (by omega)).use hs [2] rfl rfl ?_
  rintro _ _ H1 ⟨b3, t, ht, rfl, rfl⟩ hs
  simp only [DI_int', DB_bool, DS_string, DP_pointer, DSl_slice, DM_map, DA_agg, DTup_tuple, DCons_cons, DNil_nil, NN_some, BIf_true, BIf_false, BIf_same, List.toList_toArray, Bool.not_true, Bool.not_false]
  refine BIf_beqp rfl ?_
  have hT4 : trW d (xP 4) (2 ^ 1) (2 ^ 1) = [1, 3, 2, 4] := by
    have e : trW d (xP 4) (2 ^ 1) (2 ^ 1) = [pw d (xP 4) 0, pw d (xP 4) 2, pw d (xP 4) 1, pw d (xP 4) 3] := rfl
    rw [e, hw 0 (by omega), hw 1 (by omega), hw 2 (by omega), hw 3 (by omega)]; rfl
  have hQ : pws d1 ⟨2, (4 + 3) / 4, 4⟩ 0 4 = [1, 3, 2, 4] := hQ.trans hT4
  rw [hQ] at hs
  rw [hT4]
  have hc : Cells H1 (some ⟨b3, 0, none⟩) (wordVals [1, 3, 2, 4]) := by
    have := Cells.row (hs.get 1 rfl) 0 4
    exact this
  refine HCalls.use (CrcP.rOfWords_ok (some ⟨b3, 0, none⟩) 4 4 [1, 3, 2, 4] rfl (by omega) H1 hc) ?_
  simp only [DI_int', DB_bool, DS_string, DP_pointer, DSl_slice, DM_map, DA_agg, DTup_tuple, DCons_cons, DNil_nil, NN_some, BIf_true, BIf_false, BIf_same, List.toList_toArray, Bool.not_true, Bool.not_false]
  refine BIf_beqp rfl ?_
  refine hs.nw fun b4 H1 hs => ?_
  have hc : Cells H1 (some ⟨b3, 0, none⟩) (wordVals [1, 3, 2, 4]) := by
    have := Cells.row (hs.get 1 rfl) 0 4
    exact this
  have hc2 : Cells H1 (some ⟨b4, 0, none⟩) (wordVals [1, 3, 2, 4]) := by
    have := Cells.row (hs.get 8 rfl) 0 4
    exact this
  refine HCalls.use (Same_ok (some ⟨b3, 0, none⟩) (some ⟨b4, 0, none⟩) 4 4 4 [1, 3, 2, 4] rfl (by omega) H1 hc hc2) ?_
  simp only [DI_int', DB_bool, DS_string, DP_pointer, DSl_slice, DM_map, DA_agg, DTup_tuple, DCons_cons, DNil_nil, NN_some, BIf_true, BIf_false, BIf_same, List.toList_toArray, Bool.not_true, Bool.not_false]
  exact hs.fin 5 rfl _)

end Go.Proofs.YtgkdkemhiglpdaaDoor.Trn

end
section
/-! TrnH -/
/- turn.Run where it can't; the reference's Transpose. -/
set_option maxRecDepth 100000
set_option linter.unusedSimpArgs false
set_option linter.unusedVariables false
set_option linter.unnecessarySimpa false
set_option linter.unusedSectionVars false
namespace Go.Proofs.YtgkdkemhiglpdaaDoor.Trn
open Go Go.Hw Go.Crc Go.Form Go.Proofs.YtgkdkemhiglpdaaDoor.W Go.Proofs.YtgkdkemhiglpdaaDoor.Shp Go.Proofs.YtgkdkemhiglpdaaDoor.Str Go.Proofs.YtgkdkemhiglpdaaDoor.Dsk Go.Proofs.YtgkdkemhiglpdaaDoor.Are

theorem Run_nil (p2 p3 : Option Addr) (r c x3 : Int) (H : Hp) : HCalls Tryd.prog 17 #[.pointer none, .pointer p2, .agg #[.int .i64 r, .int .i64 c], .pointer p3, .int .i64 x3] H (RetE (.tuple #[.int .u32 0, .int .i64 1]) H) := HCalls.ret (by
  apply W_turn_Run.ok
  unfold W_turn_Run
  refine (Sep.start H).nw fun b1 H1 hs => BIf_pos rfl (hs.fin 0 rfl _))

section
variable {p q dp ap : Nat} {x y : X} {cap peak : Int} {bufs : List (Nat × Nat × Option Addr)} {L : List As} {H : Hp}

theorem Run_odd (hs : Sep L H) (hT : T64 H) (i : Nat) (hi : L[i]? = some (pts p (pipO dp ap x))) (q ap' : Nat) (r c x3 : Int) (hr : -9223372036854775808 ≤ r ∧ r ≤ 9223372036854775807) (hno : ¬ (goodS r c = true ∧ (x.w : Int) = r * c)) (hxw : 1 ≤ x.w) :
    HCalls Tryd.prog 17 #[.pointer (some ⟨p, 0, none⟩), .pointer (some ⟨q, 0, none⟩), .agg #[.int .i64 r, .int .i64 c], .pointer (some ⟨ap', 0, none⟩), .int .i64 x3] H (RetE (.tuple #[.int .u32 0, .int .i64 19]) H) := HCalls.ret (by
  have hp := hs.get i hi
  apply W_turn_Run.ok
  unfold W_turn_Run
  refine (Sep.start H).nw fun b1 H1 hs1 => BIf_neg rfl (BIf_neg rfl (BIf_neg rfl ?_))
  have hle := hs1.ow 0 rfl
  have hT1 := hT.le hle
  have hs2 : Sep [pts p (pipO dp ap x)] H1 := ⟨H1, fun _ => none, Hp.le_refl _, fun b o h => (by cases h), fun b => .inr rfl, hle _ _ hp, trivial⟩
  refine hs1.ldw 1 rfl rfl ?_
  refine QCall.use (Good_ok r c H1 hT1) ?_
  by_cases hg : goodS r c = true
  · rw [hg]
    simp only [DI_int', DB_bool, DS_string, DP_pointer, DSl_slice, DM_map, DA_agg, DTup_tuple, DCons_cons, DNil_nil, NN_some, BIf_true, BIf_false, BIf_same, List.toList_toArray, Bool.not_true, Bool.not_false]
    refine QCall.use (words_s hs2 0 rfl) ?_
    simp only [DI_int', DB_bool, DS_string, DP_pointer, DSl_slice, DM_map, DA_agg, DTup_tuple, DCons_cons, DNil_nil, NN_some, BIf_true, BIf_false, BIf_same, List.toList_toArray, Bool.not_true, Bool.not_false]
    refine hs1.ldw 1 rfl rfl ?_
    refine QCall.use (Size_ok r c H1 hT1) ?_
    simp only [DI_int', DB_bool, DS_string, DP_pointer, DSl_slice, DM_map, DA_agg, DTup_tuple, DCons_cons, DNil_nil, NN_some, BIf_true, BIf_false, BIf_same, List.toList_toArray, Bool.not_true, Bool.not_false]
    refine BIf_bnep ?_ (hs1.fin 0 rfl _)
    unfold sizeS
    rw [if_pos hg]
    exact fun e => hno ⟨hg, e⟩
  · rw [show goodS r c = false by simpa using hg]
    simp only [DI_int', DB_bool, DS_string, DP_pointer, DSl_slice, DM_map, DA_agg, DTup_tuple, DCons_cons, DNil_nil, NN_some, BIf_true, BIf_false, BIf_same, List.toList_toArray, Bool.not_true, Bool.not_false]
    exact hs1.fin 0 rfl _)

theorem Run_full (hs : Sep L H) (hT : T64 H) (i j k : Nat) (hi : L[i]? = some (pts p (pipO dp ap x))) (hj : L[j]? = some (pts q (pipO dp ap y))) (hk : L[k]? = some (Ar ap cap peak bufs)) (r c per : Int) (hper : -9223372036854775808 ≤ per ∧ per ≤ 9223372036854775807) (hcap : cap - sumB bufs ≤ 9223372036854775807)
    (hg : goodS r c = true) (hx : (x.w : Int) = r * c) (hy : (y.w : Int) = r * c) (hno : ¬ (perB per = true ∧ per ≤ cap - sumB bufs ∧ r ≤ cap - sumB bufs - per)) :
    HCalls Tryd.prog 17 #[.pointer (some ⟨p, 0, none⟩), .pointer (some ⟨q, 0, none⟩), .agg #[.int .i64 r, .int .i64 c], .pointer (some ⟨ap, 0, none⟩), .int .i64 per] H (RetE (.tuple #[.int .u32 0, .int .i64 6]) H) := HCalls.ret (by
  have hlt := (List.getElem?_eq_some_iff.1 hi).1
  have hlt2 := (List.getElem?_eq_some_iff.1 hj).1
  have hlt3 := (List.getElem?_eq_some_iff.1 hk).1
  apply W_turn_Run.ok
  unfold W_turn_Run
  intro b1 hb
  have hs1 := hs.new hb (.obj (.cells #[.int .i64 r, .int .i64 c] 29))
  have hle : H.le (H.set b1 (.obj (.cells #[.int .i64 r, .int .i64 c] 29))) := Hp.le_set hb
  generalize H.set b1 (.obj (.cells #[.int .i64 r, .int .i64 c] 29)) = H1 at *
  refine BIf_neg rfl (BIf_neg rfl (BIf_neg rfl ?_))
  have hT1 := hT.le hle
  have hi1 : (L ++ [pts b1 (.obj (.cells #[.int .i64 r, .int .i64 c] 29))])[i]? = some (pts p (pipO dp ap x)) := by rw [List.getElem?_append_left hlt]; exact hi
  have hj1 : (L ++ [pts b1 (.obj (.cells #[.int .i64 r, .int .i64 c] 29))])[j]? = some (pts q (pipO dp ap y)) := by rw [List.getElem?_append_left hlt2]; exact hj
  have hk1 : (L ++ [pts b1 (.obj (.cells #[.int .i64 r, .int .i64 c] 29))])[k]? = some (Ar ap cap peak bufs) := by rw [List.getElem?_append_left hlt3]; exact hk
  have hb1 : (L ++ [pts b1 (.obj (.cells #[.int .i64 r, .int .i64 c] 29))])[L.length]? = some (pts b1 (.obj (.cells #[.int .i64 r, .int .i64 c] 29))) := by simp
  have hS : sizeS r c = r * c := by unfold sizeS; rw [if_pos hg]
  refine hs1.ldw L.length hb1 rfl ?_
  refine QCall.use (Good_ok r c H1 hT1) ?_
  rw [hg]
  simp only [DI_int', DB_bool, DS_string, DP_pointer, DSl_slice, DM_map, DA_agg, DTup_tuple, DCons_cons, DNil_nil, NN_some, BIf_true, BIf_false, BIf_same, List.toList_toArray, Bool.not_true, Bool.not_false]
  refine QCall.use (words_s hs1 i hi1) ?_
  simp only [DI_int', DB_bool, DS_string, DP_pointer, DSl_slice, DM_map, DA_agg, DTup_tuple, DCons_cons, DNil_nil, NN_some, BIf_true, BIf_false, BIf_same, List.toList_toArray, Bool.not_true, Bool.not_false]
  refine hs1.ldw L.length hb1 rfl ?_
  refine QCall.use (Size_ok r c H1 hT1) ?_
  rw [hS]
  simp only [DI_int', DB_bool, DS_string, DP_pointer, DSl_slice, DM_map, DA_agg, DTup_tuple, DCons_cons, DNil_nil, NN_some, BIf_true, BIf_false, BIf_same, List.toList_toArray, Bool.not_true, Bool.not_false]
  refine BIf_bnen hx ?_
  refine QCall.use (words_s hs1 j hj1) ?_
  simp only [DI_int', DB_bool, DS_string, DP_pointer, DSl_slice, DM_map, DA_agg, DTup_tuple, DCons_cons, DNil_nil, NN_some, BIf_true, BIf_false, BIf_same, List.toList_toArray, Bool.not_true, Bool.not_false]
  refine hs1.ldw L.length hb1 rfl ?_
  refine QCall.use (Size_ok r c H1 hT1) ?_
  rw [hS]
  simp only [DI_int', DB_bool, DS_string, DP_pointer, DSl_slice, DM_map, DA_agg, DTup_tuple, DCons_cons, DNil_nil, NN_some, BIf_true, BIf_false, BIf_same, List.toList_toArray, Bool.not_true, Bool.not_false]
  refine BIf_bnen hy ?_
  refine hs1.ldw L.length hb1 rfl ?_
  simp only [NN_some, Addr.add_zero]
  refine QCall.use (free_s hs1 k hk1) ?_
  simp only [DI_int', DB_bool, DS_string, DP_pointer, DSl_slice, DM_map, DA_agg, DTup_tuple, DCons_cons, DNil_nil, NN_some, BIf_true, BIf_false, BIf_same, List.toList_toArray, Bool.not_true, Bool.not_false]
  refine QCall.use (Band_no r c per (cap - sumB bufs) hper hcap H1 hT1 (fun h => hno ⟨h.2.1, h.2.2.1, h.2.2.2⟩)) ?_
  simp only [DI_int', DB_bool, DS_string, DP_pointer, DSl_slice, DM_map, DA_agg, DTup_tuple, DCons_cons, DNil_nil, NN_some, BIf_true, BIf_false, BIf_same, List.toList_toArray, Bool.not_true, Bool.not_false]
  exact ⟨rfl, hle⟩)
end

/-! ## Transpose -/

theorem tr_in (K : Value → Hp → Prop) (R3 : Option Addr → Nat → Nat → Addr → Option Addr → Nat → Nat → Int → Hp → Prop) {A A' : Option Addr} {n m m' b1 rows cols i : Nat} {l : List UInt64} {R : As} (hR : ∀ H, R H → Cells H A (wordVals l)) (hn : n = rows * cols) (hl : l.length = n) (hsz : rows * cols ≤ 4294967296) (hi : i < rows) (hr : rows ≤ 4294967296) (hc : cols ≤ 4294967296)
    (hK : ∀ ws H, Fil (fun i j => (l[i * cols + j]?).getD 0) rows cols i cols ws → Sep [R, pts b1 (.obj (.cells #[.int .i64 (rows : Int), .int .i64 (cols : Int)] 29)), Own 22 1 A' n m' (wordVals ws)] H → R3 A n m ⟨b1, 0, none⟩ A' n m' (((i + 1 : Nat)) : Int) H) :
    ∀ (t j : Nat) (ws : List UInt64) (H : Hp), j + t = cols → Fil (fun i j => (l[i * cols + j]?).getD 0) rows cols i j ws → Sep [R, pts b1 (.obj (.cells #[.int .i64 (rows : Int), .int .i64 (cols : Int)] 29)), Own 22 1 A' n m' (wordVals ws)] H →
      W_abacistref06_Transpose.l6 K R3 (t + 1) A n m ⟨b1, 0, none⟩ A' n m' (i : Int) (j : Int) H
  | 0, j, ws, H, hj, hf, hs => by
    obtain rfl : j = cols := by omega
    unfold W_abacistref06_Transpose.l6
    first | refine hs.ldf 1 rfl rfl ?_ | refine hs.ldg 1 rfl rfl ?_
    try simp only [DI_int', DB_bool, DS_string, DP_pointer, DSl_slice, DM_map, DA_agg, DTup_tuple, DCons_cons, DNil_nil, NN_some, BIf_true, BIf_false, BIf_same, List.toList_toArray, Bool.not_true, Bool.not_false]
    refine BIf_dneg (by omega) ?_
    rw [i64w (x := (i : Int) + 1) (by omega) (by omega), show (i : Int) + 1 = ((i + 1 : Nat) : Int) by omega]
    exact hK ws H hf hs
  | t + 1, j, ws, H, hj, hf, hs => by
    have hjc : j < cols := by omega
    have h1 := mul_lt (k := i) (b := rows) (rows := cols) (i := j) hi hjc
    have h2 := mul_lt (k := j) (b := cols) (rows := rows) (i := i) hjc hi
    rw [Nat.mul_comm cols rows] at h2
    unfold W_abacistref06_Transpose.l6
    first | refine hs.ldf 1 rfl rfl ?_ | refine hs.ldg 1 rfl rfl ?_
    try simp only [DI_int', DB_bool, DS_string, DP_pointer, DSl_slice, DM_map, DA_agg, DTup_tuple, DCons_cons, DNil_nil, NN_some, BIf_true, BIf_false, BIf_same, List.toList_toArray, Bool.not_true, Bool.not_false]
    refine BIf_dpos (by omega) ?_
    first | refine hs.ldf 1 rfl rfl ?_ | refine hs.ldg 1 rfl rfl ?_
    try simp only [DI_int', DB_bool, DS_string, DP_pointer, DSl_slice, DM_map, DA_agg, DTup_tuple, DCons_cons, DNil_nil, NN_some, BIf_true, BIf_false, BIf_same, List.toList_toArray, Bool.not_true, Bool.not_false]
    first | refine hs.ldf 1 rfl rfl ?_ | refine hs.ldg 1 rfl rfl ?_
    try simp only [DI_int', DB_bool, DS_string, DP_pointer, DSl_slice, DM_map, DA_agg, DTup_tuple, DCons_cons, DNil_nil, NN_some, BIf_true, BIf_false, BIf_same, List.toList_toArray, Bool.not_true, Bool.not_false]
    rw [← Int.natCast_mul, i64n (n := i * cols) (by omega), ← Int.natCast_add, i64n (n := i * cols + j) (by omega), ← Int.natCast_mul, i64n (n := j * rows) (by omega), ← Int.natCast_add, i64n (n := j * rows + i) (by omega)]
    have hcell : Cells H A (wordVals l) := by
      obtain ⟨H1, hR1, hle⟩ := hs.see 0 rfl
      exact (hR H1 hR1).le hle
    have hg : (wordVals l)[i * cols + j]? = some (.int .u64 (((l[i * cols + j]?).getD 0).toNat : Int)) := by
      rw [wordVals_get, List.getElem?_eq_getElem (by omega)]; rfl
    refine hcell.read hg rfl (by rw [wordVals_length]; omega) ?_
    simp only [DI_int', DB_bool, DS_string, DP_pointer, DSl_slice, DM_map, DA_agg, DTup_tuple, DCons_cons, DNil_nil, NN_some, BIf_true, BIf_false, BIf_same, List.toList_toArray, Bool.not_true, Bool.not_false]
    refine hs.wr1 2 rfl rfl (by omega) rfl fun H hs => ?_
    rw [i64w (x := (j : Int) + 1) (by omega) (by omega), show (j : Int) + 1 = ((j + 1 : Nat) : Int) by omega]
    refine tr_in K R3 hR hn hl hsz hi hr hc hK t (j + 1) (ws.set (j * rows + i) ((l[i * cols + j]?).getD 0)) H (by omega) (hf.step hjc hi) ?_
    rw [← wordVals_set]
    exact hs

theorem tr_out (K : Value → Hp → Prop) {A A' : Option Addr} {n m m' b1 rows cols : Nat} {l : List UInt64} {R : As} (hR : ∀ H, R H → Cells H A (wordVals l)) (hn : n = rows * cols) (hl : l.length = n) (hsz : rows * cols ≤ 4294967296) (hr : rows ≤ 4294967296) (hc : cols ≤ 4294967296)
    (hK : ∀ ws H, Fil (fun i j => (l[i * cols + j]?).getD 0) rows cols rows 0 ws → Sep [R, pts b1 (.obj (.cells #[.int .i64 (rows : Int), .int .i64 (cols : Int)] 29)), Own 22 1 A' n m' (wordVals ws)] H → K (.slice A' n m') H) :
    ∀ (t i : Nat) (ws : List UInt64) (H : Hp), i + t = rows → Fil (fun i j => (l[i * cols + j]?).getD 0) rows cols i 0 ws → Sep [R, pts b1 (.obj (.cells #[.int .i64 (rows : Int), .int .i64 (cols : Int)] 29)), Own 22 1 A' n m' (wordVals ws)] H →
      W_abacistref06_Transpose.l3 K (t + 1) A n m ⟨b1, 0, none⟩ A' n m' (i : Int) H
  | 0, i, ws, H, hi, hf, hs => by
    obtain rfl : i = rows := by omega
    unfold W_abacistref06_Transpose.l3
    first | refine hs.ldf 1 rfl rfl ?_ | refine hs.ldg 1 rfl rfl ?_
    try simp only [DI_int', DB_bool, DS_string, DP_pointer, DSl_slice, DM_map, DA_agg, DTup_tuple, DCons_cons, DNil_nil, NN_some, BIf_true, BIf_false, BIf_same, List.toList_toArray, Bool.not_true, Bool.not_false]
    exact BIf_dneg (by omega) (hK ws H hf hs)
  | t + 1, i, ws, H, hi, hf, hs => by
    unfold W_abacistref06_Transpose.l3
    first | refine hs.ldf 1 rfl rfl ?_ | refine hs.ldg 1 rfl rfl ?_
    try simp only [DI_int', DB_bool, DS_string, DP_pointer, DSl_slice, DM_map, DA_agg, DTup_tuple, DCons_cons, DNil_nil, NN_some, BIf_true, BIf_false, BIf_same, List.toList_toArray, Bool.not_true, Bool.not_false]
    refine BIf_dpos (by omega) ⟨cols + 1, ?_⟩
    refine tr_in K _ hR hn hl hsz (by omega) hr hc (fun ws H hf hs => ?_) cols 0 ws H (by omega) hf hs
    exact tr_out K hR hn hl hsz hr hc hK t (i + 1) ws H (by omega) hf.next hs

/-- The words, column by column. -/
def trL (l : List UInt64) (rows cols : Nat) : List UInt64 := (List.range (rows * cols)).map fun k => (l[k % rows * cols + k / rows]?).getD 0
theorem trL_len (l : List UInt64) (rows cols : Nat) : (trL l rows cols).length = rows * cols := by simp [trL]

theorem Transpose_tr {A : Option Addr} {n m rows cols : Nat} {l : List UInt64} {R : As} (hR : ∀ H, R H → Cells H A (wordVals l)) (hn : n = rows * cols) (hl : l.length = n) (h1 : 1 ≤ n) (hsz : rows * cols ≤ 1000000) (hr : rows ≤ 1000000) (hc : cols ≤ 1000000) :
    Tr Tryd.prog 20 #[.slice A n m, .agg #[.int .i64 (rows : Int), .int .i64 (cols : Int)]] [R] fun v M =>
      ∃ b m' mm, v = .slice (some ⟨b, 0, none⟩) n m' ∧ M = [R, pts b (.row (wordVals (trL l rows cols)) 22 mm)] := fun H hs => by
  apply W_abacistref06_Transpose.ok
  unfold W_abacistref06_Transpose
  refine hs.nw fun b1 H hs => ?_
  refine hs.nw fun b2 H hs => ?_
  have hs := hs.turn 2 rfl (B := Own 22 1 (some ⟨b2, 0, none⟩) 0 0 []) (fun H1 h => ⟨rfl, .inr ⟨b2, 0, rfl, h, by omega⟩⟩)
  have hcell : Cells H A (wordVals l) := by
    obtain ⟨H1, hR1, hle⟩ := hs.see 0 rfl
    exact (hR H1 hR1).le hle
  refine hs.app 2 (k := n) (ys := wordVals l) rfl cell_u64 rfl (by omega) (by omega) rfl ?_ (by rw [wordVals_length]; omega) ?_ (by omega) (by omega) fun A' m' H hs => ?_
  · exact src_of hcell (by rw [wordVals_length, hl])
  · rw [List.all_eq_true]
    intro y hy
    obtain ⟨z, _, rfl⟩ := List.mem_map.1 hy; rfl
  simp only [DI_int', DB_bool, DS_string, DP_pointer, DSl_slice, DM_map, DA_agg, DTup_tuple, DCons_cons, DNil_nil, NN_some, BIf_true, BIf_false, BIf_same, List.toList_toArray, Bool.not_true, Bool.not_false]
  rw [Nat.zero_add]
  have hs : Sep [R, pts b1 (.obj (.cells #[.int .i64 (rows : Int), .int .i64 (cols : Int)] 29)), Own 22 1 A' n m' (wordVals l)] H := by
    have := hs
    rw [Nat.zero_add] at this
    exact this
  refine ⟨rows + 1, ?_⟩
  have hr0 : 0 < rows := by
    rcases Nat.eq_zero_or_pos rows with e | e
    · rw [e, Nat.zero_mul] at hn; omega
    · exact e
  refine tr_out _ hR hn hl (by omega) (by omega) (by omega) (fun ws H hf hs => ?_) rows 0 l H (by omega) ⟨by rw [hl, hn, Nat.mul_comm], fun k' i' _ _ hc => by omega⟩ hs
  have hw : ws = trL l rows cols := by
    have := hf.all hr0
    rw [this]
    unfold trL
    rw [Nat.mul_comm]
  rw [hw] at hs
  rcases hs.unown 2 rfl with ⟨_, h0, _⟩ | ⟨b, mm, rfl, hmm, _, hs⟩
  · omega
  · exact ⟨_, ⟨b, m', mm, rfl, rfl⟩, hs.re [0, 2] rfl⟩

end Go.Proofs.YtgkdkemhiglpdaaDoor.Trn

end
section
/-! TrnJ -/
/- turn.Cost: so many reads, so many writes. -/
set_option maxRecDepth 100000
set_option linter.unusedSimpArgs false
set_option linter.unusedVariables false
set_option linter.unnecessarySimpa false
set_option linter.unusedSectionVars false
namespace Go.Proofs.YtgkdkemhiglpdaaDoor.Trn
open Go Go.Hw Go.Crc Go.Form Go.Proofs.YtgkdkemhiglpdaaDoor.W Go.Proofs.YtgkdkemhiglpdaaDoor.Shp Go.Proofs.YtgkdkemhiglpdaaDoor.Str Go.Proofs.YtgkdkemhiglpdaaDoor.Dsk Go.Proofs.YtgkdkemhiglpdaaDoor.Are

theorem pcs_one {per f k fr n : Nat} (hn : 1 ≤ n) (hk : 1 ≤ k) (h : fr % per + n ≤ per) : pcs per f k fr n = [(f + fr / per, fr % per, n)] := by
  obtain ⟨k, rfl⟩ : ∃ k', k = k' + 1 := ⟨k - 1, by omega⟩
  have hc : cN per fr n = n := by unfold cN; split <;> omega
  show (if n = 0 then [] else (f + fr / per, fr % per, cN per fr n) :: pcs per f k (fr + cN per fr n) (n - cN per fr n)) = _
  rw [if_neg (by omega), hc, Nat.sub_self]
  have e : pcs per f k (fr + n) 0 = [] := by cases k <;> simp [pcs]
  rw [e]

theorem pcs_al {per f : Nat} (hp : 0 < per) : ∀ (q k fr : Nat), q * per ≤ k → fr % per = 0 → (pcs per f k fr (q * per)).length = q ∧ ∀ p ∈ pcs per f k fr (q * per), p.2.2 = per
  | 0, k, fr, _, _ => by
    have e : pcs per f k fr (0 * per) = [] := by rw [Nat.zero_mul]; cases k <;> simp [pcs]
    rw [e]; simp
  | q + 1, k, fr, hk, hf => by
    rw [Nat.succ_mul] at hk
    obtain ⟨k, rfl⟩ : ∃ k', k = k' + 1 := ⟨k - 1, by omega⟩
    have hc : cN per fr ((q + 1) * per) = per := by
      unfold cN
      rw [hf, Nat.sub_zero, Nat.succ_mul]
      split
      · rfl
      · omega
    have e : pcs per f (k + 1) fr ((q + 1) * per) = (f + fr / per, fr % per, per) :: pcs per f k (fr + per) (q * per) := by
      show (if (q + 1) * per = 0 then [] else (f + fr / per, fr % per, cN per fr ((q + 1) * per)) :: pcs per f k (fr + cN per fr ((q + 1) * per)) ((q + 1) * per - cN per fr ((q + 1) * per))) = _
      rw [hc, if_neg (by rw [Nat.succ_mul]; omega), Nat.succ_mul, Nat.add_sub_cancel]
    obtain ⟨h1, h2⟩ := pcs_al (f := f) hp q k (fr + per) (by omega) (by rw [Nat.add_mod_right]; exact hf)
    rw [e]
    refine ⟨by rw [List.length_cons, h1], fun p hp' => ?_⟩
    rcases List.mem_cons.1 hp' with rfl | h
    · rfl
    · exact h2 p h

def m1 (q : Nat) : Nat := if 1 < q then q else 1
theorem unit_cnt (j f fr : Nat) (hd : 2 ^ j ∣ fr) : (pcs 4 f (2 ^ j) fr (2 ^ j)).length = m1 (2 ^ j / 4) ∧ pcsR 4 f (2 ^ j) fr (2 ^ j) = if 2 ^ j < 4 then 1 else 0 := by
  match j, hd with
  | 0, _ =>
    have e := pcs_one (per := 4) (f := f) (k := 2 ^ 0) (fr := fr) (n := 2 ^ 0) (by decide) (by decide) (by rw [Nat.pow_zero]; omega)
    unfold pcsR
    rw [e]; exact ⟨rfl, rfl⟩
  | 1, hd =>
    have e := pcs_one (per := 4) (f := f) (k := 2 ^ 1) (fr := fr) (n := 2 ^ 1) (by decide) (by decide) (by
      obtain ⟨t, rfl⟩ := hd
      rw [Nat.pow_one]; omega)
    unfold pcsR
    rw [e]; exact ⟨rfl, rfl⟩
  | j + 2, hd =>
    have e4 : 2 ^ (j + 2) = 2 ^ j * 4 := by rw [Nat.pow_succ, Nat.pow_succ]; omega
    have hj := pow_pos j
    have hf : fr % 4 = 0 := by
      obtain ⟨t, rfl⟩ := hd
      rw [e4, Nat.mul_assoc, Nat.mul_left_comm]
      exact Nat.mul_mod_right 4 _
    obtain ⟨h1, h2⟩ := pcs_al (per := 4) (f := f) (by omega) (2 ^ j) (2 ^ (j + 2)) fr (by rw [e4]; exact Nat.le_refl _) hf
    rw [← e4] at h1 h2
    refine ⟨?_, ?_⟩
    · rw [h1, e4, Nat.mul_div_cancel _ (by omega)]
      unfold m1
      split <;> omega
    · unfold pcsR
      rw [if_neg (by omega), List.length_eq_zero_iff, List.filter_eq_nil_iff]
      intro p hp
      rw [h2 p hp]; simp

theorem gR_is (ea eb j f m : Nat) (hj : j ≤ eb) : ∀ i, gR 4 f (2 ^ eb) (m * 2 ^ j) (2 ^ j) i = i * m1 (2 ^ j / 4)
  | 0 => by simp [gR]
  | i + 1 => by
    rw [gR_succ, gR_is ea eb j f m hj i, Nat.succ_mul, (unit_cnt j f (i * 2 ^ eb + m * 2 ^ j) (Nat.dvd_add (Nat.dvd_mul_left_of_dvd (Nat.pow_dvd_pow 2 hj) i) (Nat.dvd_mul_left _ _))).1]
theorem rT_is (ea eb j f f' : Nat) (hj : j ≤ eb) : ∀ m, rT 4 f f' (2 ^ ea) (2 ^ eb) (2 ^ j) m = m * (2 ^ ea * m1 (2 ^ j / 4)) + (if 2 ^ j * 2 ^ ea < 4 then m else 0)
  | 0 => by simp [rT]
  | m + 1 => by
    rw [rT_succ, rT_is ea eb j f f' hj m, gR_is ea eb j f m hj, Nat.succ_mul]
    have h := (unit_cnt (j + ea) f' (m * 2 ^ (j + ea)) (Nat.dvd_mul_left _ _)).2
    rw [Nat.mul_assoc, ← Nat.pow_add, h]
    split <;> omega
theorem wT_is (ea j f' : Nat) : ∀ m, wT 4 f' (2 ^ ea) (2 ^ j) m = m * m1 (2 ^ j * 2 ^ ea / 4)
  | 0 => by simp [wT]
  | m + 1 => by
    rw [wT_succ, wT_is ea j f' m, Nat.succ_mul]
    have h := (unit_cnt (j + ea) f' (m * 2 ^ (j + ea)) (Nat.dvd_mul_left _ _)).1
    rw [Nat.mul_assoc, ← Nat.pow_add, h]

theorem m1_le {q : Nat} (h : 1 ≤ q) : m1 (q / 4) ≤ q := by unfold m1; split <;> omega
theorem m1_if (q : Nat) : (if ((q : Nat) : Int) > 1 then ((q : Nat) : Int) else 1) = ((m1 q : Nat) : Int) := by
  unfold m1
  split <;> split <;> omega

def opO (r w : Int) : AO := .obj (.cells #[.int .i64 r, .int .i64 w, .int .i64 0] 59)
theorem Cost_no (r c free : Int) (hf : free ≤ 9223372036854775807) (H : Hp) (hT : T64 H) (hn : ¬ (goodS r c = true ∧ 4 ≤ free ∧ r ≤ free - 4)) :
    HCalls Tryd.prog 24 #[.agg #[.int .i64 r, .int .i64 c], .int .i64 4, .int .i64 free] H (RetE (.tuple #[.agg #[.int .i64 0, .int .i64 0, .int .i64 0], .int .i64 6]) H) := HCalls.ret (by
  apply W_turn_Cost.ok
  unfold W_turn_Cost
  refine (Sep.start H).nw fun b1 H1 hs => ?_
  refine hs.nw fun b2 H1 hs => ?_
  refine hs.ldw 1 rfl rfl ?_
  refine HCalls.use (Band_no r c 4 free ⟨by omega, by omega⟩ hf H1 (hT.le (hs.ow 0 rfl)) (fun h => hn ⟨h.1, h.2.2.1, h.2.2.2⟩)) ?_
  simp only [DI_int', DB_bool, DS_string, DP_pointer, DSl_slice, DM_map, DA_agg, DTup_tuple, DCons_cons, DNil_nil, NN_some, BIf_true, BIf_false, BIf_same, List.toList_toArray, Bool.not_true, Bool.not_false]
  refine hs.stw 2 rfl rfl rfl rfl fun H1 hs => ?_
  refine hs.ldw 2 rfl rfl ?_
  exact hs.fin 0 rfl _)

theorem Cost_j6 {ea eb j : Nat} {N R W : Nat} (hs1 : 2 ^ j * 2 ^ ea ≤ 1000000) (hR : R + N ≤ 1000000000000) {b1 b2 b3 : Nat} {H0 H : Hp} (hs : Sep [own H0, pts b1 (.obj (.cells #[.int .i64 ((2 ^ ea : Nat) : Int), .int .i64 ((2 ^ eb : Nat) : Int)] 29)), pts b2 (opO 0 0), pts b3 (opO R W)] H) :
    W_turn_Cost.j6 (Ret (.tuple #[.agg #[.int .i64 ((R + (if 2 ^ j * 2 ^ ea < 4 then N else 0) : Nat) : Int), .int .i64 (W : Int), .int .i64 0], .int .i64 0]) H0) 4 ⟨b1, 0, none⟩ ⟨b2, 0, none⟩ ((2 ^ j : Nat) : Int) (N : Int) ⟨b3, 0, none⟩ H := by
  unfold W_turn_Cost.j6
  first | refine hs.ldf 1 rfl rfl ?_ | refine hs.ldg 1 rfl rfl ?_
  try simp only [DI_int', DB_bool, DS_string, DP_pointer, DSl_slice, DM_map, DA_agg, DTup_tuple, DCons_cons, DNil_nil, NN_some, BIf_true, BIf_false, BIf_same, List.toList_toArray, Bool.not_true, Bool.not_false]
  rw [← Int.natCast_mul, i64n (by omega)]
  by_cases h4 : 2 ^ j * 2 ^ ea < 4
  · rw [if_pos h4]
    refine BIf_dpos (by omega) ?_
    first | refine hs.ldf 3 rfl rfl ?_ | refine hs.ldg 3 rfl rfl ?_
    try simp only [DI_int', DB_bool, DS_string, DP_pointer, DSl_slice, DM_map, DA_agg, DTup_tuple, DCons_cons, DNil_nil, NN_some, BIf_true, BIf_false, BIf_same, List.toList_toArray, Bool.not_true, Bool.not_false]
    rw [← Int.natCast_add, i64n (by omega)]
    refine hs.stf 3 rfl (Nat.lt_of_sub_eq_succ rfl) rfl fun H hs => ?_
    refine hs.ldw 3 rfl rfl ?_
    refine hs.stw 2 rfl rfl rfl rfl fun H1 hs => ?_
    refine hs.ldw 2 rfl rfl ?_
    exact hs.fin 0 rfl _
  · rw [if_neg h4]
    refine BIf_dneg (by omega) ?_
    refine hs.ldw 3 rfl rfl ?_
    refine hs.stw 2 rfl rfl rfl rfl fun H1 hs => ?_
    refine hs.ldw 2 rfl rfl ?_
    exact hs.fin 0 rfl _

theorem Cost_is {ea eb j : Nat} {free : Int} (hab : ea + eb ≤ 32) (hj : BandIs ((2 ^ ea : Nat) : Int) ((2 ^ eb : Nat) : Int) 4 free j) (h2 : ((2 ^ ea : Nat) : Int) ≤ free - 4) (hf : free ≤ 1000) (H : Hp) (hT : T64 H) :
    HCalls Tryd.prog 24 #[.agg #[.int .i64 ((2 ^ ea : Nat) : Int), .int .i64 ((2 ^ eb : Nat) : Int)], .int .i64 4, .int .i64 free] H
      (RetE (.tuple #[.agg #[.int .i64 ((2 ^ eb / 2 ^ j * (2 ^ ea * m1 (2 ^ j / 4)) + (if 2 ^ j * 2 ^ ea < 4 then 2 ^ eb / 2 ^ j else 0) : Nat) : Int), .int .i64 ((2 ^ eb / 2 ^ j * m1 (2 ^ j * 2 ^ ea / 4) : Nat) : Int), .int .i64 0], .int .i64 0]) H) := HCalls.ret (by
  have q1 := pow_pos ea
  have q3 := pow_pos j
  have hjb := hj.ge
  have hfit := hj.fit
  rw [← Int.natCast_mul] at hfit
  have hsz := size_le hab
  have hdiv := div_pow hjb
  apply W_turn_Cost.ok
  unfold W_turn_Cost
  refine (Sep.start H).nw fun b1 H1 hs => ?_
  refine hs.nw fun b2 H1 hs => ?_
  refine hs.ldw 1 rfl rfl ?_
  refine HCalls.use (Band_is _ _ 4 free ⟨by omega, by omega⟩ (by omega) H1 (hT.le (hs.ow 0 rfl)) (goodS_pow hab) rfl (by omega) h2 hj) ?_
  simp only [DI_int', DB_bool, DS_string, DP_pointer, DSl_slice, DM_map, DA_agg, DTup_tuple, DCons_cons, DNil_nil, NN_some, BIf_true, BIf_false, BIf_same, List.toList_toArray, Bool.not_true, Bool.not_false]
  first | refine hs.ldf 1 rfl rfl ?_ | refine hs.ldg 1 rfl rfl ?_
  try simp only [DI_int', DB_bool, DS_string, DP_pointer, DSl_slice, DM_map, DA_agg, DTup_tuple, DCons_cons, DNil_nil, NN_some, BIf_true, BIf_false, BIf_same, List.toList_toArray, Bool.not_true, Bool.not_false]
  have hN : 2 ^ eb / 2 ^ j ≤ 2 ^ eb := Nat.div_le_self _ _
  have hN2 : 2 ^ eb / 2 ^ j * 2 ^ ea * 2 ^ j ≤ 4294967296 := by
    rw [Nat.mul_right_comm, ← hdiv, Nat.mul_comm]; exact hsz
  have hN4 : 2 ^ eb / 2 ^ j * (2 ^ j * 2 ^ ea) ≤ 4294967296 := by
    rw [Nat.mul_comm (2 ^ j), ← Nat.mul_assoc]; exact hN2
  have eN : Int.tdiv ((2 ^ eb : Nat) : Int) ((2 ^ j : Nat) : Int) = ((2 ^ eb / 2 ^ j : Nat) : Int) := rfl
  have e4 : Int.tdiv ((2 ^ j : Nat) : Int) 4 = ((2 ^ j / 4 : Nat) : Int) := rfl
  have e5 : Int.tdiv ((2 ^ j * 2 ^ ea : Nat) : Int) 4 = ((2 ^ j * 2 ^ ea / 4 : Nat) : Int) := rfl
  have q5 : 2 ^ eb ≤ 2 ^ 32 := pow_le (by omega)
  have q6 : 2 ^ j ≤ 2 ^ 32 := pow_le (by omega)
  have l1 : 2 ^ eb / 2 ^ j * (2 ^ ea * m1 (2 ^ j / 4)) ≤ 4294967296 :=
    Nat.le_trans (by rw [← Nat.mul_assoc]; exact Nat.mul_le_mul_left _ (m1_le q3)) hN2
  have l2 : 2 ^ eb / 2 ^ j * m1 (2 ^ j * 2 ^ ea / 4) ≤ 4294967296 :=
    Nat.le_trans (Nat.mul_le_mul_left _ (m1_le (Nat.mul_pos q3 q1))) hN4
  have l3 : 2 ^ eb / 2 ^ j * 2 ^ ea ≤ 4294967296 := Nat.le_trans (Nat.le_mul_of_pos_right _ q3) hN2
  have eA : IntKind.i64.wrap (Int.tdiv ((2 ^ eb : Nat) : Int) ((2 ^ j : Nat) : Int)) = ((2 ^ eb / 2 ^ j : Nat) : Int) := by rw [eN, i64n (by omega)]
  have eB : IntKind.i64.wrap (Int.tdiv ((2 ^ j : Nat) : Int) 4) = ((2 ^ j / 4 : Nat) : Int) := by rw [e4, i64n (by omega)]
  have eC : IntKind.i64.wrap (Int.tdiv (IntKind.i64.wrap (((2 ^ j : Nat) : Int) * ((2 ^ ea : Nat) : Int))) 4) = ((2 ^ j * 2 ^ ea / 4 : Nat) : Int) := by
    rw [← Int.natCast_mul, i64n (n := 2 ^ j * 2 ^ ea) (by omega), e5, i64n (by omega)]
  have eR : IntKind.i64.wrap (IntKind.i64.wrap (((2 ^ eb / 2 ^ j : Nat) : Int) * ((2 ^ ea : Nat) : Int)) * ((m1 (2 ^ j / 4) : Nat) : Int)) = ((2 ^ eb / 2 ^ j * (2 ^ ea * m1 (2 ^ j / 4)) : Nat) : Int) := by
    rw [← Int.natCast_mul, i64n (n := 2 ^ eb / 2 ^ j * 2 ^ ea) (by omega), ← Int.natCast_mul, Nat.mul_assoc, i64n (by omega)]
  have eW : IntKind.i64.wrap (((2 ^ eb / 2 ^ j : Nat) : Int) * ((m1 (2 ^ j * 2 ^ ea / 4) : Nat) : Int)) = ((2 ^ eb / 2 ^ j * m1 (2 ^ j * 2 ^ ea / 4) : Nat) : Int) := by
    rw [← Int.natCast_mul, i64n (by omega)]
  have leaf : ∀ {H1 b3} (hs : Sep [own H, pts b1 (.obj (.cells #[.int .i64 ((2 ^ ea : Nat) : Int), .int .i64 ((2 ^ eb : Nat) : Int)] 29)), pts b2 (opO 0 0), pts b3 (opO 0 0)] H1),
      StA H1 (⟨b3, 0, none⟩ : Addr) #[.int .i64 ((2 ^ eb / 2 ^ j * (2 ^ ea * m1 (2 ^ j / 4)) : Nat) : Int), .int .i64 ((2 ^ eb / 2 ^ j * m1 (2 ^ j * 2 ^ ea / 4) : Nat) : Int), .int .i64 0] 3 fun H6 => W_turn_Cost.j6 (Ret (.tuple #[.agg #[.int .i64 ((2 ^ eb / 2 ^ j * (2 ^ ea * m1 (2 ^ j / 4)) + (if 2 ^ j * 2 ^ ea < 4 then 2 ^ eb / 2 ^ j else 0) : Nat) : Int), .int .i64 ((2 ^ eb / 2 ^ j * m1 (2 ^ j * 2 ^ ea / 4) : Nat) : Int), .int .i64 0], .int .i64 0]) H) 4 ⟨b1, 0, none⟩ ⟨b2, 0, none⟩ ((2 ^ j : Nat) : Int) ((2 ^ eb / 2 ^ j : Nat) : Int) ⟨b3, 0, none⟩ H6 := fun hs => by
    refine hs.stw 3 rfl rfl rfl rfl fun H1 hs => ?_
    exact Cost_j6 (by omega) (by omega) hs
  have z1 : ((2 ^ j : Nat) : Int) ≠ 0 := by omega
  have z4 : (4 : Int) ≠ 0 := by decide
  refine ⟨z1, by simp, z4, by simp, ?_, ?_, ?_⟩
  · first | refine hs.ldf 1 rfl rfl ?_ | refine hs.ldg 1 rfl rfl ?_
    try simp only [DI_int', DB_bool, DS_string, DP_pointer, DSl_slice, DM_map, DA_agg, DTup_tuple, DCons_cons, DNil_nil, NN_some, BIf_true, BIf_false, BIf_same, List.toList_toArray, Bool.not_true, Bool.not_false]
    refine ⟨?_, ?_⟩
    · first | refine hs.ldf 1 rfl rfl ?_ | refine hs.ldg 1 rfl rfl ?_
      try simp only [DI_int', DB_bool, DS_string, DP_pointer, DSl_slice, DM_map, DA_agg, DTup_tuple, DCons_cons, DNil_nil, NN_some, BIf_true, BIf_false, BIf_same, List.toList_toArray, Bool.not_true, Bool.not_false]
      refine ⟨z4, by simp, hs.nw fun b3 H1 hs => ?_⟩
      simp only [eA, eB, eC, m1_if, eR, eW]
      exact leaf hs
    · refine hs.nw fun b3 H1 hs => ?_
      first | refine hs.ldf 1 rfl rfl ?_ | refine hs.ldg 1 rfl rfl ?_
      try simp only [DI_int', DB_bool, DS_string, DP_pointer, DSl_slice, DM_map, DA_agg, DTup_tuple, DCons_cons, DNil_nil, NN_some, BIf_true, BIf_false, BIf_same, List.toList_toArray, Bool.not_true, Bool.not_false]
      refine ⟨z4, by simp, ?_⟩
      simp only [eA, eB, eC, m1_if, eR, eW]
      exact leaf hs
  · first | refine hs.ldf 1 rfl rfl ?_ | refine hs.ldg 1 rfl rfl ?_
    try simp only [DI_int', DB_bool, DS_string, DP_pointer, DSl_slice, DM_map, DA_agg, DTup_tuple, DCons_cons, DNil_nil, NN_some, BIf_true, BIf_false, BIf_same, List.toList_toArray, Bool.not_true, Bool.not_false]
    refine ⟨z4, by simp, ?_, ?_⟩
    · first | refine hs.ldf 1 rfl rfl ?_ | refine hs.ldg 1 rfl rfl ?_
      try simp only [DI_int', DB_bool, DS_string, DP_pointer, DSl_slice, DM_map, DA_agg, DTup_tuple, DCons_cons, DNil_nil, NN_some, BIf_true, BIf_false, BIf_same, List.toList_toArray, Bool.not_true, Bool.not_false]
      refine hs.nw fun b3 H1 hs => ?_
      simp only [eA, eB, eC, m1_if, eR, eW]
      exact leaf hs
    · refine hs.nw fun b3 H1 hs => ?_
      first | refine hs.ldf 1 rfl rfl ?_ | refine hs.ldg 1 rfl rfl ?_
      try simp only [DI_int', DB_bool, DS_string, DP_pointer, DSl_slice, DM_map, DA_agg, DTup_tuple, DCons_cons, DNil_nil, NN_some, BIf_true, BIf_false, BIf_same, List.toList_toArray, Bool.not_true, Bool.not_false]
      simp only [eA, eB, eC, m1_if, eR, eW]
      exact leaf hs
  · refine hs.nw fun b3 H1 hs => ⟨?_, ?_⟩
    · first | refine hs.ldf 1 rfl rfl ?_ | refine hs.ldg 1 rfl rfl ?_
      try simp only [DI_int', DB_bool, DS_string, DP_pointer, DSl_slice, DM_map, DA_agg, DTup_tuple, DCons_cons, DNil_nil, NN_some, BIf_true, BIf_false, BIf_same, List.toList_toArray, Bool.not_true, Bool.not_false]
      first | refine hs.ldf 1 rfl rfl ?_ | refine hs.ldg 1 rfl rfl ?_
      try simp only [DI_int', DB_bool, DS_string, DP_pointer, DSl_slice, DM_map, DA_agg, DTup_tuple, DCons_cons, DNil_nil, NN_some, BIf_true, BIf_false, BIf_same, List.toList_toArray, Bool.not_true, Bool.not_false]
      refine ⟨z4, by simp, ?_⟩
      simp only [eA, eB, eC, m1_if, eR, eW]
      exact leaf hs
    · first | refine hs.ldf 1 rfl rfl ?_ | refine hs.ldg 1 rfl rfl ?_
      try simp only [DI_int', DB_bool, DS_string, DP_pointer, DSl_slice, DM_map, DA_agg, DTup_tuple, DCons_cons, DNil_nil, NN_some, BIf_true, BIf_false, BIf_same, List.toList_toArray, Bool.not_true, Bool.not_false]
      refine ⟨z4, by simp, ?_⟩
      first | refine hs.ldf 1 rfl rfl ?_ | refine hs.ldg 1 rfl rfl ?_
      try simp only [DI_int', DB_bool, DS_string, DP_pointer, DSl_slice, DM_map, DA_agg, DTup_tuple, DCons_cons, DNil_nil, NN_some, BIf_true, BIf_false, BIf_same, List.toList_toArray, Bool.not_true, Bool.not_false]
      simp only [eA, eB, eC, m1_if, eR, eW]
      exact leaf hs)

end Go.Proofs.YtgkdkemhiglpdaaDoor.Trn

end
section
/-! TrnK -/
/- The law TurnCosts. -/
set_option maxRecDepth 100000
set_option linter.unusedSimpArgs false
set_option linter.unusedVariables false
set_option linter.unnecessarySimpa false
set_option linter.unusedSectionVars false
namespace Go.Proofs.YtgkdkemhiglpdaaDoor.Trn
open Go Go.Hw Go.Crc Go.Form Go.Proofs.YtgkdkemhiglpdaaDoor.W Go.Proofs.YtgkdkemhiglpdaaDoor.Shp Go.Proofs.YtgkdkemhiglpdaaDoor.Str Go.Proofs.YtgkdkemhiglpdaaDoor.Dsk Go.Proofs.YtgkdkemhiglpdaaDoor.Are

set_option maxHeartbeats 1000000 in
theorem TurnCosts_ok (r c : Int) (hr : -9223372036854775808 ≤ r ∧ r ≤ 9223372036854775807) (hc : -9223372036854775808 ≤ c ∧ c ≤ 9223372036854775807) (room : Nat) (hroom : room ≤ 65535) (H : Hp) (hT : T64 H) :
    HCalls Tryd.prog 6 #[.agg #[.int .i64 r, .int .i64 c], .int .u16 room] H (Ret (.bool true) H) := by
  apply W_abacistlaw22_TurnCosts.ok
  unfold W_abacistlaw22_TurnCosts
  refine (Sep.start H).nw fun b1 H1 hs => ?_
  refine HCalls.use (awake_ok H1 (hT.le (hs.ow 0 rfl))) ?_
  simp only [DI_int', DB_bool, DS_string, DP_pointer, DSl_slice, DM_map, DA_agg, DTup_tuple, DCons_cons, DNil_nil, NN_some, BIf_true, BIf_false, BIf_same, List.toList_toArray, Bool.not_true, Bool.not_false]
  have eρ : IntKind.i64.wrap ((1 : Int) + Int.tmod (IntKind.i64.wrap (room : Int)) 600) = ((1 + room % 600 : Nat) : Int) := by
    rw [i64n (n := room) (by omega), show Int.tmod (room : Int) 600 = ((room % 600 : Nat) : Int) from rfl, i64w (by omega) (by omega)]; omega
  simp only [eρ]
  have hρ : 1 ≤ 1 + room % 600 ∧ 1 + room % 600 ≤ 600 := by omega
  generalize 1 + room % 600 = ρ at *
  refine ⟨by decide, by simp, ?_⟩
  refine hs.ldw 1 rfl rfl ?_
  by_cases hyes : goodS r c = true ∧ r ≤ (ρ : Int) - 4
  case neg =>
    refine HCalls.use (Cost_no r c ρ (by omega) H1 (hT.le (hs.ow 0 rfl)) (fun h => hyes ⟨h.1, h.2.2⟩)) ?_
    simp only [DI_int', DB_bool, DS_string, DP_pointer, DSl_slice, DM_map, DA_agg, DTup_tuple, DCons_cons, DNil_nil, NN_some, BIf_true, BIf_false, BIf_same, List.toList_toArray, Bool.not_true, Bool.not_false]
    refine hs.nw fun b2 H1 hs => ?_
    refine hs.stw 2 rfl rfl rfl rfl fun H1 hs => ?_
    refine hs.ldw 1 rfl rfl ?_
    refine HCalls.use (rGood_ok r c H1) ?_
    simp only [DI_int', DB_bool, DS_string, DP_pointer, DSl_slice, DM_map, DA_agg, DTup_tuple, DCons_cons, DNil_nil, NN_some, BIf_true, BIf_false, BIf_same, List.toList_toArray, Bool.not_true, Bool.not_false]
    by_cases hg : goodS r c = true
    · rw [hg]
      refine BIf_neg rfl ?_
      refine hs.ldf 1 rfl rfl ?_
      simp only [DI_int', DB_bool, DS_string, DP_pointer, DSl_slice, DM_map, DA_agg, DTup_tuple, DCons_cons, DNil_nil, NN_some, BIf_true, BIf_false, BIf_same, List.toList_toArray, Bool.not_true, Bool.not_false]
      rw [i64w (x := (ρ : Int) - 4) (by omega) (by omega)]
      refine BIf_dpos (by
        have : ¬ r ≤ (ρ : Int) - 4 := fun h => hyes ⟨hg, h⟩
        omega) (BIf_beqp rfl ?_)
      refine hs.ldw 2 rfl rfl ?_
      refine EqI_eql Str.p_ops (a := [0, 0, 0]) (b := [0, 0, 0]) rfl rfl (by intro x hx; simp at hx; omega) (by intro x hx; simp at hx; omega) rfl rfl ?_
      rw [decide_eq_true rfl]
      exact hs.fin 0 rfl _
    · rw [show goodS r c = false by simpa using hg]
      refine BIf_pos rfl (BIf_beqp rfl ?_)
      refine hs.ldw 2 rfl rfl ?_
      refine EqI_eql Str.p_ops (a := [0, 0, 0]) (b := [0, 0, 0]) rfl rfl (by intro x hx; simp at hx; omega) (by intro x hx; simp at hx; omega) rfl rfl ?_
      rw [decide_eq_true rfl]
      exact hs.fin 0 rfl _
  obtain ⟨hg, hle⟩ := hyes
  obtain ⟨ea, eb, rfl, rfl, hab, la, lb⟩ := goodS_some hg
  have q1 := pow_pos ea
  have q2 := pow_pos eb
  obtain ⟨j, hje, hj⟩ := BandIs.ex (ea := ea) (eb := eb) (per := 4) (free := ρ) hab (by omega)
  refine HCalls.use (Cost_is hab hj hle (by omega) H1 (hT.le (hs.ow 0 rfl))) ?_
  simp only [DI_int', DB_bool, DS_string, DP_pointer, DSl_slice, DM_map, DA_agg, DTup_tuple, DCons_cons, DNil_nil, NN_some, BIf_true, BIf_false, BIf_same, List.toList_toArray, Bool.not_true, Bool.not_false]
  have hrT := fun f f' => rT_is ea eb j f f' hje (2 ^ eb / 2 ^ j)
  have hwT := fun f' => wT_is ea j f' (2 ^ eb / 2 ^ j)
  generalize 2 ^ eb / 2 ^ j * (2 ^ ea * m1 (2 ^ j / 4)) + (if 2 ^ j * 2 ^ ea < 4 then 2 ^ eb / 2 ^ j else 0) = cr at *
  generalize 2 ^ eb / 2 ^ j * m1 (2 ^ j * 2 ^ ea / 4) = cw at *
  refine hs.nw fun b2 H1 hs => ?_
  refine hs.stw 2 rfl rfl rfl rfl fun H1 hs => ?_
  refine hs.ldw 1 rfl rfl ?_
  refine HCalls.use (rGood_ok _ _ H1) ?_
  rw [hg]
  simp only [DI_int', DB_bool, DS_string, DP_pointer, DSl_slice, DM_map, DA_agg, DTup_tuple, DCons_cons, DNil_nil, NN_some, BIf_true, BIf_false, BIf_same, List.toList_toArray, Bool.not_true, Bool.not_false]
  refine hs.ldf 1 rfl rfl ?_
  simp only [DI_int', DB_bool, DS_string, DP_pointer, DSl_slice, DM_map, DA_agg, DTup_tuple, DCons_cons, DNil_nil, NN_some, BIf_true, BIf_false, BIf_same, List.toList_toArray, Bool.not_true, Bool.not_false]
  rw [i64w (x := (ρ : Int) - 4) (by omega) (by omega)]
  refine BIf_dneg (by omega) ?_
  refine hs.ldf 1 rfl rfl ?_
  simp only [DI_int', DB_bool, DS_string, DP_pointer, DSl_slice, DM_map, DA_agg, DTup_tuple, DCons_cons, DNil_nil, NN_some, BIf_true, BIf_false, BIf_same, List.toList_toArray, Bool.not_true, Bool.not_false]
  by_cases hr256 : ((2 ^ ea : Nat) : Int) > 256
  · exact BIf_dpos hr256 (hs.fin 0 rfl _)
  refine BIf_dneg hr256 ?_
  refine hs.ldf 1 rfl rfl ?_
  simp only [DI_int', DB_bool, DS_string, DP_pointer, DSl_slice, DM_map, DA_agg, DTup_tuple, DCons_cons, DNil_nil, NN_some, BIf_true, BIf_false, BIf_same, List.toList_toArray, Bool.not_true, Bool.not_false]
  refine hs.ldf 1 rfl rfl ?_
  simp only [DI_int', DB_bool, DS_string, DP_pointer, DSl_slice, DM_map, DA_agg, DTup_tuple, DCons_cons, DNil_nil, NN_some, BIf_true, BIf_false, BIf_same, List.toList_toArray, Bool.not_true, Bool.not_false]
  refine ⟨by omega, by simp, ?_⟩
  have hdiv : IntKind.i64.wrap (Int.tdiv 256 ((2 ^ ea : Nat) : Int)) = ((256 / 2 ^ ea : Nat) : Int) := by
    rw [show Int.tdiv 256 ((2 ^ ea : Nat) : Int) = ((256 / 2 ^ ea : Nat) : Int) from rfl]
    have := Nat.div_le_self 256 (2 ^ ea)
    rw [i64n (by omega)]
  rw [hdiv]
  by_cases hc256 : ((2 ^ eb : Nat) : Int) > ((256 / 2 ^ ea : Nat) : Int)
  · exact BIf_dpos hc256 (hs.fin 0 rfl _)
  refine BIf_dneg hc256 ?_
  have hn256 : 2 ^ ea * 2 ^ eb ≤ 256 := by
    have : 2 ^ eb ≤ 256 / 2 ^ ea := by omega
    rw [Nat.mul_comm]
    exact (Nat.le_div_iff_mul_le q1).1 this
  have hn1 : 1 ≤ 2 ^ ea * 2 ^ eb := Nat.mul_pos q1 q2
  refine hs.ldf 1 rfl rfl ?_
  simp only [DI_int', DB_bool, DS_string, DP_pointer, DSl_slice, DM_map, DA_agg, DTup_tuple, DCons_cons, DNil_nil, NN_some, BIf_true, BIf_false, BIf_same, List.toList_toArray, Bool.not_true, Bool.not_false]
  refine hs.ldf 1 rfl rfl ?_
  simp only [DI_int', DB_bool, DS_string, DP_pointer, DSl_slice, DM_map, DA_agg, DTup_tuple, DCons_cons, DNil_nil, NN_some, BIf_true, BIf_false, BIf_same, List.toList_toArray, Bool.not_true, Bool.not_false]
  rw [← Int.natCast_mul]
  obtain ⟨n, hsz⟩ : ∃ n, n = 2 ^ ea * 2 ^ eb := ⟨_, rfl⟩
  rw [← hsz]
  rw [← hsz] at hn256 hn1
  rw [i64n (n := n) (by omega)]
  refine hs.mks cell_u64 rfl (n := n) (m := n) rfl rfl (Nat.le_refl _) (by omega) (by omega) fun bz H1 hs => ?_
  simp only [DI_int', DB_bool, DS_string, DP_pointer, DSl_slice, DM_map, DA_agg, DTup_tuple, DCons_cons, DNil_nil, NN_some, BIf_true, BIf_false, BIf_same, List.toList_toArray, Bool.not_true, Bool.not_false]
  have hs : Sep [own H, pts b1 (.obj (.cells #[.int .i64 ((2 ^ ea : Nat) : Int), .int .i64 ((2 ^ eb : Nat) : Int)] 29)), pts b2 (opO cr cw), pts bz (.row (wordVals (List.replicate n 0)) 22 (n * 1))] H1 := by rw [← zeros_u64]; exact hs
  refine (Make_tr (A := some ⟨bz, 0, none⟩) (n := n) (m := n) (R := pts bz (.row (wordVals (List.replicate n 0)) 22 (n * 1))) (List.replicate n 0) (by simp) (by omega) (by omega) (Nat.le_refl _) ρ (by omega) (fun H' h => by
    have := Cells.row h 0 n
    rw [List.drop_zero, List.take_of_length_le (by rw [wordVals_length, List.length_replicate]; exact Nat.le_refl _)] at this
    exact this)).use hs [3] rfl rfl ?_
  rintro _ _ H1 ⟨dp, ap, p, q, d, rfl, hM, hrd, hwr, hw, rfl⟩ hs
  simp only [DI_int', DB_bool, DS_string, DP_pointer, DSl_slice, DM_map, DA_agg, DTup_tuple, DCons_cons, DNil_nil, NN_some, BIf_true, BIf_false, BIf_same, List.toList_toArray, Bool.not_true, Bool.not_false]
  refine hs.nw fun b3 H1 hs => ?_
  refine hs.stw 8 rfl rfl rfl rfl fun H1 hs => ?_
  refine BIf_bnen rfl ?_
  refine hs.ldf 8 rfl rfl ?_
  simp only [DI_int', DB_bool, DS_string, DP_pointer, DSl_slice, DM_map, DA_agg, DTup_tuple, DCons_cons, DNil_nil, NN_some, BIf_true, BIf_false, BIf_same, List.toList_toArray, Bool.not_true, Bool.not_false]
  try simp only [NN_some, Addr.add_lit', Addr.add_zero, Nat.zero_add, Nat.add_zero]
  refine HCalls.use (Count_s hs 2 rfl) ?_
  simp only [DI_int', DB_bool, DS_string, DP_pointer, DSl_slice, DM_map, DA_agg, DTup_tuple, DCons_cons, DNil_nil, NN_some, BIf_true, BIf_false, BIf_same, List.toList_toArray, Bool.not_true, Bool.not_false]
  refine hs.nw fun b4 H1 hs => ?_
  refine hs.stw 9 rfl rfl rfl rfl fun H1 hs => ?_
  first | refine hs.ldf 8 rfl rfl ?_ | refine hs.ld 8 rfl rfl ?_
  simp only [DI_int', DB_bool, DS_string, DP_pointer, DSl_slice, DM_map, DA_agg, DTup_tuple, DCons_cons, DNil_nil, NN_some, BIf_true, BIf_false, BIf_same, List.toList_toArray, Bool.not_true, Bool.not_false]
  first | refine hs.ldf 8 rfl rfl ?_ | refine hs.ld 8 rfl rfl ?_
  simp only [DI_int', DB_bool, DS_string, DP_pointer, DSl_slice, DM_map, DA_agg, DTup_tuple, DCons_cons, DNil_nil, NN_some, BIf_true, BIf_false, BIf_same, List.toList_toArray, Bool.not_true, Bool.not_false]
  refine hs.ldw 6 rfl rfl ?_
  first | refine hs.ldf 8 rfl rfl ?_ | refine hs.ld 8 rfl rfl ?_
  simp only [DI_int', DB_bool, DS_string, DP_pointer, DSl_slice, DM_map, DA_agg, DTup_tuple, DCons_cons, DNil_nil, NN_some, BIf_true, BIf_false, BIf_same, List.toList_toArray, Bool.not_true, Bool.not_false]
  refine (RunM_tr (p := p) (q := q) (dp := dp) (ap := ap) (x := xP n) (y := xQ n) (cap := ρ) (peak := 0) (TT := own H) (d := d) (n := n) (ea := ea) (eb := eb) (j := j) (fun H' h => hT.le h) hM (hM.onP hn1) (hM.onQ hn1) ⟨by omega, by omega⟩ (by omega) hab hsz hsz rfl (.inl (by show 1 + (n + 3) / 4 ≤ (n + 3) / 4 + 1; omega)) (by omega) hj).use hs [0, 1, 2, 3, 5] rfl rfl ?_
  rintro _ _ H1 ⟨d1, hM1, hpg, hrd1, hwr1, hP, hQ, rfl, rfl⟩ hs
  simp only [DI_int', DB_bool, DS_string, DP_pointer, DSl_slice, DM_map, DA_agg, DTup_tuple, DCons_cons, DNil_nil, NN_some, BIf_true, BIf_false, BIf_same, List.toList_toArray, Bool.not_true, Bool.not_false]
  refine BIf_bnen rfl ?_
  first | refine hs.ldf 8 rfl rfl ?_ | refine hs.ld 8 rfl rfl ?_
  simp only [DI_int', DB_bool, DS_string, DP_pointer, DSl_slice, DM_map, DA_agg, DTup_tuple, DCons_cons, DNil_nil, NN_some, BIf_true, BIf_false, BIf_same, List.toList_toArray, Bool.not_true, Bool.not_false]
  try simp only [NN_some, Addr.add_lit', Addr.add_zero, Nat.zero_add, Nat.add_zero]
  refine HCalls.use (Count_s hs 2 rfl) ?_
  simp only [DI_int', DB_bool, DS_string, DP_pointer, DSl_slice, DM_map, DA_agg, DTup_tuple, DCons_cons, DNil_nil, NN_some, BIf_true, BIf_false, BIf_same, List.toList_toArray, Bool.not_true, Bool.not_false]
  refine hs.nw fun b5 H1 hs => ?_
  refine hs.stw 10 rfl rfl rfl rfl fun H1 hs => ?_
  have c1 := hpg.rd; have c2 := hpg.wr; have c3 := hpg.sy
  rw [hrT] at c1
  rw [hwT] at c2
  first | refine hs.ldf 10 rfl rfl ?_ | refine hs.ld 10 rfl rfl ?_
  simp only [DI_int', DB_bool, DS_string, DP_pointer, DSl_slice, DM_map, DA_agg, DTup_tuple, DCons_cons, DNil_nil, NN_some, BIf_true, BIf_false, BIf_same, List.toList_toArray, Bool.not_true, Bool.not_false]
  first | refine hs.ldf 9 rfl rfl ?_ | refine hs.ld 9 rfl rfl ?_
  simp only [DI_int', DB_bool, DS_string, DP_pointer, DSl_slice, DM_map, DA_agg, DTup_tuple, DCons_cons, DNil_nil, NN_some, BIf_true, BIf_false, BIf_same, List.toList_toArray, Bool.not_true, Bool.not_false]
  first | refine hs.ldf 7 rfl rfl ?_ | refine hs.ld 7 rfl rfl ?_
  simp only [DI_int', DB_bool, DS_string, DP_pointer, DSl_slice, DM_map, DA_agg, DTup_tuple, DCons_cons, DNil_nil, NN_some, BIf_true, BIf_false, BIf_same, List.toList_toArray, Bool.not_true, Bool.not_false]
  refine BIf_beqp (by rw [i64w (by omega) (by omega)]; omega) ?_
  first | refine hs.ldf 10 rfl rfl ?_ | refine hs.ld 10 rfl rfl ?_
  simp only [DI_int', DB_bool, DS_string, DP_pointer, DSl_slice, DM_map, DA_agg, DTup_tuple, DCons_cons, DNil_nil, NN_some, BIf_true, BIf_false, BIf_same, List.toList_toArray, Bool.not_true, Bool.not_false]
  first | refine hs.ldf 9 rfl rfl ?_ | refine hs.ld 9 rfl rfl ?_
  simp only [DI_int', DB_bool, DS_string, DP_pointer, DSl_slice, DM_map, DA_agg, DTup_tuple, DCons_cons, DNil_nil, NN_some, BIf_true, BIf_false, BIf_same, List.toList_toArray, Bool.not_true, Bool.not_false]
  first | refine hs.ldf 7 rfl rfl ?_ | refine hs.ld 7 rfl rfl ?_
  simp only [DI_int', DB_bool, DS_string, DP_pointer, DSl_slice, DM_map, DA_agg, DTup_tuple, DCons_cons, DNil_nil, NN_some, BIf_true, BIf_false, BIf_same, List.toList_toArray, Bool.not_true, Bool.not_false]
  refine BIf_beqp (by rw [i64w (by omega) (by omega)]; omega) ?_
  first | refine hs.ldf 10 rfl rfl ?_ | refine hs.ld 10 rfl rfl ?_
  simp only [DI_int', DB_bool, DS_string, DP_pointer, DSl_slice, DM_map, DA_agg, DTup_tuple, DCons_cons, DNil_nil, NN_some, BIf_true, BIf_false, BIf_same, List.toList_toArray, Bool.not_true, Bool.not_false]
  first | refine hs.ldf 9 rfl rfl ?_ | refine hs.ld 9 rfl rfl ?_
  simp only [DI_int', DB_bool, DS_string, DP_pointer, DSl_slice, DM_map, DA_agg, DTup_tuple, DCons_cons, DNil_nil, NN_some, BIf_true, BIf_false, BIf_same, List.toList_toArray, Bool.not_true, Bool.not_false]
  rw [c3, beq_self_eq_true]
  exact hs.fin 4 rfl _

end Go.Proofs.YtgkdkemhiglpdaaDoor.Trn

end
