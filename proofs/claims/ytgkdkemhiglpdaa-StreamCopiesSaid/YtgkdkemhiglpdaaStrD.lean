/- stream: Write. -/
import Derived.Test.YtgkdkemhiglpdaaStrC
set_option maxRecDepth 100000
set_option linter.unusedSimpArgs false
set_option linter.unusedVariables false
set_option linter.unnecessarySimpa false
set_option linter.unusedSectionVars false
namespace Go.Proofs.Ytgkdkemhiglpdaa.Str
open Go Go.Hw Go.Form Go.Proofs.Ytgkdkemhiglpdaa.W Go.Proofs.Ytgkdkemhiglpdaa.Dsk Go.Proofs.Ytgkdkemhiglpdaa.Are

/-- Words are written over others. -/
def setW (ws : List UInt64) (at' : Nat) (src : List UInt64) : List UInt64 := ws.take at' ++ src ++ ws.drop (at' + src.length)
theorem setW_len {ws src : List UInt64} {i : Nat} (h : i + src.length ≤ ws.length) : (setW ws i src).length = ws.length := by
  unfold setW; simp; omega
theorem setW_vals (ws src : List UInt64) (i : Nat) : setAt (wordVals ws) i (wordVals src) = wordVals (setW ws i src) := by
  unfold setAt setW wordVals
  simp

/-- A piece is written. -/
def wpc (d : D) (s : Nat) (at' : Nat) (src : List UInt64) : D := D.put (if src.length < D.per d then D.more d else d) s (setW (wordsB (d.now s)) at' src)
/-- All are. -/
def wrs (d : D) (x : X) : Nat → Nat → List UInt64 → D
  | 0, _, _ => d
  | k + 1, fr, src => if src = [] then d else wrs (wpc d (x.f + fr / D.per d) (fr % D.per d) (src.take (cN (D.per d) fr src.length))) x k (fr + cN (D.per d) fr src.length) (src.drop (cN (D.per d) fr src.length))

theorem put_now (d : D) (s : Int) (ws : List UInt64) (i : Int) : (D.put d s ws).now i = if i = s then form ws else d.now i := by
  unfold D.put D.now updB
  by_cases h : i = s
  · simp [h]
  · simp only [h, if_false]; rfl

theorem Ok.put {d : D} (h : Ok d) (i : Int) {ws : List UInt64} (hw : ws.length = D.per d) : Ok (D.put d i ws) := by
  have hp := Ok.per_le h
  refine ⟨h.sec, h.size, h.big, h.per, h.safe, fun k b hb => ?_, h.fz⟩
  have hb' : (if k = i then some (form ws) else d.cache k) = some b := hb
  split at hb'
  · cases hb'
    rw [form_length]; show 8 * ws.length = d.size; omega
  · exact h.cache k b hb'
theorem Ok.more {d : D} (h : Ok d) : Ok (D.more d) := Ok.rdN h 1
theorem Calm.put {d : D} (h : Calm d) (i : Int) (ws : List UInt64) : Calm (D.put d i ws) := ⟨h.down, h.fuse⟩
theorem Calm.more {d : D} (h : Calm d) : Calm (D.more d) := ⟨h.down, h.fuse⟩

theorem wpc_ok {d : D} (h : Ok d) (s at' : Nat) {src : List UInt64} (hl : at' + src.length ≤ D.per d) : Ok (wpc d s at' src) := by
  have hwl : (wordsB (d.now (s : Int))).length = D.per d := by rw [wordsB_len, h.now]; rfl
  unfold wpc
  split
  · exact Ok.put (Ok.more h) _ (by rw [setW_len (by omega)]; exact hwl)
  · exact Ok.put h _ (by rw [setW_len (by omega)]; exact hwl)
theorem wpc_calm {d : D} (h : Calm d) (s at' : Nat) (src : List UInt64) : Calm (wpc d s at' src) := by
  unfold wpc
  split
  · exact Calm.put (Calm.more h) _ _
  · exact Calm.put h _ _
theorem wpc_size (d : D) (s at' : Nat) (src : List UInt64) : (wpc d s at' src).size = d.size ∧ (wpc d s at' src).sec = d.sec := by
  unfold wpc
  split <;> exact ⟨rfl, rfl⟩
theorem wpc_per (d : D) (s at' : Nat) (src : List UInt64) : D.per (wpc d s at' src) = D.per d := by unfold D.per; rw [(wpc_size d s at' src).1]
theorem wpc_cnt (d : D) (s at' : Nat) (src : List UInt64) : (wpc d s at' src).wr = d.wr + 1 ∧ (wpc d s at' src).rd = d.rd + (if src.length < D.per d then 1 else 0) ∧ (wpc d s at' src).sy = d.sy := by
  unfold wpc
  split
  · exact ⟨rfl, rfl, rfl⟩
  · exact ⟨rfl, rfl, rfl⟩
theorem wpc_now (d : D) (s at' : Nat) (src : List UInt64) (i : Int) : (wpc d s at' src).now i = if i = s then form (setW (wordsB (d.now s)) at' src) else d.now i := by
  unfold wpc
  rw [put_now]
  split
  · rfl
  · split <;> rfl

theorem write_loop (K : Value → Hp → Prop) {p dp ap : Nat} {x : X} {cap peak : Int} {bufs : List (Nat × Nat × Option Addr)} {b rb mb : Nat} (hbm : ∀ y ∈ bufs, y.1 ≠ b) {vb : Nat} {R : As} {A4 : Option Addr} {n4 m4 : Nat} {all : List (Nat × Nat × Nat)} (hn4 : n4 = all.length) (hn40 : n4 ≤ 1000000000) :
    ∀ (k fr j : Nat) (d : D) (A : Option Addr) (m : Nat) (src ws : List UInt64) (H : Hp), Ok d → Calm d → On d x → d.rd + k ≤ 4611686010000000000 → d.wr + k ≤ 4611686010000000000 → src.length ≤ k → fr + src.length ≤ x.w → src.length ≤ m → all.drop j = pcs (D.per d) x.f k fr src.length → j ≤ n4 → (∀ H, R H → Cells H A (wordVals src)) → ws.length = D.per d →
      (∀ H, Sep [pts p (pipO dp ap x), Dk dp (wrs d x k fr src), Ar ap cap peak bufs, R] H → K (.int .i64 0) H) →
      Sep [pts p (pipO dp ap x), Dk dp d, Ar ap cap peak (bufs ++ [(b, D.per d, some ⟨rb, 0, none⟩)]), pts rb (.row (wordVals ws) 94 mb), Own 123 3 A4 n4 m4 (all.flatMap pcV), R, pts vb (.row [.pointer (some ⟨b, 0, none⟩)] 114 1)] H →
      W_stream_Pipe_Write.l9 K (k + 1) (some ⟨p, 0, none⟩) A src.length m (some ⟨b, 0, none⟩) A4 n4 m4 (n4 : Int) (j : Int) (some ⟨ap, 0, none⟩) (some ⟨vb, 0, none⟩) 1 1 H
  | k, fr, j, d, A, m, [], ws, H, hok, hc, hx, hrd, hwr, hn, hf, hm, hall, hj, hR, hws, hK, hs => by
    unfold W_stream_Pipe_Write.l9
    have e : pcs (D.per d) x.f k fr ([] : List UInt64).length = [] := by cases k <;> simp [pcs]
    have e2 : wrs d x k fr [] = d := by cases k <;> simp [wrs]
    rw [e] at hall
    have hjn : j = n4 := by
      have := congrArg List.length hall
      simp at this; omega
    subst hjn
    refine BIf_dneg (by omega) ?_
    refine (Give_oneD vb b (D.per d) (some ⟨rb, 0, none⟩) hbm).use hs [2, 6] rfl rfl ?_
    rintro _ _ H ⟨rfl, rfl⟩ hs
    refine hK H ?_
    rw [e2]
    exact hs.re [1, 2, 0, 5] rfl
  | 0, fr, j, d, A, m, w0 :: src0, ws, H, hok, hc, hx, hrd, hwr, hn, hf, hm, hall, hj, hR, hws, hK, hs => by simp at hn
  | k + 1, fr, j, d, A, m, w0 :: src0, ws, H, hok, hc, hx, hrd, hwr, hn, hf, hm, hall, hj, hR, hws, hK, hs => by
    generalize hsrc : w0 :: src0 = src at *
    have hne : src ≠ [] := by rw [← hsrc]; simp
    have hpos : 0 < src.length := by rw [← hsrc]; simp
    have hp := Ok.per_le hok
    have hsec := hok.sec
    have hroom : x.s * D.per d ≤ 1048576 * 512 := Nat.mul_le_mul (by have := hx.fit; omega) (by omega)
    have h4 := hx.room
    have hfit := hx.fit
    have e : pcs (D.per d) x.f (k + 1) fr src.length = (x.f + fr / D.per d, fr % D.per d, cN (D.per d) fr src.length) :: pcs (D.per d) x.f k (fr + cN (D.per d) fr src.length) (src.length - cN (D.per d) fr src.length) := by
      show (if src.length = 0 then [] else _) = _
      rw [if_neg (by omega)]
    have ew : wrs d x (k + 1) fr src = wrs (wpc d (x.f + fr / D.per d) (fr % D.per d) (src.take (cN (D.per d) fr src.length))) x k (fr + cN (D.per d) fr src.length) (src.drop (cN (D.per d) fr src.length)) := by
      show (if src = [] then d else _) = _
      rw [if_neg hne]
    rw [e] at hall
    rw [ew] at hK
    have hjlt : j < all.length := by
      have := congrArg List.length hall
      simp at this; omega
    have hcle := cN_le (D.per d) fr src.length
    have hcpos := cN_pos (per := D.per d) (fr := fr) (n := src.length) (by omega) hpos
    have hcper := cN_per (per := D.per d) (fr := fr) (n := src.length) (by omega)
    have hmod := Nat.mod_lt fr (show 0 < D.per d by omega)
    have hdiv : fr / D.per d < x.s := by
      rw [Nat.div_lt_iff_lt_mul (by omega)]; omega
    have hget : all[j] = (x.f + fr / D.per d, fr % D.per d, cN (D.per d) fr src.length) := by
      have := List.drop_eq_getElem_cons hjlt
      rw [this] at hall
      exact (List.cons.inj hall).1
    have hrest : all.drop (j + 1) = pcs (D.per d) x.f k (fr + cN (D.per d) fr src.length) (src.length - cN (D.per d) fr src.length) := by
      have := List.drop_eq_getElem_cons hjlt
      rw [this] at hall
      exact (List.cons.inj hall).2
    generalize hcv : cN (D.per d) fr src.length = c at *
    have hflat : ∀ (l : List (Nat × Nat × Nat)) (i : Nat) (hi : i < l.length), ((l.flatMap pcV).drop (i * 3)).take 3 = pcV l[i] := by
      intro l
      induction l with
      | nil => intro i hi; simp at hi
      | cons y l ih =>
        intro i hi
        rw [List.flatMap_cons]
        cases i with
        | zero => simp [pcV]
        | succ i =>
          rw [show (i + 1) * 3 = (pcV y).length + i * 3 by simp [pcV]; omega, List.drop_append]
          simp only [Nat.add_sub_cancel_left, List.getElem_cons_succ]
          rw [List.drop_eq_nil_of_le (by omega), List.nil_append]
          exact ih i (by simpa using hi)
    have hsec1 : ((x.f + fr / D.per d : Nat) : Int) < (d.sec : Int) := Int.ofNat_lt.2 (by omega)
    have htk : (src.take c).length = c := by simp; omega
    have hwl : (wordsB (d.now ((x.f + fr / D.per d : Nat) : Int))).length = D.per d := by rw [wordsB_len, hok.now]; rfl
    unfold W_stream_Pipe_Write.l9
    refine BIf_dpos (by omega) ?_
    refine (hs.own 4 rfl).rdA (ys := pcV all[j]) rfl (by omega) (hflat all j hjlt) ?_
    rw [hget]
    refine hs.nw fun b2 H hs => ?_
    refine hs.stw 7 rfl rfl rfl rfl fun H hs => ?_
    have hs : Sep [pts p (pipO dp ap x), Dk dp d, Ar ap cap peak (bufs ++ [(b, D.per d, some ⟨rb, 0, none⟩)]), pts rb (.row (wordVals ws) 94 mb), Own 123 3 A4 n4 m4 (all.flatMap pcV), R, pts vb (.row [.pointer (some ⟨b, 0, none⟩)] 114 1),
      pts b2 (.obj (.cells #[.int .i64 ((x.f + fr / D.per d : Nat) : Int), .int .i64 ((fr % D.per d : Nat) : Int), .int .i64 (c : Int)] 123))] H := hs
    -- behind the load, if there was one
    have join : ∀ (d1 : D) (ws1 : List UInt64) (H : Hp), (d1 = if c < D.per d then D.more d else d) → ws1.length = D.per d → (c < D.per d → ws1 = wordsB (d.now ((x.f + fr / D.per d : Nat) : Int))) →
        Sep [pts p (pipO dp ap x), Dk dp d1, Ar ap cap peak (bufs ++ [(b, D.per d, some ⟨rb, 0, none⟩)]), pts rb (.row (wordVals ws1) 94 mb), Own 123 3 A4 n4 m4 (all.flatMap pcV), R, pts vb (.row [.pointer (some ⟨b, 0, none⟩)] 114 1),
          pts b2 (.obj (.cells #[.int .i64 ((x.f + fr / D.per d : Nat) : Int), .int .i64 ((fr % D.per d : Nat) : Int), .int .i64 (c : Int)] 123))] H →
        W_stream_Pipe_Write.j15 K (W_stream_Pipe_Write.l9 K (k + 1)) (some ⟨p, 0, none⟩) A src.length m (some ⟨b, 0, none⟩) ⟨b2, 0, none⟩ A4 n4 m4 (n4 : Int) (j : Int) (some ⟨ap, 0, none⟩) (some ⟨vb, 0, none⟩) 1 1 H := fun d1 ws1 H hd1 hw1 hwe hs => by
      have hd1p : D.per d1 = D.per d ∧ Ok d1 ∧ Calm d1 ∧ d1.wr = d.wr ∧ d1.sec = d.sec := by
        rw [hd1]; split
        · exact ⟨rfl, Ok.more hok, Calm.more hc, rfl, rfl⟩
        · exact ⟨rfl, hok, hc, rfl, rfl⟩
      obtain ⟨q1, q2, q3, q4, q5⟩ := hd1p
      have hwset : setW ws1 (fr % D.per d) (src.take c) = setW (wordsB (d.now ((x.f + fr / D.per d : Nat) : Int))) (fr % D.per d) (src.take c) := by
        by_cases hlt : c < D.per d
        · rw [hwe hlt]
        · have h0 : fr % D.per d = 0 := by omega
          unfold setW
          rw [h0, htk, List.drop_eq_nil_of_le (by omega), List.drop_eq_nil_of_le (by omega)]
          simp
      have hdisk : D.put d1 ((x.f + fr / D.per d : Nat) : Int) (setW ws1 (fr % D.per d) (src.take c)) = wpc d (x.f + fr / D.per d) (fr % D.per d) (src.take c) := by
        unfold wpc
        rw [hwset, hd1, htk]
      unfold W_stream_Pipe_Write.j15
      simp only [NN_some, Addr.add_lit', Addr.add_zero, Nat.zero_add, Nat.add_zero]
      refine QCall.use (Words_s hs 2 rfl (List.mem_append_right _ (List.mem_singleton.2 rfl))) ?_
      simp only [DI_int', DB_bool, DS_string, DP_pointer, DSl_slice, DM_map, DA_agg, DTup_tuple, DCons_cons, DNil_nil, NN_some, BIf_true, BIf_false, BIf_same, List.toList_toArray, Bool.not_true, Bool.not_false]
      refine hs.ld 7 rfl rfl ?_
      simp only [DI_int', DB_bool, DS_string, DP_pointer, DSl_slice, DM_map, DA_agg, DTup_tuple, DCons_cons, DNil_nil, NN_some, BIf_true, BIf_false, BIf_same, List.toList_toArray, Bool.not_true, Bool.not_false]
      refine slB_from rfl (by omega) ?_
      refine hs.ld 7 rfl rfl ?_
      simp only [DI_int', DB_bool, DS_string, DP_pointer, DSl_slice, DM_map, DA_agg, DTup_tuple, DCons_cons, DNil_nil, NN_some, BIf_true, BIf_false, BIf_same, List.toList_toArray, Bool.not_true, Bool.not_false]
      refine slB_to rfl (by omega) ?_
      rw [slA_at (by omega), Nat.zero_add]
      have hcell : ∀ {L : List As} {H : Hp}, Sep L H → L[5]? = some R → Cells H A (wordVals src) := fun hs h5 => by
        obtain ⟨H1, hR1, hle⟩ := hs.see 5 h5
        exact (hR H1 hR1).le hle
      refine hs.cp 3 (b := rb) (off := fr % D.per d) (n := D.per d - fr % D.per d) (k := c - 0) (xs := wordVals ws1) (e' := 94) (m := mb) (ys := wordVals (src.take c)) (by rfl) cell_u64 rfl ?_ ?_ (fun y hy => ?_) fun H hs => ?_
      · have hmin : Nat.min (c - 0) (D.per d - fr % D.per d) = c - 0 := Nat.min_eq_left (by omega)
        rw [hmin]
        have h1 := ((hcell hs rfl).shift (m := m) (l := 0) (by rw [wordVals_length]; omega)).take c
        rw [List.drop_zero, show (wordVals src).take c = wordVals (src.take c) by unfold wordVals; rw [List.map_take]] at h1
        exact src_of h1 (by rw [wordVals_length, htk]; omega)
      · rw [wordVals_length, wordVals_length, htk, hw1]; omega
      · obtain ⟨z, _, rfl⟩ := List.mem_map.1 hy; rfl
      simp only [DI_int', DB_bool, DS_string, DP_pointer, DSl_slice, DM_map, DA_agg, DTup_tuple, DCons_cons, DNil_nil, NN_some, BIf_true, BIf_false, BIf_same, List.toList_toArray, Bool.not_true, Bool.not_false]
      rw [setW_vals] at hs
      refine hs.ld 7 rfl rfl ?_
      simp only [DI_int', DB_bool, DS_string, DP_pointer, DSl_slice, DM_map, DA_agg, DTup_tuple, DCons_cons, DNil_nil, NN_some, BIf_true, BIf_false, BIf_same, List.toList_toArray, Bool.not_true, Bool.not_false]
      have hs : Sep [pts p (pipO dp ap x), Dk dp d1, Ar ap cap peak (bufs ++ [(b, D.per d, some ⟨rb, 0, none⟩)]), pts rb (.row (wordVals (setW ws1 (fr % D.per d) (src.take c))) 94 mb), Own 123 3 A4 n4 m4 (all.flatMap pcV), R, pts vb (.row [.pointer (some ⟨b, 0, none⟩)] 114 1),
          pts b2 (.obj (.cells #[.int .i64 ((x.f + fr / D.per d : Nat) : Int), .int .i64 ((fr % D.per d : Nat) : Int), .int .i64 (c : Int)] 123))] H := hs
      have hsl : (setW ws1 (fr % D.per d) (src.take c)).length = D.per d := by rw [setW_len (by omega)]; exact hw1
      refine (store_tr (p := p) (ap := ap) (x := x) (cap := cap) (peak := peak) (b := b) (rb := rb) (m := mb) (d := d1) (ws := setW ws1 (fr % D.per d) (src.take c)) q2 q3 (by omega) ((x.f + fr / D.per d : Nat) : Int) (Int.natCast_nonneg _) (by rw [q5]; exact hsec1) (bufs := bufs ++ [(b, D.per d, some ⟨rb, 0, none⟩)]) (by rw [q1]; exact List.mem_append_right _ (List.mem_singleton.2 rfl)) (by rw [q1]; exact hsl)).use hs [0, 1, 2, 3] rfl rfl ?_
      rintro _ _ H ⟨rfl, rfl⟩ hs
      rw [hdisk] at hs
      simp only [DI_int', DB_bool, DS_string, DP_pointer, DSl_slice, DM_map, DA_agg, DTup_tuple, DCons_cons, DNil_nil, NN_some, BIf_true, BIf_false, BIf_same, List.toList_toArray, Bool.not_true, Bool.not_false]
      refine BIf_bnen rfl ?_
      refine hs.ld 7 rfl rfl ?_
      simp only [DI_int', DB_bool, DS_string, DP_pointer, DSl_slice, DM_map, DA_agg, DTup_tuple, DCons_cons, DNil_nil, NN_some, BIf_true, BIf_false, BIf_same, List.toList_toArray, Bool.not_true, Bool.not_false]
      refine slB_from rfl (by omega) ?_
      rw [i64w (x := (j : Int) + 1) (by omega) (by omega)]
      have hcnt := wpc_cnt d (x.f + fr / D.per d) (fr % D.per d) (src.take c)
      have hsz := wpc_size d (x.f + fr / D.per d) (fr % D.per d) (src.take c)
      have hper := wpc_per d (x.f + fr / D.per d) (fr % D.per d) (src.take c)
      have hdl : (src.drop c).length = src.length - c := by simp
      rw [← hdl]
      refine write_loop K (rb := rb) (mb := mb) hbm hn4 hn40 k (fr + c) (j + 1) _ _ (m - c) (src.drop c) (setW ws1 (fr % D.per d) (src.take c)) H (wpc_ok hok _ _ (by omega)) (wpc_calm hc _ _ _) ⟨hx.w1, hx.s1, by rw [hsz.2]; exact hfit, by rw [hper]; exact h4⟩ (by rw [hcnt.2.1]; split <;> omega) (by rw [hcnt.1]; omega) (by omega) (by omega) (by omega) (by rw [hper, hdl]; exact hrest) (by omega) (fun H hRH => ?_) (by rw [hper]; exact hsl) hK ?_
      · have := (hR H hRH).shift (m := m) (l := c) (by rw [wordVals_length]; omega)
        rw [show (wordVals src).drop c = wordVals (src.drop c) by unfold wordVals; rw [List.map_drop]] at this
        exact this
      · rw [hper]
        exact hs.re [0, 1, 2, 3, 4, 5, 6] rfl
    simp only [NN_some, Addr.add_lit', Addr.add_zero, Nat.zero_add, Nat.add_zero]
    refine hs.ld 7 rfl rfl ?_
    simp only [DI_int', DB_bool, DS_string, DP_pointer, DSl_slice, DM_map, DA_agg, DTup_tuple, DCons_cons, DNil_nil, NN_some, BIf_true, BIf_false, BIf_same, List.toList_toArray, Bool.not_true, Bool.not_false]
    refine QCall.use (per_s hs 0 1 rfl rfl hok) ?_
    simp only [DI_int', DB_bool, DS_string, DP_pointer, DSl_slice, DM_map, DA_agg, DTup_tuple, DCons_cons, DNil_nil, NN_some, BIf_true, BIf_false, BIf_same, List.toList_toArray, Bool.not_true, Bool.not_false]
    by_cases hlt : c < D.per d
    · refine BIf_dpos (by omega) ?_
      refine hs.ld 7 rfl rfl ?_
      simp only [DI_int', DB_bool, DS_string, DP_pointer, DSl_slice, DM_map, DA_agg, DTup_tuple, DCons_cons, DNil_nil, NN_some, BIf_true, BIf_false, BIf_same, List.toList_toArray, Bool.not_true, Bool.not_false]
      refine (load_tr (p := p) (ap := ap) (x := x) (cap := cap) (peak := peak) (b := b) (rb := rb) (m := mb) hok hc (by omega) ((x.f + fr / D.per d : Nat) : Int) (Int.natCast_nonneg _) hsec1 (bufs := bufs ++ [(b, D.per d, some ⟨rb, 0, none⟩)]) (List.mem_append_right _ (List.mem_singleton.2 rfl)) (xs := wordVals ws) (by rw [wordVals_length]; exact hws)).use hs [0, 1, 2, 3] rfl rfl ?_
      rintro _ _ H ⟨rfl, rfl⟩ hs
      simp only [DI_int', DB_bool, DS_string, DP_pointer, DSl_slice, DM_map, DA_agg, DTup_tuple, DCons_cons, DNil_nil, NN_some, BIf_true, BIf_false, BIf_same, List.toList_toArray, Bool.not_true, Bool.not_false]
      refine BIf_bnen rfl ?_
      exact join (D.more d) _ H (by rw [if_pos hlt]) hwl (fun _ => rfl) (hs.re [0, 1, 2, 3, 4, 5, 6, 7] rfl)
    · refine BIf_dneg (by omega) ?_
      exact join d ws H (by rw [if_neg hlt]) hws (fun h => absurd h hlt) hs

/-- Words are written. -/
theorem Write_tr {p dp ap : Nat} {d : D} {x : X} {cap peak : Int} {bufs : List (Nat × Nat × Option Addr)} {R : As} {A : Option Addr} {n m : Nat} {src : List UInt64} (hok : Ok d) (hc : Calm d) (hx : On d x) (ho : d.rd ≤ 4611686000000000000 ∧ d.wr ≤ 4611686000000000000) (fr : Nat) (hn : n = src.length) (hn1 : 1 ≤ n) (hf : fr + n ≤ x.w) (hm : n ≤ m) (hcap : (D.per d : Int) ≤ cap - sumB bufs) (hR : ∀ H, R H → Cells H A (wordVals src)) :
    Tr Try.prog 18 #[.pointer (some ⟨p, 0, none⟩), .int .i64 fr, .slice A n m] [pts p (pipO dp ap x), Dk dp d, Ar ap cap peak bufs, R] fun v M =>
      v = .int .i64 0 ∧ M = [pts p (pipO dp ap x), Dk dp (wrs d x n fr src), Ar ap cap (mx peak (sumB bufs + D.per d)) bufs, R] := fun H hs => by
  subst hn
  have hp := Ok.per_le hok
  have hsec := hok.sec
  have hroom : x.s * D.per d ≤ 1048576 * 512 := Nat.mul_le_mul (by have := hx.fit; omega) (by omega)
  have h4 := hx.room
  have hpl := pcs_len (D.per d) x.f src.length fr src.length
  apply W_stream_Pipe_Write.ok
  unfold W_stream_Pipe_Write
  refine (pieces_tr (dp := dp) (ap := ap) hok hx fr src.length hf).use hs [0, 1] rfl rfl ?_
  rintro _ _ H ⟨A4, m4, rfl, rfl⟩ hs
  simp only [DI_int', DB_bool, DS_string, DP_pointer, DSl_slice, DM_map, DA_agg, DTup_tuple, DCons_cons, DNil_nil, NN_some, BIf_true, BIf_false, BIf_same, List.toList_toArray, Bool.not_true, Bool.not_false]
  refine BIf_bnen rfl (BIf_beqn (by omega) ?_)
  simp only [NN_some, Addr.add_lit', Addr.add_zero, Nat.zero_add, Nat.add_zero]
  have rest : ∀ (b rb : Nat) (H : Hp), (∀ y ∈ bufs, y.1 ≠ b) → Sep [Ar ap cap (if sumB bufs + D.per d > peak then sumB bufs + D.per d else peak) (bufs ++ [(b, D.per d, some ⟨rb, 0, none⟩)]), pts rb (.row (zerosU64 (D.per d)) 94 (D.per d)), pts p (pipO dp ap x), Dk dp d, Own 123 3 A4 (pcs (D.per d) x.f src.length fr src.length).length m4 ((pcs (D.per d) x.f src.length fr src.length).flatMap pcV), R] H →
      W_stream_Pipe_Write.j5 (fun v H' => ∃ M, (v = .int .i64 0 ∧ M = [pts p (pipO dp ap x), Dk dp (wrs d x src.length fr src), Ar ap cap (mx peak (sumB bufs + D.per d)) bufs, R]) ∧ Sep M H') (some ⟨p, 0, none⟩) A src.length m A4 (pcs (D.per d) x.f src.length fr src.length).length m4 (0 : Int) (some ⟨b, 0, none⟩) H := fun b rb H hbm hs => by
    unfold W_stream_Pipe_Write.j5
    refine BIf_bnen rfl ?_
    simp only [NN_some, Addr.add_lit', Addr.add_zero, Nat.zero_add, Nat.add_zero]
    refine hs.ld 2 rfl rfl ?_
    simp only [DI_int', DB_bool, DS_string, DP_pointer, DSl_slice, DM_map, DA_agg, DTup_tuple, DCons_cons, DNil_nil, NN_some, BIf_true, BIf_false, BIf_same, List.toList_toArray, Bool.not_true, Bool.not_false]
    refine hs.nw fun vb H hs => ?_
    refine ⟨src.length + 1, ?_⟩
    have hz : zerosU64 (D.per d) = wordVals (List.replicate (D.per d) 0) := by
      unfold zerosU64
      rw [zeroRow_one]
      unfold wordVals
      rw [List.map_replicate]; rfl
    refine write_loop _ (p := p) (dp := dp) (ap := ap) (x := x) (cap := cap) (peak := mx peak (sumB bufs + D.per d)) (bufs := bufs) (b := b) (rb := rb) (mb := D.per d) (vb := vb) (R := R) (all := pcs (D.per d) x.f src.length fr src.length) hbm rfl (by omega) src.length fr 0 d A m src (List.replicate (D.per d) 0) H hok hc hx (by omega) (by omega) (Nat.le_refl _) hf hm rfl (Nat.zero_le _) hR (by simp) (fun H hs => ⟨_, ⟨rfl, rfl⟩, hs⟩) ?_
    rw [← hz]
    exact hs.re [2, 3, 0, 1, 4, 5, 6] rfl
  have fresh : ∀ {L : List As} {H : Hp} (b rb : Nat) (pk : Int), Sep L H → L[0]? = some (Ar ap cap pk (bufs ++ [(b, D.per d, some ⟨rb, 0, none⟩)])) → ∀ y ∈ bufs, y.1 ≠ b := fun b rb pk hs h0 y hy e => by
    obtain ⟨mp, cl, tk, hA⟩ := Sep.ar hs 0 h0
    have := hA.bn
    rw [List.map_append, List.nodup_append] at this
    exact this.2.2 y.1 (List.mem_map_of_mem hy) b (by simp) e
  refine ⟨?_, ?_⟩
  · refine hs.ld 0 rfl rfl ?_
    simp only [DI_int', DB_bool, DS_string, DP_pointer, DSl_slice, DM_map, DA_agg, DTup_tuple, DCons_cons, DNil_nil, NN_some, BIf_true, BIf_false, BIf_same, List.toList_toArray, Bool.not_true, Bool.not_false]
    refine HCalls.use (per_s hs 0 1 rfl rfl hok) ?_
    try simp only [DI_int', DB_bool, DS_string, DP_pointer, DSl_slice, DM_map, DA_agg, DTup_tuple, DCons_cons, DNil_nil, NN_some, BIf_true, BIf_false, BIf_same, List.toList_toArray, Bool.not_true, Bool.not_false]
    refine (Take_tr (a := ap) (cap := cap) (peak := peak) (bufs := bufs) (n := D.per d) (by omega) hcap).use hs [3] rfl rfl ?_
    rintro _ _ H ⟨b, rb, rfl, rfl⟩ hs
    simp only [DI_int', DB_bool, DS_string, DP_pointer, DSl_slice, DM_map, DA_agg, DTup_tuple, DCons_cons, DNil_nil, NN_some, BIf_true, BIf_false, BIf_same, List.toList_toArray, Bool.not_true, Bool.not_false]
    exact rest b rb H (fresh b rb _ hs rfl) (hs.re [0, 1, 2, 3, 4, 5] rfl)
  · refine HCalls.use (per_s hs 0 1 rfl rfl hok) ?_
    try simp only [DI_int', DB_bool, DS_string, DP_pointer, DSl_slice, DM_map, DA_agg, DTup_tuple, DCons_cons, DNil_nil, NN_some, BIf_true, BIf_false, BIf_same, List.toList_toArray, Bool.not_true, Bool.not_false]
    refine hs.ld 0 rfl rfl ?_
    simp only [DI_int', DB_bool, DS_string, DP_pointer, DSl_slice, DM_map, DA_agg, DTup_tuple, DCons_cons, DNil_nil, NN_some, BIf_true, BIf_false, BIf_same, List.toList_toArray, Bool.not_true, Bool.not_false]
    refine (Take_tr (a := ap) (cap := cap) (peak := peak) (bufs := bufs) (n := D.per d) (by omega) hcap).use hs [3] rfl rfl ?_
    rintro _ _ H ⟨b, rb, rfl, rfl⟩ hs
    simp only [DI_int', DB_bool, DS_string, DP_pointer, DSl_slice, DM_map, DA_agg, DTup_tuple, DCons_cons, DNil_nil, NN_some, BIf_true, BIf_false, BIf_same, List.toList_toArray, Bool.not_true, Bool.not_false]
    exact rest b rb H (fresh b rb _ hs rfl) (hs.re [0, 1, 2, 3, 4, 5] rfl)

end Go.Proofs.Ytgkdkemhiglpdaa.Str
