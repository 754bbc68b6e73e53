/- stream: pieces, and Read. -/
import Derived.Test.YtgkdkemhiglpdaaStrB
set_option maxRecDepth 100000
set_option linter.unusedSimpArgs false
set_option linter.unusedVariables false
set_option linter.unnecessarySimpa false
set_option linter.unusedSectionVars false
namespace Go.Proofs.Ytgkdkemhiglpdaa.Str
open Go Go.Hw Go.Form Go.Proofs.Ytgkdkemhiglpdaa.W Go.Proofs.Ytgkdkemhiglpdaa.Dsk Go.Proofs.Ytgkdkemhiglpdaa.Are

def cN (per fr n : Nat) : Nat := if per - fr % per < n then per - fr % per else n
/-- The pieces of words. -/
def pcs (per f : Nat) : Nat → Nat → Nat → List (Nat × Nat × Nat)
  | 0, _, _ => []
  | k + 1, fr, n => if n = 0 then [] else (f + fr / per, fr % per, cN per fr n) :: pcs per f k (fr + cN per fr n) (n - cN per fr n)
def pcV (y : Nat × Nat × Nat) : List Value := [.int .i64 (y.1 : Int), .int .i64 (y.2.1 : Int), .int .i64 (y.2.2 : Int)]

theorem cN_le (per fr n : Nat) : cN per fr n ≤ n := by unfold cN; split <;> omega
theorem cN_pos {per fr n : Nat} (hp : 0 < per) (hn : 0 < n) : 0 < cN per fr n := by
  have := Nat.mod_lt fr hp
  unfold cN; split <;> omega
theorem cN_per {per fr n : Nat} (hp : 0 < per) : fr % per + cN per fr n ≤ per := by
  have := Nat.mod_lt fr hp
  unfold cN; split <;> omega

theorem cell_pc : cellInfo Try.prog 123 = some (3, 24, some #[.int .i64 0, .int .i64 0, .int .i64 0]) := by kernel_rfl

theorem pieces_loop (K : Value → Hp → Prop) {p dp ap : Nat} {d : D} {x : X} (hok : Ok d) (hx : On d x) :
    ∀ (k fr n : Nat) (A : Option Addr) (c m : Nat) (acc : List (Nat × Nat × Nat)) (H : Hp), n ≤ k → fr + n ≤ x.w → acc.length = c → c + n ≤ 1000000000 →
      (∀ A' m' H', Sep [pts p (pipO dp ap x), Dk dp d, Own 123 3 A' (acc ++ pcs (D.per d) x.f k fr n).length m' ((acc ++ pcs (D.per d) x.f k fr n).flatMap pcV)] H' → K (.tuple #[.slice A' (acc ++ pcs (D.per d) x.f k fr n).length m', .int .i64 0]) H') →
      Sep [pts p (pipO dp ap x), Dk dp d, Own 123 3 A c m (acc.flatMap pcV)] H → W_stream_Pipe_pieces.l4 K (k + 1) (some ⟨p, 0, none⟩) (fr : Int) (n : Int) A c m H
  | k, fr, 0, A, c, m, acc, H, hn, hf, hc, hcn, hk, hs => by
    unfold W_stream_Pipe_pieces.l4
    refine BIf_dneg (by omega) ?_
    have e : pcs (D.per d) x.f k fr 0 = [] := by cases k <;> simp [pcs]
    rw [e, List.append_nil, hc] at hk
    exact hk A m H hs
  | 0, fr, n + 1, A, c, m, acc, H, hn, hf, hc, hcn, hk, hs => by omega
  | k + 1, fr, n + 1, A, c, m, acc, H, hn, hf, hc, hcn, hk, hs => by
    have hp := Ok.per_le hok
    have hsec := hok.sec
    have hroom : x.s * D.per d ≤ 1048576 * 512 := Nat.mul_le_mul (by have := hx.fit; omega) (by omega)
    have h4 := hx.room
    have hfit := hx.fit
    unfold W_stream_Pipe_pieces.l4
    refine BIf_dpos (by omega) ?_
    simp only [NN_some, Addr.add_lit', Addr.add_zero, Nat.zero_add, Nat.add_zero]
    refine hs.lda 0 rfl (Nat.le_refl _) ?_
    refine QCall.use (per_s hs 0 1 rfl rfl hok) ?_
    simp only [DI_int', DB_bool, DS_string, DP_pointer, DSl_slice, DM_map, DA_agg, DTup_tuple, DCons_cons, DNil_nil, NN_some, BIf_true, BIf_false, BIf_same, List.toList_toArray, Bool.not_true, Bool.not_false]
    refine QCall.use (Lay.Sector_ok x.f x.s x.w (D.per d) fr ⟨by omega, by omega⟩ (by omega) H) ?_
    have hdiv : fr / D.per d < x.s := by
      rw [Nat.div_lt_iff_lt_mul (by omega)]; omega
    have hS : Lay.SectorV x.f x.s x.w (D.per d) fr = (((x.f + fr / D.per d : Nat) : Int), ((fr % D.per d : Nat) : Int), (0 : Int)) := by
      unfold Lay.SectorV
      have e : Int.tdiv (fr : Int) (D.per d : Int) = ((fr / D.per d : Nat) : Int) := rfl
      have e2 : Int.tmod (fr : Int) (D.per d : Int) = ((fr % D.per d : Nat) : Int) := rfl
      rw [e, e2, if_neg (by omega)]
      simp
    rw [hS]
    simp only [DI_int', DB_bool, DS_string, DP_pointer, DSl_slice, DM_map, DA_agg, DTup_tuple, DCons_cons, DNil_nil, NN_some, BIf_true, BIf_false, BIf_same, List.toList_toArray, Bool.not_true, Bool.not_false]
    refine BIf_bnen rfl ?_
    refine HCalls.use (per_s hs 0 1 rfl rfl hok) ?_
    try simp only [DI_int', DB_bool, DS_string, DP_pointer, DSl_slice, DM_map, DA_agg, DTup_tuple, DCons_cons, DNil_nil, NN_some, BIf_true, BIf_false, BIf_same, List.toList_toArray, Bool.not_true, Bool.not_false]
    have hmod := Nat.mod_lt fr (show 0 < D.per d by omega)
    rw [i64w (x := (D.per d : Int) - ((fr % D.per d : Nat) : Int)) (by omega) (by omega)]
    have hcN : (if (D.per d : Int) - ((fr % D.per d : Nat) : Int) < ((n + 1 : Nat) : Int) then (D.per d : Int) - ((fr % D.per d : Nat) : Int) else ((n + 1 : Nat) : Int)) = ((cN (D.per d) fr (n + 1) : Nat) : Int) := by
      unfold cN
      by_cases h : D.per d - fr % D.per d < n + 1
      · rw [if_pos h, if_pos (by omega)]; omega
      · rw [if_neg h, if_neg (by omega)]
    rw [hcN]
    have hcle := cN_le (D.per d) fr (n + 1)
    have hcpos := cN_pos (per := D.per d) (fr := fr) (n := n + 1) (by omega) (by omega)
    refine hs.appS 2 (by rfl) cell_pc rfl (by omega) (by omega) rfl (by rfl) (by omega) (by omega) fun A' m' H hs => ?_
    simp only [DI_int', DB_bool, DS_string, DP_pointer, DSl_slice, DM_map, DA_agg, DTup_tuple, DCons_cons, DNil_nil, NN_some, BIf_true, BIf_false, BIf_same, List.toList_toArray, Bool.not_true, Bool.not_false]
    rw [i64w (x := (fr : Int) + ((cN (D.per d) fr (n + 1) : Nat) : Int)) (by omega) (by omega), i64w (x := ((n + 1 : Nat) : Int) - ((cN (D.per d) fr (n + 1) : Nat) : Int)) (by omega) (by omega)]
    rw [show (fr : Int) + ((cN (D.per d) fr (n + 1) : Nat) : Int) = ((fr + cN (D.per d) fr (n + 1) : Nat) : Int) by omega, show ((n + 1 : Nat) : Int) - ((cN (D.per d) fr (n + 1) : Nat) : Int) = ((n + 1 - cN (D.per d) fr (n + 1) : Nat) : Int) by omega]
    have e : pcs (D.per d) x.f (k + 1) fr (n + 1) = (x.f + fr / D.per d, fr % D.per d, cN (D.per d) fr (n + 1)) :: pcs (D.per d) x.f k (fr + cN (D.per d) fr (n + 1)) (n + 1 - cN (D.per d) fr (n + 1)) := by
      show (if n + 1 = 0 then [] else _) = _
      rw [if_neg (by omega)]
    refine pieces_loop K (dp := dp) (ap := ap) hok hx k _ _ A' (c + 1) m' (acc ++ [(x.f + fr / D.per d, fr % D.per d, cN (D.per d) fr (n + 1))]) H (by omega) (by omega) (by rw [List.length_append]; simp; exact hc) (by omega) (fun A' m' H' hs => ?_) ?_
    · rw [List.append_assoc] at hs ⊢
      rw [show [(x.f + fr / D.per d, fr % D.per d, cN (D.per d) fr (n + 1))] ++ pcs (D.per d) x.f k (fr + cN (D.per d) fr (n + 1)) (n + 1 - cN (D.per d) fr (n + 1)) = pcs (D.per d) x.f (k + 1) fr (n + 1) by rw [e]; rfl] at hs ⊢
      exact hk A' m' H' hs
    · rw [List.flatMap_append]
      exact hs

theorem pieces_tr {p dp ap : Nat} {d : D} {x : X} (hok : Ok d) (hx : On d x) (fr n : Nat) (hf : fr + n ≤ x.w) : Tr Try.prog 55 #[.pointer (some ⟨p, 0, none⟩), .int .i64 fr, .int .i64 n] [pts p (pipO dp ap x), Dk dp d] fun v M =>
    ∃ A m, v = .tuple #[.slice A (pcs (D.per d) x.f n fr n).length m, .int .i64 0] ∧ M = [pts p (pipO dp ap x), Dk dp d, Own 123 3 A (pcs (D.per d) x.f n fr n).length m ((pcs (D.per d) x.f n fr n).flatMap pcV)] := fun H hs => by
  have hp := Ok.per_le hok
  have hsec := hok.sec
  have hroom : x.s * D.per d ≤ 1048576 * 512 := Nat.mul_le_mul (by have := hx.fit; omega) (by omega)
  have h4 := hx.room
  apply W_stream_Pipe_pieces.ok
  unfold W_stream_Pipe_pieces
  refine BIf_dneg (by omega) ?_
  refine HCalls.use (words_s hs 0 rfl) ?_
  try simp only [DI_int', DB_bool, DS_string, DP_pointer, DSl_slice, DM_map, DA_agg, DTup_tuple, DCons_cons, DNil_nil, NN_some, BIf_true, BIf_false, BIf_same, List.toList_toArray, Bool.not_true, Bool.not_false]
  refine BIf_dneg (by omega) ?_
  refine HCalls.use (words_s hs 0 rfl) ?_
  try simp only [DI_int', DB_bool, DS_string, DP_pointer, DSl_slice, DM_map, DA_agg, DTup_tuple, DCons_cons, DNil_nil, NN_some, BIf_true, BIf_false, BIf_same, List.toList_toArray, Bool.not_true, Bool.not_false]
  rw [i64w (x := (x.w : Int) - fr) (by omega) (by omega)]
  refine BIf_dneg (by omega) ⟨n + 1, ?_⟩
  have e0 : Sep [pts p (pipO dp ap x), Dk dp d, Own 123 3 none 0 0 (([] : List (Nat × Nat × Nat)).flatMap pcV)] H := by
    have : Sep (Own 123 3 none 0 0 [] :: [pts p (pipO dp ap x), Dk dp d]) H := ⟨fun _ => none, H, fun _ _ h => (nomatch h), Hp.le_refl _, fun _ => .inl rfl, Own.none _ _ _, hs⟩
    exact this.re [1, 2, 0] rfl
  refine pieces_loop _ (dp := dp) (ap := ap) hok hx n fr n none 0 0 [] H (Nat.le_refl _) hf rfl (by omega) (fun A' m' H' hs => ?_) e0
  exact ⟨_, ⟨A', m', rfl, rfl⟩, hs⟩

/-- Words that aren't there. -/
theorem pieces_no {p dp ap : Nat} {x : X} (fr : Int) (n : Nat) (hw : x.w ≤ 9000000000000000000) (hf : fr < 0 ∨ (x.w : Int) < fr + n) (hn : n ≤ 9000000000000000000) {L : List As} {H : Hp} (hs : Sep L H) (i : Nat) (hi : L[i]? = some (pts p (pipO dp ap x))) :
    HCalls Try.prog 55 #[.pointer (some ⟨p, 0, none⟩), .int .i64 fr, .int .i64 n] H (RetE (.tuple #[.slice none 0 0, .int .i64 2]) H) := by
  apply W_stream_Pipe_pieces.ok
  unfold W_stream_Pipe_pieces
  by_cases h1 : fr < 0
  · exact BIf_dpos h1 (RetE.mk _ _)
  refine BIf_dneg h1 ?_
  refine HCalls.use (words_s hs i hi) ?_
  try simp only [DI_int', DB_bool, DS_string, DP_pointer, DSl_slice, DM_map, DA_agg, DTup_tuple, DCons_cons, DNil_nil, NN_some, BIf_true, BIf_false, BIf_same, List.toList_toArray, Bool.not_true, Bool.not_false]
  by_cases h2 : fr > x.w
  · exact BIf_dpos h2 (RetE.mk _ _)
  refine BIf_dneg h2 ?_
  refine HCalls.use (words_s hs i hi) ?_
  try simp only [DI_int', DB_bool, DS_string, DP_pointer, DSl_slice, DM_map, DA_agg, DTup_tuple, DCons_cons, DNil_nil, NN_some, BIf_true, BIf_false, BIf_same, List.toList_toArray, Bool.not_true, Bool.not_false]
  rw [i64w (x := (x.w : Int) - fr) (by omega) (by omega)]
  exact BIf_dpos (by omega) (RetE.mk _ _)

/-- A word of a pipe. -/
def pw (d : D) (x : X) (i : Nat) : UInt64 := ((wordsB (d.now ((x.f + i / D.per d : Nat) : Int)))[i % D.per d]?).getD 0
def pws (d : D) (x : X) (fr n : Nat) : List UInt64 := (List.range n).map fun i => pw d x (fr + i)
theorem pws_len (d : D) (x : X) (fr n : Nat) : (pws d x fr n).length = n := by simp [pws]
theorem pws_add (d : D) (x : X) (fr a b : Nat) : pws d x fr (a + b) = pws d x fr a ++ pws d x (fr + a) b := by
  unfold pws
  rw [List.range_add, List.map_append, List.map_map]
  congr 1
  apply List.map_congr_left
  intro i _
  simp only [Function.comp]
  congr 1; omega

theorem piece_words {d : D} (hok : Ok d) (x : X) {fr k : Nat} (h : fr % D.per d + k ≤ D.per d) : ((wordsB (d.now ((x.f + fr / D.per d : Nat) : Int))).drop (fr % D.per d)).take k = pws d x fr k := by
  have hp := Ok.per_le hok
  apply List.ext_getElem?
  intro i
  unfold pws
  rw [List.getElem?_take, List.getElem?_map]
  by_cases hi : i < k
  · rw [if_pos hi, List.getElem?_drop, List.getElem?_range hi]
    simp only [Option.map_some]
    have hlen : (wordsB (d.now ((x.f + fr / D.per d : Nat) : Int))).length = D.per d := by
      rw [wordsB_len, hok.now]; rfl
    unfold pw
    have e := Nat.div_add_mod fr (D.per d)
    have h1 : (fr + i) / D.per d = fr / D.per d := by
      rw [Nat.div_eq_of_lt_le]
      · rw [Nat.mul_comm]; omega
      · rw [Nat.succ_mul, Nat.mul_comm]; omega
    have h2 : (fr + i) % D.per d = fr % D.per d + i := by
      have := Nat.div_add_mod (fr + i) (D.per d)
      rw [h1] at this
      omega
    rw [h1, h2, List.getElem?_eq_getElem (by rw [hlen]; omega)]
    rfl
  · rw [if_neg hi, List.getElem?_eq_none (by simp; omega)]
    rfl

def D.rdN (d : D) (t : Nat) : D := { d with rd := d.rd + t }
theorem Ok.rdN {d : D} (h : Ok d) (t : Nat) : Ok (D.rdN d t) := ⟨h.sec, h.size, h.big, h.per, h.safe, h.cache, h.fz⟩
theorem Calm.rdN {d : D} (h : Calm d) (t : Nat) : Calm (D.rdN d t) := ⟨h.down, h.fuse⟩
theorem rdN_zero (d : D) : D.rdN d 0 = d := rfl
theorem rdN_more (d : D) (t : Nat) : D.more (D.rdN d t) = D.rdN d (t + 1) := rfl

theorem read_loop (K : Value → Hp → Prop) {p dp ap : Nat} {d : D} {x : X} (hok : Ok d) (hc : Calm d) (hx : On d x) {cap peak : Int} {bufs : List (Nat × Nat × Option Addr)} {b rb mb : Nat} (hbm : ∀ y ∈ bufs, y.1 ≠ b) {rl off0 fr0 mm vb : Nat} {el : TypeId} {xs : List Value} {A4 : Option Addr} {n4 m4 : Nat} {all : List (Nat × Nat × Nat)} (hn4 : n4 = all.length) (hn40 : n4 ≤ 1000000000) (ho : d.rd ≤ 4611686010000000000)
    (hK : ∀ H, Sep [pts p (pipO dp ap x), Dk dp (D.rdN d n4), Ar ap cap peak bufs, pts rl (.row (setAt xs off0 (wordVals (pws d x fr0 (all.map (·.2.2)).sum))) el mm)] H → K (.int .i64 0) H) :
    ∀ (k fr n j off : Nat) (A : Option Addr) (m : Nat) (ws : List UInt64) (H : Hp), n ≤ k → fr + n ≤ x.w → n ≤ m → all.drop j = pcs (D.per d) x.f k fr n → j ≤ n4 → fr0 + off = fr → ((all.take j).map (·.2.2)).sum = off → off0 + off + n ≤ xs.length → (0 < n → A = some ⟨rl, off0 + off, none⟩) → ws.length = D.per d →
      Sep [pts p (pipO dp ap x), Dk dp (D.rdN d j), Ar ap cap peak (bufs ++ [(b, D.per d, some ⟨rb, 0, none⟩)]), pts rb (.row (wordVals ws) 94 mb), Own 123 3 A4 n4 m4 (all.flatMap pcV), pts rl (.row (setAt xs off0 (wordVals (pws d x fr0 off))) el mm), pts vb (.row [.pointer (some ⟨b, 0, none⟩)] 114 1)] H →
      W_stream_Pipe_Read.l9 K (k + 1) (some ⟨p, 0, none⟩) A n m (some ⟨b, 0, none⟩) A4 n4 m4 (n4 : Int) (j : Int) (some ⟨ap, 0, none⟩) (some ⟨vb, 0, none⟩) 1 1 H
  | k, fr, 0, j, off, A, m, ws, H, hn, hf, hm, hall, hj, hoff, hsum, hlen, hA, hws, hs => by
    unfold W_stream_Pipe_Read.l9
    have e : pcs (D.per d) x.f k fr 0 = [] := by cases k <;> simp [pcs]
    rw [e] at hall
    have hjn : j = n4 := by
      have := congrArg List.length hall
      simp at this; omega
    subst hjn
    refine BIf_dneg (by omega) ?_
    have htake : all.take j = all := List.take_of_length_le (by omega)
    rw [htake] at hsum
    refine (Give_oneD vb b (D.per d) (some ⟨rb, 0, none⟩) hbm).use hs [2, 6] rfl rfl ?_
    rintro _ _ H ⟨rfl, rfl⟩ hs
    refine hK H ?_
    rw [hsum]
    exact hs.re [1, 2, 0, 5] rfl
  | 0, fr, n + 1, j, off, A, m, ws, H, hn, hf, hm, hall, hj, hoff, hsum, hlen, hA, hws, hs => by omega
  | k + 1, fr, n + 1, j, off, A, m, ws, H, hn, hf, hm, hall, hj, hoff, hsum, hlen, hA, hws, hs => by
    have hp := Ok.per_le hok
    have hsec := hok.sec
    have hroom : x.s * D.per d ≤ 1048576 * 512 := Nat.mul_le_mul (by have := hx.fit; omega) (by omega)
    have h4 := hx.room
    have hfit := hx.fit
    obtain rfl := hA (by omega)
    have e : pcs (D.per d) x.f (k + 1) fr (n + 1) = (x.f + fr / D.per d, fr % D.per d, cN (D.per d) fr (n + 1)) :: pcs (D.per d) x.f k (fr + cN (D.per d) fr (n + 1)) (n + 1 - cN (D.per d) fr (n + 1)) := by
      show (if n + 1 = 0 then [] else _) = _
      rw [if_neg (by omega)]
    rw [e] at hall
    have hjlt : j < all.length := by
      have := congrArg List.length hall
      simp at this; omega
    have hcle := cN_le (D.per d) fr (n + 1)
    have hcpos := cN_pos (per := D.per d) (fr := fr) (n := n + 1) (by omega) (by omega)
    have hcper := cN_per (per := D.per d) (fr := fr) (n := n + 1) (by omega)
    have hmod := Nat.mod_lt fr (show 0 < D.per d by omega)
    have hdiv : fr / D.per d < x.s := by
      rw [Nat.div_lt_iff_lt_mul (by omega)]; omega
    have hget : all[j] = (x.f + fr / D.per d, fr % D.per d, cN (D.per d) fr (n + 1)) := by
      have := List.drop_eq_getElem_cons hjlt
      rw [this] at hall
      exact (List.cons.inj hall).1
    have hrest : all.drop (j + 1) = pcs (D.per d) x.f k (fr + cN (D.per d) fr (n + 1)) (n + 1 - cN (D.per d) fr (n + 1)) := by
      have := List.drop_eq_getElem_cons hjlt
      rw [this] at hall
      exact (List.cons.inj hall).2
    generalize hcv : cN (D.per d) fr (n + 1) = c at *
    have hflat : ∀ (l : List (Nat × Nat × Nat)) (i : Nat) (hi : i < l.length), ((l.flatMap pcV).drop (i * 3)).take 3 = pcV l[i] := by
      intro l
      induction l with
      | nil => intro i hi; simp at hi
      | cons y l ih =>
        intro i hi
        rw [List.flatMap_cons]
        cases i with
        | zero => simp [pcV]
        | succ i =>
          rw [show (i + 1) * 3 = (pcV y).length + i * 3 by simp [pcV]; omega, List.drop_append]
          simp only [Nat.add_sub_cancel_left, List.getElem_cons_succ]
          rw [List.drop_eq_nil_of_le (by omega), List.nil_append]
          exact ih i (by simpa using hi)
    unfold W_stream_Pipe_Read.l9
    refine BIf_dpos (by omega) ?_
    refine (hs.own 4 rfl).rdA (ys := pcV all[j]) rfl (by omega) (hflat all j hjlt) ?_
    rw [hget]
    refine hs.nw fun b2 H hs => ?_
    refine hs.stw 7 rfl rfl rfl rfl fun H hs => ?_
    have hs : Sep [pts p (pipO dp ap x), Dk dp (D.rdN d j), Ar ap cap peak (bufs ++ [(b, D.per d, some ⟨rb, 0, none⟩)]), pts rb (.row (wordVals ws) 94 mb), Own 123 3 A4 n4 m4 (all.flatMap pcV), pts rl (.row (setAt xs off0 (wordVals (pws d x fr0 off))) el mm), pts vb (.row [.pointer (some ⟨b, 0, none⟩)] 114 1),
      pts b2 (.obj (.cells #[.int .i64 ((x.f + fr / D.per d : Nat) : Int), .int .i64 ((fr % D.per d : Nat) : Int), .int .i64 (c : Int)] 123))] H := hs
    simp only [NN_some, Addr.add_lit', Addr.add_zero, Nat.zero_add, Nat.add_zero]
    refine hs.ld 7 rfl rfl ?_
    simp only [DI_int', DB_bool, DS_string, DP_pointer, DSl_slice, DM_map, DA_agg, DTup_tuple, DCons_cons, DNil_nil, NN_some, BIf_true, BIf_false, BIf_same, List.toList_toArray, Bool.not_true, Bool.not_false]
    have hokj := Ok.rdN hok j
    refine (load_tr (p := p) (ap := ap) (x := x) (cap := cap) (peak := peak) (b := b) (rb := rb) (m := mb) hokj (Calm.rdN hc j) (by show d.rd + j ≤ _; omega) ((x.f + fr / D.per d : Nat) : Int) (Int.natCast_nonneg _) (Int.ofNat_lt.2 (by show _ < d.sec; omega)) (bufs := bufs ++ [(b, D.per d, some ⟨rb, 0, none⟩)]) (List.mem_append_right _ (List.mem_singleton.2 rfl)) (xs := wordVals ws) (by rw [wordVals_length]; exact hws)).use hs [0, 1, 2, 3] rfl rfl ?_
    rintro _ _ H ⟨rfl, rfl⟩ hs
    rw [rdN_more] at hs
    have hnow : D.now (D.rdN d j) ((x.f + fr / D.per d : Nat) : Int) = d.now ((x.f + fr / D.per d : Nat) : Int) := rfl
    rw [hnow] at hs
    have hwl : (wordsB (d.now ((x.f + fr / D.per d : Nat) : Int))).length = D.per d := by rw [wordsB_len, hok.now]; rfl
    simp only [DI_int', DB_bool, DS_string, DP_pointer, DSl_slice, DM_map, DA_agg, DTup_tuple, DCons_cons, DNil_nil, NN_some, BIf_true, BIf_false, BIf_same, List.toList_toArray, Bool.not_true, Bool.not_false]
    refine BIf_bnen rfl ?_
    refine hs.ld 7 rfl rfl ?_
    simp only [DI_int', DB_bool, DS_string, DP_pointer, DSl_slice, DM_map, DA_agg, DTup_tuple, DCons_cons, DNil_nil, NN_some, BIf_true, BIf_false, BIf_same, List.toList_toArray, Bool.not_true, Bool.not_false]
    refine slB_to rfl (by omega) ?_
    refine QCall.use (Words_s hs 2 rfl (List.mem_append_right _ (List.mem_singleton.2 rfl))) ?_
    simp only [DI_int', DB_bool, DS_string, DP_pointer, DSl_slice, DM_map, DA_agg, DTup_tuple, DCons_cons, DNil_nil, NN_some, BIf_true, BIf_false, BIf_same, List.toList_toArray, Bool.not_true, Bool.not_false]
    refine hs.ld 7 rfl rfl ?_
    simp only [DI_int', DB_bool, DS_string, DP_pointer, DSl_slice, DM_map, DA_agg, DTup_tuple, DCons_cons, DNil_nil, NN_some, BIf_true, BIf_false, BIf_same, List.toList_toArray, Bool.not_true, Bool.not_false]
    refine slB_from rfl (by omega) ?_
    rw [slA_zero, slA_at (by omega), Nat.zero_add]
    have hset : (setAt xs off0 (wordVals (pws d x fr0 off))).length = xs.length := setAt_length (by rw [wordVals_length, pws_len]; omega)
    refine hs.cp 5 (k := D.per d - fr % D.per d) (n := c - 0) (off := off0 + off) (ys := wordVals (pws d x fr c)) (by rfl) cell_u64 rfl ?_ ?_ (fun y hy => ?_) fun H hs => ?_
    · have hmin : Nat.min (D.per d - fr % D.per d) (c - 0) = c := Nat.min_eq_right (by omega)
      rw [hmin]
      show H.cells? ⟨rb, fr % D.per d, none⟩ 0 (c * 1) = _
      rw [Nat.mul_one, cells_row (hs.get 3 (b := rb) (o := .row (wordVals (wordsB (d.now ((x.f + fr / D.per d : Nat) : Int)))) 94 mb) rfl) (fr % D.per d) c 0 (by rw [wordVals_length, hwl]; omega)]
      rw [← piece_words hok x (fr := fr) (k := c) (by omega)]
      unfold wordVals
      rw [List.map_take, List.map_drop, Nat.add_zero]
    · rw [wordVals_length, pws_len, hset]; omega
    · obtain ⟨z, _, rfl⟩ := List.mem_map.1 hy; rfl
    simp only [DI_int', DB_bool, DS_string, DP_pointer, DSl_slice, DM_map, DA_agg, DTup_tuple, DCons_cons, DNil_nil, NN_some, BIf_true, BIf_false, BIf_same, List.toList_toArray, Bool.not_true, Bool.not_false]
    refine hs.ld 7 rfl rfl ?_
    simp only [DI_int', DB_bool, DS_string, DP_pointer, DSl_slice, DM_map, DA_agg, DTup_tuple, DCons_cons, DNil_nil, NN_some, BIf_true, BIf_false, BIf_same, List.toList_toArray, Bool.not_true, Bool.not_false]
    refine slB_from rfl (by omega) ?_
    rw [i64w (x := (j : Int) + 1) (by omega) (by omega)]
    have happ : setAt (setAt xs off0 (wordVals (pws d x fr0 off))) (off0 + off) (wordVals (pws d x fr c)) = setAt xs off0 (wordVals (pws d x fr0 (off + c))) := by
      have hl : (wordVals (pws d x fr0 off)).length = off := by rw [wordVals_length, pws_len]
      have := setAt_append (xs := xs) (us := wordVals (pws d x fr0 off)) (bs := wordVals (pws d x fr c)) (off := off0) (by rw [hl, wordVals_length, pws_len]; omega)
      rw [hl] at this
      rw [this, pws_add, hoff]
      unfold wordVals
      rw [List.map_append]
    have hsum' : ((all.take (j + 1)).map (·.2.2)).sum = off + c := by
      rw [List.take_succ_eq_append_getElem hjlt, List.map_append, List.sum_append, hsum, hget]
      simp
    refine read_loop K (rb := rb) (mb := mb) hok hc hx hbm hn4 hn40 ho hK k (fr + c) (n + 1 - c) (j + 1) (off + c) _ (m - c) (wordsB (d.now ((x.f + fr / D.per d : Nat) : Int))) H (by omega) (by omega) (by omega) hrest (by omega) (by omega) hsum' (by omega) (fun h0 => ?_) hwl ?_
    · rw [slA_at (by omega), Nat.add_assoc]
    · rw [← happ]
      exact hs.re [0, 1, 2, 3, 4, 5, 6] rfl

theorem pcs_sum (per f : Nat) (hp : 0 < per) : ∀ (k fr n : Nat), n ≤ k → ((pcs per f k fr n).map (·.2.2)).sum = n
  | k, fr, 0, _ => by cases k <;> simp [pcs]
  | 0, fr, n + 1, h => by omega
  | k + 1, fr, n + 1, h => by
    have hcle := cN_le per fr (n + 1)
    have hcpos := cN_pos (per := per) (fr := fr) (n := n + 1) hp (by omega)
    unfold pcs
    rw [if_neg (by omega), List.map_cons, List.sum_cons, pcs_sum per f hp k _ _ (by omega)]
    show cN per fr (n + 1) + _ = _
    omega

theorem pcs_len (per f : Nat) : ∀ (k fr n : Nat), (pcs per f k fr n).length ≤ k
  | 0, _, _ => by simp [pcs]
  | k + 1, fr, n => by
    unfold pcs
    split
    · simp
    · have := pcs_len per f k (fr + cN per fr n) (n - cN per fr n)
      simp only [List.length_cons]; omega

def mx (a b : Int) : Int := if b > a then b else a

/-- Words are read. -/
theorem Read_tr {p dp ap : Nat} {d : D} {x : X} {cap peak : Int} {bufs : List (Nat × Nat × Option Addr)} {rl off mm : Nat} {el : TypeId} {xs : List Value} (hok : Ok d) (hc : Calm d) (hx : On d x) (ho : d.rd ≤ 4611686010000000000) (fr n m : Nat) (hn : 1 ≤ n) (hf : fr + n ≤ x.w) (hm : n ≤ m) (hl : off + n ≤ xs.length) (hcap : (D.per d : Int) ≤ cap - sumB bufs) :
    Tr Try.prog 20 #[.pointer (some ⟨p, 0, none⟩), .int .i64 fr, .slice (some ⟨rl, off, none⟩) n m] [pts p (pipO dp ap x), Dk dp d, Ar ap cap peak bufs, pts rl (.row xs el mm)] fun v M =>
      v = .int .i64 0 ∧ M = [pts p (pipO dp ap x), Dk dp (D.rdN d (pcs (D.per d) x.f n fr n).length), Ar ap cap (mx peak (sumB bufs + D.per d)) bufs, pts rl (.row (setAt xs off (wordVals (pws d x fr n))) el mm)] := fun H hs => by
  have hp := Ok.per_le hok
  have hsec := hok.sec
  have hroom : x.s * D.per d ≤ 1048576 * 512 := Nat.mul_le_mul (by have := hx.fit; omega) (by omega)
  have h4 := hx.room
  have hpl := pcs_len (D.per d) x.f n fr n
  apply W_stream_Pipe_Read.ok
  unfold W_stream_Pipe_Read
  refine (pieces_tr (dp := dp) (ap := ap) hok hx fr n hf).use hs [0, 1] rfl rfl ?_
  rintro _ _ H ⟨A4, m4, rfl, rfl⟩ hs
  simp only [DI_int', DB_bool, DS_string, DP_pointer, DSl_slice, DM_map, DA_agg, DTup_tuple, DCons_cons, DNil_nil, NN_some, BIf_true, BIf_false, BIf_same, List.toList_toArray, Bool.not_true, Bool.not_false]
  refine BIf_bnen rfl (BIf_beqn (by omega) ?_)
  simp only [NN_some, Addr.add_lit', Addr.add_zero, Nat.zero_add, Nat.add_zero]
  have rest : ∀ (b rb : Nat) (H : Hp), (∀ y ∈ bufs, y.1 ≠ b) → Sep [Ar ap cap (if sumB bufs + D.per d > peak then sumB bufs + D.per d else peak) (bufs ++ [(b, D.per d, some ⟨rb, 0, none⟩)]), pts rb (.row (zerosU64 (D.per d)) 94 (D.per d)), pts p (pipO dp ap x), Dk dp d, Own 123 3 A4 (pcs (D.per d) x.f n fr n).length m4 ((pcs (D.per d) x.f n fr n).flatMap pcV), pts rl (.row xs el mm)] H →
      W_stream_Pipe_Read.j5 (fun v H' => ∃ M, (v = .int .i64 0 ∧ M = [pts p (pipO dp ap x), Dk dp (D.rdN d (pcs (D.per d) x.f n fr n).length), Ar ap cap (mx peak (sumB bufs + D.per d)) bufs, pts rl (.row (setAt xs off (wordVals (pws d x fr n))) el mm)]) ∧ Sep M H') (some ⟨p, 0, none⟩) (some ⟨rl, off, none⟩) n m A4 (pcs (D.per d) x.f n fr n).length m4 (0 : Int) (some ⟨b, 0, none⟩) H := fun b rb H hbm hs => by
    unfold W_stream_Pipe_Read.j5
    refine BIf_bnen rfl ?_
    simp only [NN_some, Addr.add_lit', Addr.add_zero, Nat.zero_add, Nat.add_zero]
    refine hs.ld 2 rfl rfl ?_
    simp only [DI_int', DB_bool, DS_string, DP_pointer, DSl_slice, DM_map, DA_agg, DTup_tuple, DCons_cons, DNil_nil, NN_some, BIf_true, BIf_false, BIf_same, List.toList_toArray, Bool.not_true, Bool.not_false]
    refine hs.nw fun vb H hs => ?_
    refine ⟨n + 1, ?_⟩
    have hz : zerosU64 (D.per d) = wordVals (List.replicate (D.per d) 0) := by
      unfold zerosU64
      rw [zeroRow_one]
      unfold wordVals
      rw [List.map_replicate]; rfl
    refine read_loop _ (p := p) (dp := dp) (ap := ap) (d := d) (x := x) (cap := cap) (peak := mx peak (sumB bufs + D.per d)) (bufs := bufs) (b := b) (rb := rb) (mb := D.per d) (rl := rl) (off0 := off) (fr0 := fr) (mm := mm) (vb := vb) (el := el) (xs := xs) hok hc hx hbm rfl (by omega) ho (fun H hs => ?_) n fr n 0 0 _ m (List.replicate (D.per d) 0) H (Nat.le_refl _) hf hm rfl (Nat.zero_le _) (by omega) rfl (by omega) (fun _ => rfl) (by simp) ?_
    · rw [pcs_sum _ _ (by omega) n fr n (Nat.le_refl _)] at hs
      exact ⟨_, ⟨rfl, rfl⟩, hs⟩
    · rw [← hz, show setAt xs off (wordVals (pws d x fr 0)) = xs from setAt_nil xs off, rdN_zero]
      exact hs.re [2, 3, 0, 1, 4, 5, 6] rfl
  have fresh : ∀ {L : List As} {H : Hp} (b rb : Nat) (pk : Int), Sep L H → L[0]? = some (Ar ap cap pk (bufs ++ [(b, D.per d, some ⟨rb, 0, none⟩)])) → ∀ y ∈ bufs, y.1 ≠ b := fun b rb pk hs h0 y hy e => by
    obtain ⟨mp, cl, tk, hA⟩ := Sep.ar hs 0 h0
    have := hA.bn
    rw [List.map_append, List.nodup_append] at this
    exact this.2.2 y.1 (List.mem_map_of_mem hy) b (by simp) e
  refine ⟨?_, ?_⟩
  · refine hs.ld 0 rfl rfl ?_
    simp only [DI_int', DB_bool, DS_string, DP_pointer, DSl_slice, DM_map, DA_agg, DTup_tuple, DCons_cons, DNil_nil, NN_some, BIf_true, BIf_false, BIf_same, List.toList_toArray, Bool.not_true, Bool.not_false]
    refine HCalls.use (per_s hs 0 1 rfl rfl hok) ?_
    try simp only [DI_int', DB_bool, DS_string, DP_pointer, DSl_slice, DM_map, DA_agg, DTup_tuple, DCons_cons, DNil_nil, NN_some, BIf_true, BIf_false, BIf_same, List.toList_toArray, Bool.not_true, Bool.not_false]
    refine (Take_tr (a := ap) (cap := cap) (peak := peak) (bufs := bufs) (n := D.per d) (by omega) hcap).use hs [3] rfl rfl ?_
    rintro _ _ H ⟨b, rb, rfl, rfl⟩ hs
    simp only [DI_int', DB_bool, DS_string, DP_pointer, DSl_slice, DM_map, DA_agg, DTup_tuple, DCons_cons, DNil_nil, NN_some, BIf_true, BIf_false, BIf_same, List.toList_toArray, Bool.not_true, Bool.not_false]
    exact rest b rb H (fresh b rb _ hs rfl) (hs.re [0, 1, 2, 3, 4, 5] rfl)
  · refine HCalls.use (per_s hs 0 1 rfl rfl hok) ?_
    try simp only [DI_int', DB_bool, DS_string, DP_pointer, DSl_slice, DM_map, DA_agg, DTup_tuple, DCons_cons, DNil_nil, NN_some, BIf_true, BIf_false, BIf_same, List.toList_toArray, Bool.not_true, Bool.not_false]
    refine hs.ld 0 rfl rfl ?_
    simp only [DI_int', DB_bool, DS_string, DP_pointer, DSl_slice, DM_map, DA_agg, DTup_tuple, DCons_cons, DNil_nil, NN_some, BIf_true, BIf_false, BIf_same, List.toList_toArray, Bool.not_true, Bool.not_false]
    refine (Take_tr (a := ap) (cap := cap) (peak := peak) (bufs := bufs) (n := D.per d) (by omega) hcap).use hs [3] rfl rfl ?_
    rintro _ _ H ⟨b, rb, rfl, rfl⟩ hs
    simp only [DI_int', DB_bool, DS_string, DP_pointer, DSl_slice, DM_map, DA_agg, DTup_tuple, DCons_cons, DNil_nil, NN_some, BIf_true, BIf_false, BIf_same, List.toList_toArray, Bool.not_true, Bool.not_false]
    exact rest b rb H (fresh b rb _ hs rfl) (hs.re [0, 1, 2, 3, 4, 5] rfl)

end Go.Proofs.Ytgkdkemhiglpdaa.Str
