import Derived.Shelf.SlIterI.Nil
import Derived.Shelf.SortM.Plain
import Derived.Shelf.SortM.SortNone
import Derived.Ground.GgzProg
import Derived.Ground.SlgmProg
import Derived.Test.YtghajiefpmcpmaaGreatDoorProg
import Derived.Lib.LaidTab
import Derived.Stop.LaidErr
import Derived.Test.YtghajiefpmcpmaaGreatDoorPkRingSafe3
section
/-! StrC -/
/- stream: pieces, and Read. -/
set_option maxRecDepth 100000
set_option linter.unusedSimpArgs false
set_option linter.unusedVariables false
set_option linter.unnecessarySimpa false
set_option linter.unusedSectionVars false
namespace Go.Proofs.YtghajiefpmcpmaaGreatDoor.Str
open Go Go.Hw Go.Form Go.Proofs.YtghajiefpmcpmaaGreatDoor.W Go.Proofs.YtghajiefpmcpmaaGreatDoor.Dsk Go.Proofs.YtghajiefpmcpmaaGreatDoor.Are

def cN (per fr n : Nat) : Nat := if per - fr % per < n then per - fr % per else n
/-- The pieces of words. -/
def pcs (per f : Nat) : Nat → Nat → Nat → List (Nat × Nat × Nat)
  | 0, _, _ => []
  | k + 1, fr, n => if n = 0 then [] else (f + fr / per, fr % per, cN per fr n) :: pcs per f k (fr + cN per fr n) (n - cN per fr n)
def pcV (y : Nat × Nat × Nat) : List Value := [.int .i64 (y.1 : Int), .int .i64 (y.2.1 : Int), .int .i64 (y.2.2 : Int)]

theorem cN_le (per fr n : Nat) : cN per fr n ≤ n := by unfold cN; split <;> omega
theorem cN_pos {per fr n : Nat} (hp : 0 < per) (hn : 0 < n) : 0 < cN per fr n := by
  have := Nat.mod_lt fr hp
  unfold cN; split <;> omega
theorem cN_per {per fr n : Nat} (hp : 0 < per) : fr % per + cN per fr n ≤ per := by
  have := Nat.mod_lt fr hp
  unfold cN; split <;> omega

theorem cell_pc : cellInfo Tryz.prog 265 = some (3, 24, some #[.int .i64 0, .int .i64 0, .int .i64 0]) := by kernel_rfl

theorem pieces_loop (K : Value → Hp → Prop) {p dp ap : Nat} {d : D} {x : X} (hok : Ok d) (hx : On d x) :
    ∀ (k fr n : Nat) (A : Option Addr) (c m : Nat) (acc : List (Nat × Nat × Nat)) (H : Hp), n ≤ k → fr + n ≤ x.w → acc.length = c → c + n ≤ 1000000000 →
      (∀ A' m' H', Sep [pts p (pipO dp ap x), Dk dp d, Own 265 3 A' (acc ++ pcs (D.per d) x.f k fr n).length m' ((acc ++ pcs (D.per d) x.f k fr n).flatMap pcV)] H' → K (.tuple #[.slice A' (acc ++ pcs (D.per d) x.f k fr n).length m', .int .i64 0]) H') →
      Sep [pts p (pipO dp ap x), Dk dp d, Own 265 3 A c m (acc.flatMap pcV)] H → W_stream_Pipe_pieces.l4 K (k + 1) (some ⟨p, 0, none⟩) (fr : Int) (n : Int) A c m H
  | k, fr, 0, A, c, m, acc, H, hn, hf, hc, hcn, hk, hs => by
    unfold W_stream_Pipe_pieces.l4
    refine BIf_dneg (by omega) ?_
    have e : pcs (D.per d) x.f k fr 0 = [] := by cases k <;> simp [pcs]
    rw [e, List.append_nil, hc] at hk
    exact hk A m H hs
  | 0, fr, n + 1, A, c, m, acc, H, hn, hf, hc, hcn, hk, hs => by omega
  | k + 1, fr, n + 1, A, c, m, acc, H, hn, hf, hc, hcn, hk, hs => by
    have hp := Ok.per_le hok
    have hsec := hok.sec
    have hroom : x.s * D.per d ≤ 1048576 * 512 := Nat.mul_le_mul (by have := hx.fit; omega) (by omega)
    have h4 := hx.room
    have hfit := hx.fit
    unfold W_stream_Pipe_pieces.l4
    refine BIf_dpos (by omega) ?_
    simp only [NN_some, Addr.add_lit', Addr.add_zero, Nat.zero_add, Nat.add_zero]
    refine hs.lda 0 rfl (Nat.le_refl _) ?_
    refine QCall.use (per_s hs 0 1 rfl rfl hok) ?_
    simp only [DI_int', DB_bool, DS_string, DP_pointer, DSl_slice, DM_map, DA_agg, DTup_tuple, DCons_cons, DNil_nil, NN_some, BIf_true, BIf_false, BIf_same, List.toList_toArray, Bool.not_true, Bool.not_false]
    refine QCall.use (Lay.Sector_ok x.f x.s x.w (D.per d) fr ⟨by omega, by omega⟩ (by omega) H) ?_
    have hdiv : fr / D.per d < x.s := by
      rw [Nat.div_lt_iff_lt_mul (by omega)]; omega
    have hS : Lay.SectorV x.f x.s x.w (D.per d) fr = (((x.f + fr / D.per d : Nat) : Int), ((fr % D.per d : Nat) : Int), (0 : Int)) := by
      unfold Lay.SectorV
      have e : Int.tdiv (fr : Int) (D.per d : Int) = ((fr / D.per d : Nat) : Int) := rfl
      have e2 : Int.tmod (fr : Int) (D.per d : Int) = ((fr % D.per d : Nat) : Int) := rfl
      rw [e, e2, if_neg (by omega)]
      simp
    rw [hS]
    simp only [DI_int', DB_bool, DS_string, DP_pointer, DSl_slice, DM_map, DA_agg, DTup_tuple, DCons_cons, DNil_nil, NN_some, BIf_true, BIf_false, BIf_same, List.toList_toArray, Bool.not_true, Bool.not_false]
    refine BIf_bnen rfl ?_
    refine HCalls.use (per_s hs 0 1 rfl rfl hok) ?_
    try simp only [DI_int', DB_bool, DS_string, DP_pointer, DSl_slice, DM_map, DA_agg, DTup_tuple, DCons_cons, DNil_nil, NN_some, BIf_true, BIf_false, BIf_same, List.toList_toArray, Bool.not_true, Bool.not_false]
    have hmod := Nat.mod_lt fr (show 0 < D.per d by omega)
    rw [i64w (x := (D.per d : Int) - ((fr % D.per d : Nat) : Int)) (by omega) (by omega)]
    have hcN : (if (D.per d : Int) - ((fr % D.per d : Nat) : Int) < ((n + 1 : Nat) : Int) then (D.per d : Int) - ((fr % D.per d : Nat) : Int) else ((n + 1 : Nat) : Int)) = ((cN (D.per d) fr (n + 1) : Nat) : Int) := by
      unfold cN
      by_cases h : D.per d - fr % D.per d < n + 1
      · rw [if_pos h, if_pos (by omega)]; omega
      · rw [if_neg h, if_neg (by omega)]
    rw [hcN]
    have hcle := cN_le (D.per d) fr (n + 1)
    have hcpos := cN_pos (per := D.per d) (fr := fr) (n := n + 1) (by omega) (by omega)
    refine hs.appS 2 (by rfl) cell_pc rfl (by omega) (by omega) rfl (by rfl) (by omega) (by omega) fun A' m' H hs => ?_
    simp only [DI_int', DB_bool, DS_string, DP_pointer, DSl_slice, DM_map, DA_agg, DTup_tuple, DCons_cons, DNil_nil, NN_some, BIf_true, BIf_false, BIf_same, List.toList_toArray, Bool.not_true, Bool.not_false]
    rw [i64w (x := (fr : Int) + ((cN (D.per d) fr (n + 1) : Nat) : Int)) (by omega) (by omega), i64w (x := ((n + 1 : Nat) : Int) - ((cN (D.per d) fr (n + 1) : Nat) : Int)) (by omega) (by omega)]
    rw [show (fr : Int) + ((cN (D.per d) fr (n + 1) : Nat) : Int) = ((fr + cN (D.per d) fr (n + 1) : Nat) : Int) by omega, show ((n + 1 : Nat) : Int) - ((cN (D.per d) fr (n + 1) : Nat) : Int) = ((n + 1 - cN (D.per d) fr (n + 1) : Nat) : Int) by omega]
    have e : pcs (D.per d) x.f (k + 1) fr (n + 1) = (x.f + fr / D.per d, fr % D.per d, cN (D.per d) fr (n + 1)) :: pcs (D.per d) x.f k (fr + cN (D.per d) fr (n + 1)) (n + 1 - cN (D.per d) fr (n + 1)) := by
      show (if n + 1 = 0 then [] else _) = _
      rw [if_neg (by omega)]
    refine pieces_loop K (dp := dp) (ap := ap) hok hx k _ _ A' (c + 1) m' (acc ++ [(x.f + fr / D.per d, fr % D.per d, cN (D.per d) fr (n + 1))]) H (by omega) (by omega) (by rw [List.length_append]; simp; exact hc) (by omega) (fun A' m' H' hs => ?_) ?_
    · rw [List.append_assoc] at hs ⊢
      rw [show [(x.f + fr / D.per d, fr % D.per d, cN (D.per d) fr (n + 1))] ++ pcs (D.per d) x.f k (fr + cN (D.per d) fr (n + 1)) (n + 1 - cN (D.per d) fr (n + 1)) = pcs (D.per d) x.f (k + 1) fr (n + 1) by rw [e]; rfl] at hs ⊢
      exact hk A' m' H' hs
    · rw [List.flatMap_append]
      exact hs

theorem pieces_tr {p dp ap : Nat} {d : D} {x : X} (hok : Ok d) (hx : On d x) (fr n : Nat) (hf : fr + n ≤ x.w) : Tr Tryz.prog 169 #[.pointer (some ⟨p, 0, none⟩), .int .i64 fr, .int .i64 n] [pts p (pipO dp ap x), Dk dp d] fun v M =>
    ∃ A m, v = .tuple #[.slice A (pcs (D.per d) x.f n fr n).length m, .int .i64 0] ∧ M = [pts p (pipO dp ap x), Dk dp d, Own 265 3 A (pcs (D.per d) x.f n fr n).length m ((pcs (D.per d) x.f n fr n).flatMap pcV)] := fun H hs => by
  have hp := Ok.per_le hok
  have hsec := hok.sec
  have hroom : x.s * D.per d ≤ 1048576 * 512 := Nat.mul_le_mul (by have := hx.fit; omega) (by omega)
  have h4 := hx.room
  apply W_stream_Pipe_pieces.ok
  unfold W_stream_Pipe_pieces
  refine BIf_dneg (by omega) ?_
  refine HCalls.use (words_s hs 0 rfl) ?_
  try simp only [DI_int', DB_bool, DS_string, DP_pointer, DSl_slice, DM_map, DA_agg, DTup_tuple, DCons_cons, DNil_nil, NN_some, BIf_true, BIf_false, BIf_same, List.toList_toArray, Bool.not_true, Bool.not_false]
  refine BIf_dneg (by omega) ?_
  refine HCalls.use (words_s hs 0 rfl) ?_
  try simp only [DI_int', DB_bool, DS_string, DP_pointer, DSl_slice, DM_map, DA_agg, DTup_tuple, DCons_cons, DNil_nil, NN_some, BIf_true, BIf_false, BIf_same, List.toList_toArray, Bool.not_true, Bool.not_false]
  rw [i64w (x := (x.w : Int) - fr) (by omega) (by omega)]
  refine BIf_dneg (by omega) ⟨n + 1, ?_⟩
  have e0 : Sep [pts p (pipO dp ap x), Dk dp d, Own 265 3 none 0 0 (([] : List (Nat × Nat × Nat)).flatMap pcV)] H := by
    have : Sep (Own 265 3 none 0 0 [] :: [pts p (pipO dp ap x), Dk dp d]) H := ⟨fun _ => none, H, fun _ _ h => (nomatch h), Hp.le_refl _, fun _ => .inl rfl, Own.none _ _ _, hs⟩
    exact this.re [1, 2, 0] rfl
  refine pieces_loop _ (dp := dp) (ap := ap) hok hx n fr n none 0 0 [] H (Nat.le_refl _) hf rfl (by omega) (fun A' m' H' hs => ?_) e0
  exact ⟨_, ⟨A', m', rfl, rfl⟩, hs⟩

/-- Words that aren't there. -/
theorem pieces_no {p dp ap : Nat} {x : X} (fr : Int) (n : Nat) (hw : x.w ≤ 9000000000000000000) (hf : fr < 0 ∨ (x.w : Int) < fr + n) (hn : n ≤ 9000000000000000000) {L : List As} {H : Hp} (hs : Sep L H) (i : Nat) (hi : L[i]? = some (pts p (pipO dp ap x))) :
    HCalls Tryz.prog 169 #[.pointer (some ⟨p, 0, none⟩), .int .i64 fr, .int .i64 n] H (RetE (.tuple #[.slice none 0 0, .int .i64 2]) H) := by
  apply W_stream_Pipe_pieces.ok
  unfold W_stream_Pipe_pieces
  by_cases h1 : fr < 0
  · exact BIf_dpos h1 (RetE.mk _ _)
  refine BIf_dneg h1 ?_
  refine HCalls.use (words_s hs i hi) ?_
  try simp only [DI_int', DB_bool, DS_string, DP_pointer, DSl_slice, DM_map, DA_agg, DTup_tuple, DCons_cons, DNil_nil, NN_some, BIf_true, BIf_false, BIf_same, List.toList_toArray, Bool.not_true, Bool.not_false]
  by_cases h2 : fr > x.w
  · exact BIf_dpos h2 (RetE.mk _ _)
  refine BIf_dneg h2 ?_
  refine HCalls.use (words_s hs i hi) ?_
  try simp only [DI_int', DB_bool, DS_string, DP_pointer, DSl_slice, DM_map, DA_agg, DTup_tuple, DCons_cons, DNil_nil, NN_some, BIf_true, BIf_false, BIf_same, List.toList_toArray, Bool.not_true, Bool.not_false]
  rw [i64w (x := (x.w : Int) - fr) (by omega) (by omega)]
  exact BIf_dpos (by omega) (RetE.mk _ _)

/-- A word of a pipe. -/
def pw (d : D) (x : X) (i : Nat) : UInt64 := ((wordsB (d.now ((x.f + i / D.per d : Nat) : Int)))[i % D.per d]?).getD 0
def pws (d : D) (x : X) (fr n : Nat) : List UInt64 := (List.range n).map fun i => pw d x (fr + i)
theorem pws_len (d : D) (x : X) (fr n : Nat) : (pws d x fr n).length = n := by simp [pws]
theorem pws_add (d : D) (x : X) (fr a b : Nat) : pws d x fr (a + b) = pws d x fr a ++ pws d x (fr + a) b := by
  unfold pws
  rw [List.range_add, List.map_append, List.map_map]
  congr 1
  apply List.map_congr_left
  intro i _
  simp only [Function.comp]
  congr 1; omega

theorem piece_words {d : D} (hok : Ok d) (x : X) {fr k : Nat} (h : fr % D.per d + k ≤ D.per d) : ((wordsB (d.now ((x.f + fr / D.per d : Nat) : Int))).drop (fr % D.per d)).take k = pws d x fr k := by
  have hp := Ok.per_le hok
  apply List.ext_getElem?
  intro i
  unfold pws
  rw [List.getElem?_take, List.getElem?_map]
  by_cases hi : i < k
  · rw [if_pos hi, List.getElem?_drop, List.getElem?_range hi]
    simp only [Option.map_some]
    have hlen : (wordsB (d.now ((x.f + fr / D.per d : Nat) : Int))).length = D.per d := by
      rw [wordsB_len, hok.now]; rfl
    unfold pw
    have e := Nat.div_add_mod fr (D.per d)
    have h1 : (fr + i) / D.per d = fr / D.per d := by
      rw [Nat.div_eq_of_lt_le]
      · rw [Nat.mul_comm]; omega
      · rw [Nat.succ_mul, Nat.mul_comm]; omega
    have h2 : (fr + i) % D.per d = fr % D.per d + i := by
      have := Nat.div_add_mod (fr + i) (D.per d)
      rw [h1] at this
      omega
    rw [h1, h2, List.getElem?_eq_getElem (by rw [hlen]; omega)]
    rfl
  · rw [if_neg hi, List.getElem?_eq_none (by simp; omega)]
    rfl

def D.rdN (d : D) (t : Nat) : D := { d with rd := d.rd + t }
theorem Ok.rdN {d : D} (h : Ok d) (t : Nat) : Ok (D.rdN d t) := ⟨h.sec, h.size, h.big, h.per, h.safe, h.cache, h.fz⟩
theorem Calm.rdN {d : D} (h : Calm d) (t : Nat) : Calm (D.rdN d t) := ⟨h.down, h.fuse⟩
theorem rdN_zero (d : D) : D.rdN d 0 = d := rfl
theorem rdN_more (d : D) (t : Nat) : D.more (D.rdN d t) = D.rdN d (t + 1) := rfl

theorem read_loop (K : Value → Hp → Prop) {p dp ap : Nat} {d : D} {x : X} (hok : Ok d) (hc : Calm d) (hx : On d x) {cap peak : Int} {bufs : List (Nat × Nat × Option Addr)} {b rb mb : Nat} (hbm : ∀ y ∈ bufs, y.1 ≠ b) {rl off0 fr0 mm vb : Nat} {el : TypeId} {xs : List Value} {A4 : Option Addr} {n4 m4 : Nat} {all : List (Nat × Nat × Nat)} (hn4 : n4 = all.length) (hn40 : n4 ≤ 1000000000) (ho : d.rd ≤ 4611686010000000000)
    (hK : ∀ H, Sep [pts p (pipO dp ap x), Dk dp (D.rdN d n4), Ar ap cap peak bufs, pts rl (.row (setAt xs off0 (wordVals (pws d x fr0 (all.map (·.2.2)).sum))) el mm)] H → K (.int .i64 0) H) :
    ∀ (k fr n j off : Nat) (A : Option Addr) (m : Nat) (ws : List UInt64) (H : Hp), n ≤ k → fr + n ≤ x.w → n ≤ m → all.drop j = pcs (D.per d) x.f k fr n → j ≤ n4 → fr0 + off = fr → ((all.take j).map (·.2.2)).sum = off → off0 + off + n ≤ xs.length → (0 < n → A = some ⟨rl, off0 + off, none⟩) → ws.length = D.per d →
      Sep [pts p (pipO dp ap x), Dk dp (D.rdN d j), Ar ap cap peak (bufs ++ [(b, D.per d, some ⟨rb, 0, none⟩)]), pts rb (.row (wordVals ws) 60 mb), Own 265 3 A4 n4 m4 (all.flatMap pcV), pts rl (.row (setAt xs off0 (wordVals (pws d x fr0 off))) el mm), pts vb (.row [.pointer (some ⟨b, 0, none⟩)] 256 1)] H →
      W_stream_Pipe_Read.l9 K (k + 1) (some ⟨p, 0, none⟩) A n m (some ⟨b, 0, none⟩) A4 n4 m4 (n4 : Int) (j : Int) (some ⟨ap, 0, none⟩) (some ⟨vb, 0, none⟩) 1 1 H
  | k, fr, 0, j, off, A, m, ws, H, hn, hf, hm, hall, hj, hoff, hsum, hlen, hA, hws, hs => by
    unfold W_stream_Pipe_Read.l9
    have e : pcs (D.per d) x.f k fr 0 = [] := by cases k <;> simp [pcs]
    rw [e] at hall
    have hjn : j = n4 := by
      have := congrArg List.length hall
      simp at this; omega
    subst hjn
    refine BIf_dneg (by omega) ?_
    have htake : all.take j = all := List.take_of_length_le (by omega)
    rw [htake] at hsum
    refine (Give_oneD vb b (D.per d) (some ⟨rb, 0, none⟩) hbm).use hs [2, 6] rfl rfl ?_
    rintro _ _ H ⟨rfl, rfl⟩ hs
    refine hK H ?_
    rw [hsum]
    exact hs.re [1, 2, 0, 5] rfl
  | 0, fr, n + 1, j, off, A, m, ws, H, hn, hf, hm, hall, hj, hoff, hsum, hlen, hA, hws, hs => by omega
  | k + 1, fr, n + 1, j, off, A, m, ws, H, hn, hf, hm, hall, hj, hoff, hsum, hlen, hA, hws, hs => by
    have hp := Ok.per_le hok
    have hsec := hok.sec
    have hroom : x.s * D.per d ≤ 1048576 * 512 := Nat.mul_le_mul (by have := hx.fit; omega) (by omega)
    have h4 := hx.room
    have hfit := hx.fit
    obtain rfl := hA (by omega)
    have e : pcs (D.per d) x.f (k + 1) fr (n + 1) = (x.f + fr / D.per d, fr % D.per d, cN (D.per d) fr (n + 1)) :: pcs (D.per d) x.f k (fr + cN (D.per d) fr (n + 1)) (n + 1 - cN (D.per d) fr (n + 1)) := by
      show (if n + 1 = 0 then [] else _) = _
      rw [if_neg (by omega)]
    rw [e] at hall
    have hjlt : j < all.length := by
      have := congrArg List.length hall
      simp at this; omega
    have hcle := cN_le (D.per d) fr (n + 1)
    have hcpos := cN_pos (per := D.per d) (fr := fr) (n := n + 1) (by omega) (by omega)
    have hcper := cN_per (per := D.per d) (fr := fr) (n := n + 1) (by omega)
    have hmod := Nat.mod_lt fr (show 0 < D.per d by omega)
    have hdiv : fr / D.per d < x.s := by
      rw [Nat.div_lt_iff_lt_mul (by omega)]; omega
    have hget : all[j] = (x.f + fr / D.per d, fr % D.per d, cN (D.per d) fr (n + 1)) := by
      have := List.drop_eq_getElem_cons hjlt
      rw [this] at hall
      exact (List.cons.inj hall).1
    have hrest : all.drop (j + 1) = pcs (D.per d) x.f k (fr + cN (D.per d) fr (n + 1)) (n + 1 - cN (D.per d) fr (n + 1)) := by
      have := List.drop_eq_getElem_cons hjlt
      rw [this] at hall
      exact (List.cons.inj hall).2
    generalize hcv : cN (D.per d) fr (n + 1) = c at *
    have hflat : ∀ (l : List (Nat × Nat × Nat)) (i : Nat) (hi : i < l.length), ((l.flatMap pcV).drop (i * 3)).take 3 = pcV l[i] := by
      intro l
      induction l with
      | nil => intro i hi; simp at hi
      | cons y l ih =>
        intro i hi
        rw [List.flatMap_cons]
        cases i with
        | zero => simp [pcV]
        | succ i =>
          rw [show (i + 1) * 3 = (pcV y).length + i * 3 by simp [pcV]; omega, List.drop_append]
          simp only [Nat.add_sub_cancel_left, List.getElem_cons_succ]
          rw [List.drop_eq_nil_of_le (by omega), List.nil_append]
          exact ih i (by simpa using hi)
    unfold W_stream_Pipe_Read.l9
    refine BIf_dpos (by omega) ?_
    refine (hs.own 4 rfl).rdA (ys := pcV all[j]) rfl (by omega) (hflat all j hjlt) ?_
    rw [hget]
    refine hs.nw fun b2 H hs => ?_
    refine hs.stw 7 rfl rfl rfl rfl fun H hs => ?_
    have hs : Sep [pts p (pipO dp ap x), Dk dp (D.rdN d j), Ar ap cap peak (bufs ++ [(b, D.per d, some ⟨rb, 0, none⟩)]), pts rb (.row (wordVals ws) 60 mb), Own 265 3 A4 n4 m4 (all.flatMap pcV), pts rl (.row (setAt xs off0 (wordVals (pws d x fr0 off))) el mm), pts vb (.row [.pointer (some ⟨b, 0, none⟩)] 256 1),
      pts b2 (.obj (.cells #[.int .i64 ((x.f + fr / D.per d : Nat) : Int), .int .i64 ((fr % D.per d : Nat) : Int), .int .i64 (c : Int)] 265))] H := hs
    simp only [NN_some, Addr.add_lit', Addr.add_zero, Nat.zero_add, Nat.add_zero]
    refine hs.ld 7 rfl rfl ?_
    simp only [DI_int', DB_bool, DS_string, DP_pointer, DSl_slice, DM_map, DA_agg, DTup_tuple, DCons_cons, DNil_nil, NN_some, BIf_true, BIf_false, BIf_same, List.toList_toArray, Bool.not_true, Bool.not_false]
    have hokj := Ok.rdN hok j
    refine (load_tr (p := p) (ap := ap) (x := x) (cap := cap) (peak := peak) (b := b) (rb := rb) (m := mb) hokj (Calm.rdN hc j) (by show d.rd + j ≤ _; omega) ((x.f + fr / D.per d : Nat) : Int) (Int.natCast_nonneg _) (Int.ofNat_lt.2 (by show _ < d.sec; omega)) (bufs := bufs ++ [(b, D.per d, some ⟨rb, 0, none⟩)]) (List.mem_append_right _ (List.mem_singleton.2 rfl)) (xs := wordVals ws) (by rw [wordVals_length]; exact hws)).use hs [0, 1, 2, 3] rfl rfl ?_
    rintro _ _ H ⟨rfl, rfl⟩ hs
    rw [rdN_more] at hs
    have hnow : D.now (D.rdN d j) ((x.f + fr / D.per d : Nat) : Int) = d.now ((x.f + fr / D.per d : Nat) : Int) := rfl
    rw [hnow] at hs
    have hwl : (wordsB (d.now ((x.f + fr / D.per d : Nat) : Int))).length = D.per d := by rw [wordsB_len, hok.now]; rfl
    simp only [DI_int', DB_bool, DS_string, DP_pointer, DSl_slice, DM_map, DA_agg, DTup_tuple, DCons_cons, DNil_nil, NN_some, BIf_true, BIf_false, BIf_same, List.toList_toArray, Bool.not_true, Bool.not_false]
    refine BIf_bnen rfl ?_
    refine hs.ld 7 rfl rfl ?_
    simp only [DI_int', DB_bool, DS_string, DP_pointer, DSl_slice, DM_map, DA_agg, DTup_tuple, DCons_cons, DNil_nil, NN_some, BIf_true, BIf_false, BIf_same, List.toList_toArray, Bool.not_true, Bool.not_false]
    refine slB_to rfl (by omega) ?_
    refine QCall.use (Words_s hs 2 rfl (List.mem_append_right _ (List.mem_singleton.2 rfl))) ?_
    simp only [DI_int', DB_bool, DS_string, DP_pointer, DSl_slice, DM_map, DA_agg, DTup_tuple, DCons_cons, DNil_nil, NN_some, BIf_true, BIf_false, BIf_same, List.toList_toArray, Bool.not_true, Bool.not_false]
    refine hs.ld 7 rfl rfl ?_
    simp only [DI_int', DB_bool, DS_string, DP_pointer, DSl_slice, DM_map, DA_agg, DTup_tuple, DCons_cons, DNil_nil, NN_some, BIf_true, BIf_false, BIf_same, List.toList_toArray, Bool.not_true, Bool.not_false]
    refine slB_from rfl (by omega) ?_
    rw [slA_zero, slA_at (by omega), Nat.zero_add]
    have hset : (setAt xs off0 (wordVals (pws d x fr0 off))).length = xs.length := setAt_length (by rw [wordVals_length, pws_len]; omega)
    refine hs.cp 5 (k := D.per d - fr % D.per d) (n := c - 0) (off := off0 + off) (ys := wordVals (pws d x fr c)) (by rfl) cell_u64 rfl ?_ ?_ (fun y hy => ?_) fun H hs => ?_
    · have hmin : Nat.min (D.per d - fr % D.per d) (c - 0) = c := Nat.min_eq_right (by omega)
      rw [hmin]
      show H.cells? ⟨rb, fr % D.per d, none⟩ 0 (c * 1) = _
      rw [Nat.mul_one, cells_row (hs.get 3 (b := rb) (o := .row (wordVals (wordsB (d.now ((x.f + fr / D.per d : Nat) : Int)))) 60 mb) rfl) (fr % D.per d) c 0 (by rw [wordVals_length, hwl]; omega)]
      rw [← piece_words hok x (fr := fr) (k := c) (by omega)]
      unfold wordVals
      rw [List.map_take, List.map_drop, Nat.add_zero]
    · rw [wordVals_length, pws_len, hset]; omega
    · obtain ⟨z, _, rfl⟩ := List.mem_map.1 hy; rfl
    simp only [DI_int', DB_bool, DS_string, DP_pointer, DSl_slice, DM_map, DA_agg, DTup_tuple, DCons_cons, DNil_nil, NN_some, BIf_true, BIf_false, BIf_same, List.toList_toArray, Bool.not_true, Bool.not_false]
    refine hs.ld 7 rfl rfl ?_
    simp only [DI_int', DB_bool, DS_string, DP_pointer, DSl_slice, DM_map, DA_agg, DTup_tuple, DCons_cons, DNil_nil, NN_some, BIf_true, BIf_false, BIf_same, List.toList_toArray, Bool.not_true, Bool.not_false]
    refine slB_from rfl (by omega) ?_
    rw [i64w (x := (j : Int) + 1) (by omega) (by omega)]
    have happ : setAt (setAt xs off0 (wordVals (pws d x fr0 off))) (off0 + off) (wordVals (pws d x fr c)) = setAt xs off0 (wordVals (pws d x fr0 (off + c))) := by
      have hl : (wordVals (pws d x fr0 off)).length = off := by rw [wordVals_length, pws_len]
      have := setAt_append (xs := xs) (us := wordVals (pws d x fr0 off)) (bs := wordVals (pws d x fr c)) (off := off0) (by rw [hl, wordVals_length, pws_len]; omega)
      rw [hl] at this
      rw [this, pws_add, hoff]
      unfold wordVals
      rw [List.map_append]
    have hsum' : ((all.take (j + 1)).map (·.2.2)).sum = off + c := by
      rw [List.take_succ_eq_append_getElem hjlt, List.map_append, List.sum_append, hsum, hget]
      simp
    refine read_loop K (rb := rb) (mb := mb) hok hc hx hbm hn4 hn40 ho hK k (fr + c) (n + 1 - c) (j + 1) (off + c) _ (m - c) (wordsB (d.now ((x.f + fr / D.per d : Nat) : Int))) H (by omega) (by omega) (by omega) hrest (by omega) (by omega) hsum' (by omega) (fun h0 => ?_) hwl ?_
    · rw [slA_at (by omega), Nat.add_assoc]
    · rw [← happ]
      exact hs.re [0, 1, 2, 3, 4, 5, 6] rfl

theorem pcs_sum (per f : Nat) (hp : 0 < per) : ∀ (k fr n : Nat), n ≤ k → ((pcs per f k fr n).map (·.2.2)).sum = n
  | k, fr, 0, _ => by cases k <;> simp [pcs]
  | 0, fr, n + 1, h => by omega
  | k + 1, fr, n + 1, h => by
    have hcle := cN_le per fr (n + 1)
    have hcpos := cN_pos (per := per) (fr := fr) (n := n + 1) hp (by omega)
    unfold pcs
    rw [if_neg (by omega), List.map_cons, List.sum_cons, pcs_sum per f hp k _ _ (by omega)]
    show cN per fr (n + 1) + _ = _
    omega

theorem pcs_len (per f : Nat) : ∀ (k fr n : Nat), (pcs per f k fr n).length ≤ k
  | 0, _, _ => by simp [pcs]
  | k + 1, fr, n => by
    unfold pcs
    split
    · simp
    · have := pcs_len per f k (fr + cN per fr n) (n - cN per fr n)
      simp only [List.length_cons]; omega

def mx (a b : Int) : Int := if b > a then b else a

/-- Words are read. -/
theorem Read_tr {p dp ap : Nat} {d : D} {x : X} {cap peak : Int} {bufs : List (Nat × Nat × Option Addr)} {rl off mm : Nat} {el : TypeId} {xs : List Value} (hok : Ok d) (hc : Calm d) (hx : On d x) (ho : d.rd ≤ 4611686010000000000) (fr n m : Nat) (hn : 1 ≤ n) (hf : fr + n ≤ x.w) (hm : n ≤ m) (hl : off + n ≤ xs.length) (hcap : (D.per d : Int) ≤ cap - sumB bufs) :
    Tr Tryz.prog 114 #[.pointer (some ⟨p, 0, none⟩), .int .i64 fr, .slice (some ⟨rl, off, none⟩) n m] [pts p (pipO dp ap x), Dk dp d, Ar ap cap peak bufs, pts rl (.row xs el mm)] fun v M =>
      v = .int .i64 0 ∧ M = [pts p (pipO dp ap x), Dk dp (D.rdN d (pcs (D.per d) x.f n fr n).length), Ar ap cap (mx peak (sumB bufs + D.per d)) bufs, pts rl (.row (setAt xs off (wordVals (pws d x fr n))) el mm)] := fun H hs => by
  have hp := Ok.per_le hok
  have hsec := hok.sec
  have hroom : x.s * D.per d ≤ 1048576 * 512 := Nat.mul_le_mul (by have := hx.fit; omega) (by omega)
  have h4 := hx.room
  have hpl := pcs_len (D.per d) x.f n fr n
  apply W_stream_Pipe_Read.ok
  unfold W_stream_Pipe_Read
  refine (pieces_tr (dp := dp) (ap := ap) hok hx fr n hf).use hs [0, 1] rfl rfl ?_
  rintro _ _ H ⟨A4, m4, rfl, rfl⟩ hs
  simp only [DI_int', DB_bool, DS_string, DP_pointer, DSl_slice, DM_map, DA_agg, DTup_tuple, DCons_cons, DNil_nil, NN_some, BIf_true, BIf_false, BIf_same, List.toList_toArray, Bool.not_true, Bool.not_false]
  refine BIf_bnen rfl (BIf_beqn (by omega) ?_)
  simp only [NN_some, Addr.add_lit', Addr.add_zero, Nat.zero_add, Nat.add_zero]
  have rest : ∀ (b rb : Nat) (H : Hp), (∀ y ∈ bufs, y.1 ≠ b) → Sep [Ar ap cap (if sumB bufs + D.per d > peak then sumB bufs + D.per d else peak) (bufs ++ [(b, D.per d, some ⟨rb, 0, none⟩)]), pts rb (.row (zerosU64 (D.per d)) 60 (D.per d)), pts p (pipO dp ap x), Dk dp d, Own 265 3 A4 (pcs (D.per d) x.f n fr n).length m4 ((pcs (D.per d) x.f n fr n).flatMap pcV), pts rl (.row xs el mm)] H →
      W_stream_Pipe_Read.j5 (fun v H' => ∃ M, (v = .int .i64 0 ∧ M = [pts p (pipO dp ap x), Dk dp (D.rdN d (pcs (D.per d) x.f n fr n).length), Ar ap cap (mx peak (sumB bufs + D.per d)) bufs, pts rl (.row (setAt xs off (wordVals (pws d x fr n))) el mm)]) ∧ Sep M H') (some ⟨p, 0, none⟩) (some ⟨rl, off, none⟩) n m A4 (pcs (D.per d) x.f n fr n).length m4 (0 : Int) (some ⟨b, 0, none⟩) H := fun b rb H hbm hs => by
    unfold W_stream_Pipe_Read.j5
    refine BIf_bnen rfl ?_
    simp only [NN_some, Addr.add_lit', Addr.add_zero, Nat.zero_add, Nat.add_zero]
    refine hs.ld 2 rfl rfl ?_
    simp only [DI_int', DB_bool, DS_string, DP_pointer, DSl_slice, DM_map, DA_agg, DTup_tuple, DCons_cons, DNil_nil, NN_some, BIf_true, BIf_false, BIf_same, List.toList_toArray, Bool.not_true, Bool.not_false]
    refine hs.nw fun vb H hs => ?_
    refine ⟨n + 1, ?_⟩
    have hz : zerosU64 (D.per d) = wordVals (List.replicate (D.per d) 0) := by
      unfold zerosU64
      rw [zeroRow_one]
      unfold wordVals
      rw [List.map_replicate]; rfl
    refine read_loop _ (p := p) (dp := dp) (ap := ap) (d := d) (x := x) (cap := cap) (peak := mx peak (sumB bufs + D.per d)) (bufs := bufs) (b := b) (rb := rb) (mb := D.per d) (rl := rl) (off0 := off) (fr0 := fr) (mm := mm) (vb := vb) (el := el) (xs := xs) hok hc hx hbm rfl (by omega) ho (fun H hs => ?_) n fr n 0 0 _ m (List.replicate (D.per d) 0) H (Nat.le_refl _) hf hm rfl (Nat.zero_le _) (by omega) rfl (by omega) (fun _ => rfl) (by simp) ?_
    · rw [pcs_sum _ _ (by omega) n fr n (Nat.le_refl _)] at hs
      exact ⟨_, ⟨rfl, rfl⟩, hs⟩
    · rw [← hz, show setAt xs off (wordVals (pws d x fr 0)) = xs from setAt_nil xs off, rdN_zero]
      exact hs.re [2, 3, 0, 1, 4, 5, 6] rfl
  have fresh : ∀ {L : List As} {H : Hp} (b rb : Nat) (pk : Int), Sep L H → L[0]? = some (Ar ap cap pk (bufs ++ [(b, D.per d, some ⟨rb, 0, none⟩)])) → ∀ y ∈ bufs, y.1 ≠ b := fun b rb pk hs h0 y hy e => by
    obtain ⟨mp, cl, tk, hA⟩ := Sep.ar hs 0 h0
    have := hA.bn
    rw [List.map_append, List.nodup_append] at this
    exact this.2.2 y.1 (List.mem_map_of_mem hy) b (by simp) e
  refine ⟨?_, ?_⟩
  · refine hs.ld 0 rfl rfl ?_
    simp only [DI_int', DB_bool, DS_string, DP_pointer, DSl_slice, DM_map, DA_agg, DTup_tuple, DCons_cons, DNil_nil, NN_some, BIf_true, BIf_false, BIf_same, List.toList_toArray, Bool.not_true, Bool.not_false]
    refine HCalls.use (per_s hs 0 1 rfl rfl hok) ?_
    try simp only [DI_int', DB_bool, DS_string, DP_pointer, DSl_slice, DM_map, DA_agg, DTup_tuple, DCons_cons, DNil_nil, NN_some, BIf_true, BIf_false, BIf_same, List.toList_toArray, Bool.not_true, Bool.not_false]
    refine (Take_tr (a := ap) (cap := cap) (peak := peak) (bufs := bufs) (n := D.per d) (by omega) hcap).use hs [3] rfl rfl ?_
    rintro _ _ H ⟨b, rb, rfl, rfl⟩ hs
    simp only [DI_int', DB_bool, DS_string, DP_pointer, DSl_slice, DM_map, DA_agg, DTup_tuple, DCons_cons, DNil_nil, NN_some, BIf_true, BIf_false, BIf_same, List.toList_toArray, Bool.not_true, Bool.not_false]
    exact rest b rb H (fresh b rb _ hs rfl) (hs.re [0, 1, 2, 3, 4, 5] rfl)
  · refine HCalls.use (per_s hs 0 1 rfl rfl hok) ?_
    try simp only [DI_int', DB_bool, DS_string, DP_pointer, DSl_slice, DM_map, DA_agg, DTup_tuple, DCons_cons, DNil_nil, NN_some, BIf_true, BIf_false, BIf_same, List.toList_toArray, Bool.not_true, Bool.not_false]
    refine hs.ld 0 rfl rfl ?_
    simp only [DI_int', DB_bool, DS_string, DP_pointer, DSl_slice, DM_map, DA_agg, DTup_tuple, DCons_cons, DNil_nil, NN_some, BIf_true, BIf_false, BIf_same, List.toList_toArray, Bool.not_true, Bool.not_false]
    refine (Take_tr (a := ap) (cap := cap) (peak := peak) (bufs := bufs) (n := D.per d) (by omega) hcap).use hs [3] rfl rfl ?_
    rintro _ _ H ⟨b, rb, rfl, rfl⟩ hs
    simp only [DI_int', DB_bool, DS_string, DP_pointer, DSl_slice, DM_map, DA_agg, DTup_tuple, DCons_cons, DNil_nil, NN_some, BIf_true, BIf_false, BIf_same, List.toList_toArray, Bool.not_true, Bool.not_false]
    exact rest b rb H (fresh b rb _ hs rfl) (hs.re [0, 1, 2, 3, 4, 5] rfl)

end Go.Proofs.YtghajiefpmcpmaaGreatDoor.Str

end
section
/-! StrD -/
/- stream: Write. -/
set_option maxRecDepth 100000
set_option linter.unusedSimpArgs false
set_option linter.unusedVariables false
set_option linter.unnecessarySimpa false
set_option linter.unusedSectionVars false
namespace Go.Proofs.YtghajiefpmcpmaaGreatDoor.Str
open Go Go.Hw Go.Form Go.Proofs.YtghajiefpmcpmaaGreatDoor.W Go.Proofs.YtghajiefpmcpmaaGreatDoor.Dsk Go.Proofs.YtghajiefpmcpmaaGreatDoor.Are

/-- Words are written over others. -/
def setW (ws : List UInt64) (at' : Nat) (src : List UInt64) : List UInt64 := ws.take at' ++ src ++ ws.drop (at' + src.length)
theorem setW_len {ws src : List UInt64} {i : Nat} (h : i + src.length ≤ ws.length) : (setW ws i src).length = ws.length := by
  unfold setW; simp; omega
theorem setW_vals (ws src : List UInt64) (i : Nat) : setAt (wordVals ws) i (wordVals src) = wordVals (setW ws i src) := by
  unfold setAt setW wordVals
  simp

/-- A piece is written. -/
def wpc (d : D) (s : Nat) (at' : Nat) (src : List UInt64) : D := D.put (if src.length < D.per d then D.more d else d) s (setW (wordsB (d.now s)) at' src)
/-- All are. -/
def wrs (d : D) (x : X) : Nat → Nat → List UInt64 → D
  | 0, _, _ => d
  | k + 1, fr, src => if src = [] then d else wrs (wpc d (x.f + fr / D.per d) (fr % D.per d) (src.take (cN (D.per d) fr src.length))) x k (fr + cN (D.per d) fr src.length) (src.drop (cN (D.per d) fr src.length))

theorem put_now (d : D) (s : Int) (ws : List UInt64) (i : Int) : (D.put d s ws).now i = if i = s then form ws else d.now i := by
  unfold D.put D.now updB
  by_cases h : i = s
  · simp [h]
  · simp only [h, if_false]; rfl

theorem Ok.put {d : D} (h : Ok d) (i : Int) {ws : List UInt64} (hw : ws.length = D.per d) : Ok (D.put d i ws) := by
  have hp := Ok.per_le h
  refine ⟨h.sec, h.size, h.big, h.per, h.safe, fun k b hb => ?_, h.fz⟩
  have hb' : (if k = i then some (form ws) else d.cache k) = some b := hb
  split at hb'
  · cases hb'
    rw [form_length]; show 8 * ws.length = d.size; omega
  · exact h.cache k b hb'
theorem Ok.more {d : D} (h : Ok d) : Ok (D.more d) := Ok.rdN h 1
theorem Calm.put {d : D} (h : Calm d) (i : Int) (ws : List UInt64) : Calm (D.put d i ws) := ⟨h.down, h.fuse⟩
theorem Calm.more {d : D} (h : Calm d) : Calm (D.more d) := ⟨h.down, h.fuse⟩

theorem wpc_ok {d : D} (h : Ok d) (s at' : Nat) {src : List UInt64} (hl : at' + src.length ≤ D.per d) : Ok (wpc d s at' src) := by
  have hwl : (wordsB (d.now (s : Int))).length = D.per d := by rw [wordsB_len, h.now]; rfl
  unfold wpc
  split
  · exact Ok.put (Ok.more h) _ (by rw [setW_len (by omega)]; exact hwl)
  · exact Ok.put h _ (by rw [setW_len (by omega)]; exact hwl)
theorem wpc_calm {d : D} (h : Calm d) (s at' : Nat) (src : List UInt64) : Calm (wpc d s at' src) := by
  unfold wpc
  split
  · exact Calm.put (Calm.more h) _ _
  · exact Calm.put h _ _
theorem wpc_size (d : D) (s at' : Nat) (src : List UInt64) : (wpc d s at' src).size = d.size ∧ (wpc d s at' src).sec = d.sec := by
  unfold wpc
  split <;> exact ⟨rfl, rfl⟩
theorem wpc_per (d : D) (s at' : Nat) (src : List UInt64) : D.per (wpc d s at' src) = D.per d := by unfold D.per; rw [(wpc_size d s at' src).1]
theorem wpc_cnt (d : D) (s at' : Nat) (src : List UInt64) : (wpc d s at' src).wr = d.wr + 1 ∧ (wpc d s at' src).rd = d.rd + (if src.length < D.per d then 1 else 0) ∧ (wpc d s at' src).sy = d.sy := by
  unfold wpc
  split
  · exact ⟨rfl, rfl, rfl⟩
  · exact ⟨rfl, rfl, rfl⟩
theorem wpc_now (d : D) (s at' : Nat) (src : List UInt64) (i : Int) : (wpc d s at' src).now i = if i = s then form (setW (wordsB (d.now s)) at' src) else d.now i := by
  unfold wpc
  rw [put_now]
  split
  · rfl
  · split <;> rfl

theorem write_loop (K : Value → Hp → Prop) {p dp ap : Nat} {x : X} {cap peak : Int} {bufs : List (Nat × Nat × Option Addr)} {b rb mb : Nat} (hbm : ∀ y ∈ bufs, y.1 ≠ b) {vb : Nat} {R : As} {A4 : Option Addr} {n4 m4 : Nat} {all : List (Nat × Nat × Nat)} (hn4 : n4 = all.length) (hn40 : n4 ≤ 1000000000) :
    ∀ (k fr j : Nat) (d : D) (A : Option Addr) (m : Nat) (src ws : List UInt64) (H : Hp), Ok d → Calm d → On d x → d.rd + k ≤ 4611686010000000000 → d.wr + k ≤ 4611686010000000000 → src.length ≤ k → fr + src.length ≤ x.w → src.length ≤ m → all.drop j = pcs (D.per d) x.f k fr src.length → j ≤ n4 → (∀ H, R H → Cells H A (wordVals src)) → ws.length = D.per d →
      (∀ H, Sep [pts p (pipO dp ap x), Dk dp (wrs d x k fr src), Ar ap cap peak bufs, R] H → K (.int .i64 0) H) →
      Sep [pts p (pipO dp ap x), Dk dp d, Ar ap cap peak (bufs ++ [(b, D.per d, some ⟨rb, 0, none⟩)]), pts rb (.row (wordVals ws) 60 mb), Own 265 3 A4 n4 m4 (all.flatMap pcV), R, pts vb (.row [.pointer (some ⟨b, 0, none⟩)] 256 1)] H →
      W_stream_Pipe_Write.l9 K (k + 1) (some ⟨p, 0, none⟩) A src.length m (some ⟨b, 0, none⟩) A4 n4 m4 (n4 : Int) (j : Int) (some ⟨ap, 0, none⟩) (some ⟨vb, 0, none⟩) 1 1 H
  | k, fr, j, d, A, m, [], ws, H, hok, hc, hx, hrd, hwr, hn, hf, hm, hall, hj, hR, hws, hK, hs => by
    unfold W_stream_Pipe_Write.l9
    have e : pcs (D.per d) x.f k fr ([] : List UInt64).length = [] := by cases k <;> simp [pcs]
    have e2 : wrs d x k fr [] = d := by cases k <;> simp [wrs]
    rw [e] at hall
    have hjn : j = n4 := by
      have := congrArg List.length hall
      simp at this; omega
    subst hjn
    refine BIf_dneg (by omega) ?_
    refine (Give_oneD vb b (D.per d) (some ⟨rb, 0, none⟩) hbm).use hs [2, 6] rfl rfl ?_
    rintro _ _ H ⟨rfl, rfl⟩ hs
    refine hK H ?_
    rw [e2]
    exact hs.re [1, 2, 0, 5] rfl
  | 0, fr, j, d, A, m, w0 :: src0, ws, H, hok, hc, hx, hrd, hwr, hn, hf, hm, hall, hj, hR, hws, hK, hs => by simp at hn
  | k + 1, fr, j, d, A, m, w0 :: src0, ws, H, hok, hc, hx, hrd, hwr, hn, hf, hm, hall, hj, hR, hws, hK, hs => by
    generalize hsrc : w0 :: src0 = src at *
    have hne : src ≠ [] := by rw [← hsrc]; simp
    have hpos : 0 < src.length := by rw [← hsrc]; simp
    have hp := Ok.per_le hok
    have hsec := hok.sec
    have hroom : x.s * D.per d ≤ 1048576 * 512 := Nat.mul_le_mul (by have := hx.fit; omega) (by omega)
    have h4 := hx.room
    have hfit := hx.fit
    have e : pcs (D.per d) x.f (k + 1) fr src.length = (x.f + fr / D.per d, fr % D.per d, cN (D.per d) fr src.length) :: pcs (D.per d) x.f k (fr + cN (D.per d) fr src.length) (src.length - cN (D.per d) fr src.length) := by
      show (if src.length = 0 then [] else _) = _
      rw [if_neg (by omega)]
    have ew : wrs d x (k + 1) fr src = wrs (wpc d (x.f + fr / D.per d) (fr % D.per d) (src.take (cN (D.per d) fr src.length))) x k (fr + cN (D.per d) fr src.length) (src.drop (cN (D.per d) fr src.length)) := by
      show (if src = [] then d else _) = _
      rw [if_neg hne]
    rw [e] at hall
    rw [ew] at hK
    have hjlt : j < all.length := by
      have := congrArg List.length hall
      simp at this; omega
    have hcle := cN_le (D.per d) fr src.length
    have hcpos := cN_pos (per := D.per d) (fr := fr) (n := src.length) (by omega) hpos
    have hcper := cN_per (per := D.per d) (fr := fr) (n := src.length) (by omega)
    have hmod := Nat.mod_lt fr (show 0 < D.per d by omega)
    have hdiv : fr / D.per d < x.s := by
      rw [Nat.div_lt_iff_lt_mul (by omega)]; omega
    have hget : all[j] = (x.f + fr / D.per d, fr % D.per d, cN (D.per d) fr src.length) := by
      have := List.drop_eq_getElem_cons hjlt
      rw [this] at hall
      exact (List.cons.inj hall).1
    have hrest : all.drop (j + 1) = pcs (D.per d) x.f k (fr + cN (D.per d) fr src.length) (src.length - cN (D.per d) fr src.length) := by
      have := List.drop_eq_getElem_cons hjlt
      rw [this] at hall
      exact (List.cons.inj hall).2
    generalize hcv : cN (D.per d) fr src.length = c at *
    have hflat : ∀ (l : List (Nat × Nat × Nat)) (i : Nat) (hi : i < l.length), ((l.flatMap pcV).drop (i * 3)).take 3 = pcV l[i] := by
      intro l
      induction l with
      | nil => intro i hi; simp at hi
      | cons y l ih =>
        intro i hi
        rw [List.flatMap_cons]
        cases i with
        | zero => simp [pcV]
        | succ i =>
          rw [show (i + 1) * 3 = (pcV y).length + i * 3 by simp [pcV]; omega, List.drop_append]
          simp only [Nat.add_sub_cancel_left, List.getElem_cons_succ]
          rw [List.drop_eq_nil_of_le (by omega), List.nil_append]
          exact ih i (by simpa using hi)
    have hsec1 : ((x.f + fr / D.per d : Nat) : Int) < (d.sec : Int) := Int.ofNat_lt.2 (by omega)
    have htk : (src.take c).length = c := by simp; omega
    have hwl : (wordsB (d.now ((x.f + fr / D.per d : Nat) : Int))).length = D.per d := by rw [wordsB_len, hok.now]; rfl
    unfold W_stream_Pipe_Write.l9
    refine BIf_dpos (by omega) ?_
    refine (hs.own 4 rfl).rdA (ys := pcV all[j]) rfl (by omega) (hflat all j hjlt) ?_
    rw [hget]
    refine hs.nw fun b2 H hs => ?_
    refine hs.stw 7 rfl rfl rfl rfl fun H hs => ?_
    have hs : Sep [pts p (pipO dp ap x), Dk dp d, Ar ap cap peak (bufs ++ [(b, D.per d, some ⟨rb, 0, none⟩)]), pts rb (.row (wordVals ws) 60 mb), Own 265 3 A4 n4 m4 (all.flatMap pcV), R, pts vb (.row [.pointer (some ⟨b, 0, none⟩)] 256 1),
      pts b2 (.obj (.cells #[.int .i64 ((x.f + fr / D.per d : Nat) : Int), .int .i64 ((fr % D.per d : Nat) : Int), .int .i64 (c : Int)] 265))] H := hs
    -- behind the load, if there was one
    have join : ∀ (d1 : D) (ws1 : List UInt64) (H : Hp), (d1 = if c < D.per d then D.more d else d) → ws1.length = D.per d → (c < D.per d → ws1 = wordsB (d.now ((x.f + fr / D.per d : Nat) : Int))) →
        Sep [pts p (pipO dp ap x), Dk dp d1, Ar ap cap peak (bufs ++ [(b, D.per d, some ⟨rb, 0, none⟩)]), pts rb (.row (wordVals ws1) 60 mb), Own 265 3 A4 n4 m4 (all.flatMap pcV), R, pts vb (.row [.pointer (some ⟨b, 0, none⟩)] 256 1),
          pts b2 (.obj (.cells #[.int .i64 ((x.f + fr / D.per d : Nat) : Int), .int .i64 ((fr % D.per d : Nat) : Int), .int .i64 (c : Int)] 265))] H →
        W_stream_Pipe_Write.j15 K (W_stream_Pipe_Write.l9 K (k + 1)) (some ⟨p, 0, none⟩) A src.length m (some ⟨b, 0, none⟩) ⟨b2, 0, none⟩ A4 n4 m4 (n4 : Int) (j : Int) (some ⟨ap, 0, none⟩) (some ⟨vb, 0, none⟩) 1 1 H := fun d1 ws1 H hd1 hw1 hwe hs => by
      have hd1p : D.per d1 = D.per d ∧ Ok d1 ∧ Calm d1 ∧ d1.wr = d.wr ∧ d1.sec = d.sec := by
        rw [hd1]; split
        · exact ⟨rfl, Ok.more hok, Calm.more hc, rfl, rfl⟩
        · exact ⟨rfl, hok, hc, rfl, rfl⟩
      obtain ⟨q1, q2, q3, q4, q5⟩ := hd1p
      have hwset : setW ws1 (fr % D.per d) (src.take c) = setW (wordsB (d.now ((x.f + fr / D.per d : Nat) : Int))) (fr % D.per d) (src.take c) := by
        by_cases hlt : c < D.per d
        · rw [hwe hlt]
        · have h0 : fr % D.per d = 0 := by omega
          unfold setW
          rw [h0, htk, List.drop_eq_nil_of_le (by omega), List.drop_eq_nil_of_le (by omega)]
          simp
      have hdisk : D.put d1 ((x.f + fr / D.per d : Nat) : Int) (setW ws1 (fr % D.per d) (src.take c)) = wpc d (x.f + fr / D.per d) (fr % D.per d) (src.take c) := by
        unfold wpc
        rw [hwset, hd1, htk]
      unfold W_stream_Pipe_Write.j15
      simp only [NN_some, Addr.add_lit', Addr.add_zero, Nat.zero_add, Nat.add_zero]
      refine QCall.use (Words_s hs 2 rfl (List.mem_append_right _ (List.mem_singleton.2 rfl))) ?_
      simp only [DI_int', DB_bool, DS_string, DP_pointer, DSl_slice, DM_map, DA_agg, DTup_tuple, DCons_cons, DNil_nil, NN_some, BIf_true, BIf_false, BIf_same, List.toList_toArray, Bool.not_true, Bool.not_false]
      refine hs.ld 7 rfl rfl ?_
      simp only [DI_int', DB_bool, DS_string, DP_pointer, DSl_slice, DM_map, DA_agg, DTup_tuple, DCons_cons, DNil_nil, NN_some, BIf_true, BIf_false, BIf_same, List.toList_toArray, Bool.not_true, Bool.not_false]
      refine slB_from rfl (by omega) ?_
      refine hs.ld 7 rfl rfl ?_
      simp only [DI_int', DB_bool, DS_string, DP_pointer, DSl_slice, DM_map, DA_agg, DTup_tuple, DCons_cons, DNil_nil, NN_some, BIf_true, BIf_false, BIf_same, List.toList_toArray, Bool.not_true, Bool.not_false]
      refine slB_to rfl (by omega) ?_
      rw [slA_at (by omega), Nat.zero_add]
      have hcell : ∀ {L : List As} {H : Hp}, Sep L H → L[5]? = some R → Cells H A (wordVals src) := fun hs h5 => by
        obtain ⟨H1, hR1, hle⟩ := hs.see 5 h5
        exact (hR H1 hR1).le hle
      refine hs.cp 3 (b := rb) (off := fr % D.per d) (n := D.per d - fr % D.per d) (k := c - 0) (xs := wordVals ws1) (e' := 60) (m := mb) (ys := wordVals (src.take c)) (by rfl) cell_u64 rfl ?_ ?_ (fun y hy => ?_) fun H hs => ?_
      · have hmin : Nat.min (c - 0) (D.per d - fr % D.per d) = c - 0 := Nat.min_eq_left (by omega)
        rw [hmin]
        have h1 := ((hcell hs rfl).shift (m := m) (l := 0) (by rw [wordVals_length]; omega)).take c
        rw [List.drop_zero, show (wordVals src).take c = wordVals (src.take c) by unfold wordVals; rw [List.map_take]] at h1
        exact src_of h1 (by rw [wordVals_length, htk]; omega)
      · rw [wordVals_length, wordVals_length, htk, hw1]; omega
      · obtain ⟨z, _, rfl⟩ := List.mem_map.1 hy; rfl
      simp only [DI_int', DB_bool, DS_string, DP_pointer, DSl_slice, DM_map, DA_agg, DTup_tuple, DCons_cons, DNil_nil, NN_some, BIf_true, BIf_false, BIf_same, List.toList_toArray, Bool.not_true, Bool.not_false]
      rw [setW_vals] at hs
      refine hs.ld 7 rfl rfl ?_
      simp only [DI_int', DB_bool, DS_string, DP_pointer, DSl_slice, DM_map, DA_agg, DTup_tuple, DCons_cons, DNil_nil, NN_some, BIf_true, BIf_false, BIf_same, List.toList_toArray, Bool.not_true, Bool.not_false]
      have hs : Sep [pts p (pipO dp ap x), Dk dp d1, Ar ap cap peak (bufs ++ [(b, D.per d, some ⟨rb, 0, none⟩)]), pts rb (.row (wordVals (setW ws1 (fr % D.per d) (src.take c))) 60 mb), Own 265 3 A4 n4 m4 (all.flatMap pcV), R, pts vb (.row [.pointer (some ⟨b, 0, none⟩)] 256 1),
          pts b2 (.obj (.cells #[.int .i64 ((x.f + fr / D.per d : Nat) : Int), .int .i64 ((fr % D.per d : Nat) : Int), .int .i64 (c : Int)] 265))] H := hs
      have hsl : (setW ws1 (fr % D.per d) (src.take c)).length = D.per d := by rw [setW_len (by omega)]; exact hw1
      refine (store_tr (p := p) (ap := ap) (x := x) (cap := cap) (peak := peak) (b := b) (rb := rb) (m := mb) (d := d1) (ws := setW ws1 (fr % D.per d) (src.take c)) q2 q3 (by omega) ((x.f + fr / D.per d : Nat) : Int) (Int.natCast_nonneg _) (by rw [q5]; exact hsec1) (bufs := bufs ++ [(b, D.per d, some ⟨rb, 0, none⟩)]) (by rw [q1]; exact List.mem_append_right _ (List.mem_singleton.2 rfl)) (by rw [q1]; exact hsl)).use hs [0, 1, 2, 3] rfl rfl ?_
      rintro _ _ H ⟨rfl, rfl⟩ hs
      rw [hdisk] at hs
      simp only [DI_int', DB_bool, DS_string, DP_pointer, DSl_slice, DM_map, DA_agg, DTup_tuple, DCons_cons, DNil_nil, NN_some, BIf_true, BIf_false, BIf_same, List.toList_toArray, Bool.not_true, Bool.not_false]
      refine BIf_bnen rfl ?_
      refine hs.ld 7 rfl rfl ?_
      simp only [DI_int', DB_bool, DS_string, DP_pointer, DSl_slice, DM_map, DA_agg, DTup_tuple, DCons_cons, DNil_nil, NN_some, BIf_true, BIf_false, BIf_same, List.toList_toArray, Bool.not_true, Bool.not_false]
      refine slB_from rfl (by omega) ?_
      rw [i64w (x := (j : Int) + 1) (by omega) (by omega)]
      have hcnt := wpc_cnt d (x.f + fr / D.per d) (fr % D.per d) (src.take c)
      have hsz := wpc_size d (x.f + fr / D.per d) (fr % D.per d) (src.take c)
      have hper := wpc_per d (x.f + fr / D.per d) (fr % D.per d) (src.take c)
      have hdl : (src.drop c).length = src.length - c := by simp
      rw [← hdl]
      refine write_loop K (rb := rb) (mb := mb) hbm hn4 hn40 k (fr + c) (j + 1) _ _ (m - c) (src.drop c) (setW ws1 (fr % D.per d) (src.take c)) H (wpc_ok hok _ _ (by omega)) (wpc_calm hc _ _ _) ⟨hx.w1, hx.s1, by rw [hsz.2]; exact hfit, by rw [hper]; exact h4⟩ (by rw [hcnt.2.1]; split <;> omega) (by rw [hcnt.1]; omega) (by omega) (by omega) (by omega) (by rw [hper, hdl]; exact hrest) (by omega) (fun H hRH => ?_) (by rw [hper]; exact hsl) hK ?_
      · have := (hR H hRH).shift (m := m) (l := c) (by rw [wordVals_length]; omega)
        rw [show (wordVals src).drop c = wordVals (src.drop c) by unfold wordVals; rw [List.map_drop]] at this
        exact this
      · rw [hper]
        exact hs.re [0, 1, 2, 3, 4, 5, 6] rfl
    simp only [NN_some, Addr.add_lit', Addr.add_zero, Nat.zero_add, Nat.add_zero]
    refine hs.ld 7 rfl rfl ?_
    simp only [DI_int', DB_bool, DS_string, DP_pointer, DSl_slice, DM_map, DA_agg, DTup_tuple, DCons_cons, DNil_nil, NN_some, BIf_true, BIf_false, BIf_same, List.toList_toArray, Bool.not_true, Bool.not_false]
    refine QCall.use (per_s hs 0 1 rfl rfl hok) ?_
    simp only [DI_int', DB_bool, DS_string, DP_pointer, DSl_slice, DM_map, DA_agg, DTup_tuple, DCons_cons, DNil_nil, NN_some, BIf_true, BIf_false, BIf_same, List.toList_toArray, Bool.not_true, Bool.not_false]
    by_cases hlt : c < D.per d
    · refine BIf_dpos (by omega) ?_
      refine hs.ld 7 rfl rfl ?_
      simp only [DI_int', DB_bool, DS_string, DP_pointer, DSl_slice, DM_map, DA_agg, DTup_tuple, DCons_cons, DNil_nil, NN_some, BIf_true, BIf_false, BIf_same, List.toList_toArray, Bool.not_true, Bool.not_false]
      refine (load_tr (p := p) (ap := ap) (x := x) (cap := cap) (peak := peak) (b := b) (rb := rb) (m := mb) hok hc (by omega) ((x.f + fr / D.per d : Nat) : Int) (Int.natCast_nonneg _) hsec1 (bufs := bufs ++ [(b, D.per d, some ⟨rb, 0, none⟩)]) (List.mem_append_right _ (List.mem_singleton.2 rfl)) (xs := wordVals ws) (by rw [wordVals_length]; exact hws)).use hs [0, 1, 2, 3] rfl rfl ?_
      rintro _ _ H ⟨rfl, rfl⟩ hs
      simp only [DI_int', DB_bool, DS_string, DP_pointer, DSl_slice, DM_map, DA_agg, DTup_tuple, DCons_cons, DNil_nil, NN_some, BIf_true, BIf_false, BIf_same, List.toList_toArray, Bool.not_true, Bool.not_false]
      refine BIf_bnen rfl ?_
      exact join (D.more d) _ H (by rw [if_pos hlt]) hwl (fun _ => rfl) (hs.re [0, 1, 2, 3, 4, 5, 6, 7] rfl)
    · refine BIf_dneg (by omega) ?_
      exact join d ws H (by rw [if_neg hlt]) hws (fun h => absurd h hlt) hs

/-- Words are written. -/
theorem Write_tr {p dp ap : Nat} {d : D} {x : X} {cap peak : Int} {bufs : List (Nat × Nat × Option Addr)} {R : As} {A : Option Addr} {n m : Nat} {src : List UInt64} (hok : Ok d) (hc : Calm d) (hx : On d x) (ho : d.rd ≤ 4611686000000000000 ∧ d.wr ≤ 4611686000000000000) (fr : Nat) (hn : n = src.length) (hn1 : 1 ≤ n) (hf : fr + n ≤ x.w) (hm : n ≤ m) (hcap : (D.per d : Int) ≤ cap - sumB bufs) (hR : ∀ H, R H → Cells H A (wordVals src)) :
    Tr Tryz.prog 101 #[.pointer (some ⟨p, 0, none⟩), .int .i64 fr, .slice A n m] [pts p (pipO dp ap x), Dk dp d, Ar ap cap peak bufs, R] fun v M =>
      v = .int .i64 0 ∧ M = [pts p (pipO dp ap x), Dk dp (wrs d x n fr src), Ar ap cap (mx peak (sumB bufs + D.per d)) bufs, R] := fun H hs => by
  subst hn
  have hp := Ok.per_le hok
  have hsec := hok.sec
  have hroom : x.s * D.per d ≤ 1048576 * 512 := Nat.mul_le_mul (by have := hx.fit; omega) (by omega)
  have h4 := hx.room
  have hpl := pcs_len (D.per d) x.f src.length fr src.length
  apply W_stream_Pipe_Write.ok
  unfold W_stream_Pipe_Write
  refine (pieces_tr (dp := dp) (ap := ap) hok hx fr src.length hf).use hs [0, 1] rfl rfl ?_
  rintro _ _ H ⟨A4, m4, rfl, rfl⟩ hs
  simp only [DI_int', DB_bool, DS_string, DP_pointer, DSl_slice, DM_map, DA_agg, DTup_tuple, DCons_cons, DNil_nil, NN_some, BIf_true, BIf_false, BIf_same, List.toList_toArray, Bool.not_true, Bool.not_false]
  refine BIf_bnen rfl (BIf_beqn (by omega) ?_)
  simp only [NN_some, Addr.add_lit', Addr.add_zero, Nat.zero_add, Nat.add_zero]
  have rest : ∀ (b rb : Nat) (H : Hp), (∀ y ∈ bufs, y.1 ≠ b) → Sep [Ar ap cap (if sumB bufs + D.per d > peak then sumB bufs + D.per d else peak) (bufs ++ [(b, D.per d, some ⟨rb, 0, none⟩)]), pts rb (.row (zerosU64 (D.per d)) 60 (D.per d)), pts p (pipO dp ap x), Dk dp d, Own 265 3 A4 (pcs (D.per d) x.f src.length fr src.length).length m4 ((pcs (D.per d) x.f src.length fr src.length).flatMap pcV), R] H →
      W_stream_Pipe_Write.j5 (fun v H' => ∃ M, (v = .int .i64 0 ∧ M = [pts p (pipO dp ap x), Dk dp (wrs d x src.length fr src), Ar ap cap (mx peak (sumB bufs + D.per d)) bufs, R]) ∧ Sep M H') (some ⟨p, 0, none⟩) A src.length m A4 (pcs (D.per d) x.f src.length fr src.length).length m4 (0 : Int) (some ⟨b, 0, none⟩) H := fun b rb H hbm hs => by
    unfold W_stream_Pipe_Write.j5
    refine BIf_bnen rfl ?_
    simp only [NN_some, Addr.add_lit', Addr.add_zero, Nat.zero_add, Nat.add_zero]
    refine hs.ld 2 rfl rfl ?_
    simp only [DI_int', DB_bool, DS_string, DP_pointer, DSl_slice, DM_map, DA_agg, DTup_tuple, DCons_cons, DNil_nil, NN_some, BIf_true, BIf_false, BIf_same, List.toList_toArray, Bool.not_true, Bool.not_false]
    refine hs.nw fun vb H hs => ?_
    refine ⟨src.length + 1, ?_⟩
    have hz : zerosU64 (D.per d) = wordVals (List.replicate (D.per d) 0) := by
      unfold zerosU64
      rw [zeroRow_one]
      unfold wordVals
      rw [List.map_replicate]; rfl
    refine write_loop _ (p := p) (dp := dp) (ap := ap) (x := x) (cap := cap) (peak := mx peak (sumB bufs + D.per d)) (bufs := bufs) (b := b) (rb := rb) (mb := D.per d) (vb := vb) (R := R) (all := pcs (D.per d) x.f src.length fr src.length) hbm rfl (by omega) src.length fr 0 d A m src (List.replicate (D.per d) 0) H hok hc hx (by omega) (by omega) (Nat.le_refl _) hf hm rfl (Nat.zero_le _) hR (by simp) (fun H hs => ⟨_, ⟨rfl, rfl⟩, hs⟩) ?_
    rw [← hz]
    exact hs.re [2, 3, 0, 1, 4, 5, 6] rfl
  have fresh : ∀ {L : List As} {H : Hp} (b rb : Nat) (pk : Int), Sep L H → L[0]? = some (Ar ap cap pk (bufs ++ [(b, D.per d, some ⟨rb, 0, none⟩)])) → ∀ y ∈ bufs, y.1 ≠ b := fun b rb pk hs h0 y hy e => by
    obtain ⟨mp, cl, tk, hA⟩ := Sep.ar hs 0 h0
    have := hA.bn
    rw [List.map_append, List.nodup_append] at this
    exact this.2.2 y.1 (List.mem_map_of_mem hy) b (by simp) e
  refine ⟨?_, ?_⟩
  · refine hs.ld 0 rfl rfl ?_
    simp only [DI_int', DB_bool, DS_string, DP_pointer, DSl_slice, DM_map, DA_agg, DTup_tuple, DCons_cons, DNil_nil, NN_some, BIf_true, BIf_false, BIf_same, List.toList_toArray, Bool.not_true, Bool.not_false]
    refine HCalls.use (per_s hs 0 1 rfl rfl hok) ?_
    try simp only [DI_int', DB_bool, DS_string, DP_pointer, DSl_slice, DM_map, DA_agg, DTup_tuple, DCons_cons, DNil_nil, NN_some, BIf_true, BIf_false, BIf_same, List.toList_toArray, Bool.not_true, Bool.not_false]
    refine (Take_tr (a := ap) (cap := cap) (peak := peak) (bufs := bufs) (n := D.per d) (by omega) hcap).use hs [3] rfl rfl ?_
    rintro _ _ H ⟨b, rb, rfl, rfl⟩ hs
    simp only [DI_int', DB_bool, DS_string, DP_pointer, DSl_slice, DM_map, DA_agg, DTup_tuple, DCons_cons, DNil_nil, NN_some, BIf_true, BIf_false, BIf_same, List.toList_toArray, Bool.not_true, Bool.not_false]
    exact rest b rb H (fresh b rb _ hs rfl) (hs.re [0, 1, 2, 3, 4, 5] rfl)
  · refine HCalls.use (per_s hs 0 1 rfl rfl hok) ?_
    try simp only [DI_int', DB_bool, DS_string, DP_pointer, DSl_slice, DM_map, DA_agg, DTup_tuple, DCons_cons, DNil_nil, NN_some, BIf_true, BIf_false, BIf_same, List.toList_toArray, Bool.not_true, Bool.not_false]
    refine hs.ld 0 rfl rfl ?_
    simp only [DI_int', DB_bool, DS_string, DP_pointer, DSl_slice, DM_map, DA_agg, DTup_tuple, DCons_cons, DNil_nil, NN_some, BIf_true, BIf_false, BIf_same, List.toList_toArray, Bool.not_true, Bool.not_false]
    refine (Take_tr (a := ap) (cap := cap) (peak := peak) (bufs := bufs) (n := D.per d) (by omega) hcap).use hs [3] rfl rfl ?_
    rintro _ _ H ⟨b, rb, rfl, rfl⟩ hs
    simp only [DI_int', DB_bool, DS_string, DP_pointer, DSl_slice, DM_map, DA_agg, DTup_tuple, DCons_cons, DNil_nil, NN_some, BIf_true, BIf_false, BIf_same, List.toList_toArray, Bool.not_true, Bool.not_false]
    exact rest b rb H (fresh b rb _ hs rfl) (hs.re [0, 1, 2, 3, 4, 5] rfl)

end Go.Proofs.YtghajiefpmcpmaaGreatDoor.Str

end
section
/-! StgA -/
/- stream, whatever the fuse: relations between disks; load, store. -/
set_option maxRecDepth 100000
set_option linter.unusedSimpArgs false
set_option linter.unusedVariables false
set_option linter.unnecessarySimpa false
set_option linter.unusedSectionVars false
namespace Go.Proofs.YtghajiefpmcpmaaGreatDoor.Str
open Go Go.Hw Go.Form Go.Proofs.YtghajiefpmcpmaaGreatDoor.W Go.Proofs.YtghajiefpmcpmaaGreatDoor.Dsk Go.Proofs.YtghajiefpmcpmaaGreatDoor.Are

/-- A read, a write, whose power stays; the power goes. -/
def D.mr (d : D) : D := { d with rd := d.rd + 1, fuse := d.fuse - 1 }
def D.pt (d : D) (i : Int) (ws : List UInt64) : D := { d with wr := d.wr + 1, tch := updT d.tch i, cache := updB d.cache i (form ws), fuse := d.fuse - 1 }
def D.dead (d : D) : D := { d with fuse := 0, down := true }

theorem burnt_one {d : D} (h : d.fuse = 1) : d.burnt = D.dead d := by
  unfold D.burnt D.dead
  rw [if_neg (by omega), h]; rfl
theorem burnt_live {d : D} (hl : d.down = false) (h : d.fuse ≠ 1) : d.burnt = { d with fuse := d.fuse - 1 } := by
  unfold D.burnt
  by_cases h0 : d.fuse = 0
  · rw [if_pos h0]
    cases d; simp_all
  · rw [if_neg h0]
    have : decide (d.fuse = 1) = d.down := by rw [hl]; exact decide_eq_false h
    rw [this]

theorem live_chk {d : D} (hl : d.down = false) {i : Int} (h0 : 0 ≤ i) (h1 : i < d.sec) : d.chk i = 0 := by
  unfold D.chk
  rw [hl, if_neg (by simp), if_neg (by omega)]

theorem Ok.dead {d : D} (h : Ok d) : Ok (D.dead d) := ⟨h.sec, h.size, h.big, h.per, h.safe, h.cache, Nat.zero_le _⟩
theorem Ok.mr {d : D} (h : Ok d) : Ok (D.mr d) := ⟨h.sec, h.size, h.big, h.per, h.safe, h.cache, Nat.le_trans (Nat.sub_le _ _) h.fz⟩
theorem Ok.pt {d : D} (h : Ok d) (i : Int) {ws : List UInt64} (hw : ws.length = D.per d) : Ok (D.pt d i ws) := by
  have := Ok.put h i hw
  exact ⟨this.sec, this.size, this.big, this.per, this.safe, this.cache, Nat.le_trans (Nat.sub_le _ _) h.fz⟩

/-- From one disk to another: so many reads and writes, none outside S. -/
structure Prog (S : Int → Prop) (d d' : D) (r w : Nat) : Prop where
  ok : Ok d'
  down : d'.down = false
  fuse : d'.fuse = d.fuse - (r + w)
  go : d.fuse = 0 ∨ r + w < d.fuse
  sec : d'.sec = d.sec
  size : d'.size = d.size
  safe : d'.safe = d.safe
  sy : d'.sy = d.sy
  cache : ∀ k, ¬ S k → d'.cache k = d.cache k
  tch : ∀ k, ¬ S k → d'.tch k = d.tch k
  rd : d'.rd = d.rd + r
  wr : d'.wr = d.wr + w

/-- .. and the power went. -/
structure Dead (S : Int → Prop) (d d' : D) : Prop where
  ok : Ok d'
  down : d'.down = true
  fuse : d'.fuse = 0
  sec : d'.sec = d.sec
  size : d'.size = d.size
  safe : d'.safe = d.safe
  sy : d'.sy = d.sy
  cache : ∀ k, ¬ S k → d'.cache k = d.cache k
  tch : ∀ k, ¬ S k → d'.tch k = d.tch k
  cnt : d'.rd + d'.wr + 1 = d.rd + d.wr + d.fuse
  rd : d.rd ≤ d'.rd
  wr : d.wr ≤ d'.wr

section
variable {S : Int → Prop} {d d1 d2 : D}
theorem Prog.refl (S : Int → Prop) (h : Ok d) (hl : d.down = false) : Prog S d d 0 0 := ⟨h, hl, by omega, by omega, rfl, rfl, rfl, rfl, fun _ _ => rfl, fun _ _ => rfl, rfl, rfl⟩
theorem Prog.per {r w : Nat} (h : Prog S d d1 r w) : D.per d1 = D.per d := by unfold D.per; rw [h.size]
theorem Prog.trans {r w r' w' : Nat} (h : Prog S d d1 r w) (k : Prog S d1 d2 r' w') : Prog S d d2 (r + r') (w + w') := by
  have a1 := h.fuse; have a2 := h.go; have b1 := k.fuse; have b2 := k.go; have c1 := h.rd; have c2 := h.wr; have c3 := k.rd; have c4 := k.wr
  exact ⟨k.ok, k.down, by omega, by omega, k.sec.trans h.sec, k.size.trans h.size, k.safe.trans h.safe, k.sy.trans h.sy, fun i hi => (k.cache i hi).trans (h.cache i hi), fun i hi => (k.tch i hi).trans (h.tch i hi), by omega, by omega⟩
theorem Prog.mono {S' : Int → Prop} {r w : Nat} (h : Prog S d d1 r w) (k : ∀ i, S i → S' i) : Prog S' d d1 r w := { h with cache := fun i hi => h.cache i fun hs => hi (k i hs), tch := fun i hi => h.tch i fun hs => hi (k i hs) }
theorem Dead.mono {S' : Int → Prop} (h : Dead S d d1) (k : ∀ i, S i → S' i) : Dead S' d d1 := { h with cache := fun i hi => h.cache i fun hs => hi (k i hs), tch := fun i hi => h.tch i fun hs => hi (k i hs) }
theorem Prog.dead {r w : Nat} (h : Prog S d d1 r w) (k : Dead S d1 d2) : Dead S d d2 := by
  have a1 := h.fuse; have a2 := h.go; have c1 := h.rd; have c2 := h.wr; have c3 := k.rd; have c4 := k.wr; have c5 := k.cnt
  exact ⟨k.ok, k.down, k.fuse, k.sec.trans h.sec, k.size.trans h.size, k.safe.trans h.safe, k.sy.trans h.sy, fun i hi => (k.cache i hi).trans (h.cache i hi), fun i hi => (k.tch i hi).trans (h.tch i hi), by omega, by omega, by omega⟩
theorem Prog.mr (S : Int → Prop) (h : Ok d) (hl : d.down = false) (hf : d.fuse ≠ 1) : Prog S d (D.mr d) 1 0 :=
  ⟨Ok.mr h, hl, rfl, by omega, rfl, rfl, rfl, rfl, fun _ _ => rfl, fun _ _ => rfl, rfl, rfl⟩
theorem Prog.pt (S : Int → Prop) (h : Ok d) (hl : d.down = false) (hf : d.fuse ≠ 1) {i : Int} (hi : S i) {ws : List UInt64} (hw : ws.length = D.per d) : Prog S d (D.pt d i ws) 0 1 :=
  ⟨Ok.pt h i hw, hl, rfl, by omega, rfl, rfl, rfl, rfl, fun k hk => by
    show updB d.cache i (form ws) k = _
    unfold updB; exact if_neg fun (e : k = i) => hk (by rw [e]; exact hi), fun k hk => by
    show updT d.tch i k = _
    unfold updT; exact if_neg fun (e : k = i) => hk (by rw [e]; exact hi), rfl, rfl⟩
theorem Dead.one (S : Int → Prop) (h : Ok d) (hf : d.fuse = 1) : Dead S d (D.dead d) :=
  ⟨Ok.dead h, rfl, rfl, rfl, rfl, rfl, rfl, fun _ _ => rfl, fun _ _ => rfl, by show d.rd + d.wr + 1 = _; rw [hf], Nat.le_refl _, Nat.le_refl _⟩
end

theorem readG_tr {p : Nat} {d : D} (hok : Ok d) (hl : d.down = false) (ho : d.rd ≤ 4611686018427387904) (i : Int) (h0 : 0 ≤ i) (h1 : i < d.sec) : Tr Tryz.prog 122 #[.pointer (some ⟨p, 0, none⟩), .int .i64 i] [Dk p d] fun v M =>
    (d.fuse ≠ 1 ∧ ∃ b c m, v = .tuple #[.slice (some ⟨b, 0, none⟩) d.size c, .int .i64 0] ∧ d.size ≤ c ∧ M = [Dk p (D.mr d), pts b (.row (byteVals (d.now i)) 5 m)]) ∨
    (d.fuse = 1 ∧ v = .tuple #[.slice none 0 0, .int .i64 8] ∧ M = [Dk p (D.dead d)]) := fun H hs =>
  (Dsk.Read_tr hok ho i H hs).mono fun v H' ⟨M, hq, hM⟩ => by
    rcases hq with ⟨h, _⟩ | ⟨_, h, h2, h3⟩ | ⟨_, hb, b, c, m, h2, h3, h4⟩
    · exact absurd (live_chk hl h0 h1) h
    · have hf : d.fuse = 1 := by simpa [D.burns] using h
      rw [burnt_one hf] at h3
      exact ⟨M, .inr ⟨hf, h2, h3⟩, hM⟩
    · have hf : d.fuse ≠ 1 := by simpa [D.burns] using hb
      rw [burnt_live hl hf] at h4
      exact ⟨M, .inl ⟨hf, b, c, m, h2, h3, h4⟩, hM⟩

/-- A sector's words come into a buffer. -/
theorem load_g {p dp ap : Nat} {d : D} {x : X} {cap peak : Int} {bufs : List (Nat × Nat × Option Addr)} {b rb m : Nat} {xs : List Value} (hok : Ok d) (hl : d.down = false) (ho : d.rd ≤ 4611686018427387904) (i : Int) (h0 : 0 ≤ i) (h1 : i < d.sec)
    (hbm : (b, D.per d, some ⟨rb, 0, none⟩) ∈ bufs) (hxs : xs.length = D.per d) :
    Tr Tryz.prog 173 #[.pointer (some ⟨p, 0, none⟩), .int .i64 i, .pointer (some ⟨b, 0, none⟩)] [pts p (pipO dp ap x), Dk dp d, Ar ap cap peak bufs, pts rb (.row xs 60 m)] fun v M =>
      (d.fuse ≠ 1 ∧ v = .int .i64 0 ∧ M = [pts p (pipO dp ap x), Dk dp (D.mr d), Ar ap cap peak bufs, pts rb (.row (wordVals (wordsB (d.now i))) 60 m)]) ∨
      (d.fuse = 1 ∧ v = .int .i64 8 ∧ M = [pts p (pipO dp ap x), Dk dp (D.dead d), Ar ap cap peak bufs, pts rb (.row xs 60 m)]) := fun H hs => by
  have hp := Ok.per_le hok
  have hnow := hok.now i
  have hsz := hok.size
  apply W_stream_means_load.ok
  unfold W_stream_means_load
  simp only [NN_some, Addr.add_lit', Addr.add_zero, Nat.zero_add, Nat.add_zero]
  refine hs.ld 0 rfl rfl ?_
  simp only [DI_int', DB_bool, DS_string, DP_pointer, DSl_slice, DM_map, DA_agg, DTup_tuple, DCons_cons, DNil_nil, NN_some, BIf_true, BIf_false, BIf_same, List.toList_toArray, Bool.not_true, Bool.not_false]
  refine (readG_tr hok hl ho i h0 h1).use hs [1] rfl rfl ?_
  rintro _ _ H (⟨hf, br, c, mr, rfl, hcc, rfl⟩ | ⟨hf, rfl, rfl⟩) hs
  · simp only [DI_int', DB_bool, DS_string, DP_pointer, DSl_slice, DM_map, DA_agg, DTup_tuple, DCons_cons, DNil_nil, NN_some, BIf_true, BIf_false, BIf_same, List.toList_toArray, Bool.not_true, Bool.not_false]
    refine BIf_bnen rfl ?_
    refine HCalls.use (Words_s hs 3 rfl hbm) ?_
    try simp only [DI_int', DB_bool, DS_string, DP_pointer, DSl_slice, DM_map, DA_agg, DTup_tuple, DCons_cons, DNil_nil, NN_some, BIf_true, BIf_false, BIf_same, List.toList_toArray, Bool.not_true, Bool.not_false]
    refine ⟨D.per d + 1, ?_⟩
    refine load_loop _ (some ⟨br, 0, none⟩) d.size c (d.now i) hnow.symm hcc (by omega) rb (D.per d) m (by omega) (L := [Dk dp (D.mr d), pts br (.row (byteVals (d.now i)) 5 mr), pts p (pipO dp ap x), Ar ap cap peak bufs, pts rb (.row xs 60 m)]) 4 (fun H hs => ?_) (fun ys H hs => ?_) (by simp) (D.per d) 0 xs H (by omega) hxs (by simp) hs
    · exact ⟨_, .inl ⟨hf, rfl, rfl⟩, hs.re [2, 0, 3, 4] rfl⟩
    · have := Cells.row (hs.get 1 (b := br) (o := .row (byteVals (d.now i)) 5 mr) rfl) 0 d.size
      rw [List.drop_zero, List.take_of_length_le (by rw [byteVals_length]; omega)] at this
      exact this
  · simp only [DI_int', DB_bool, DS_string, DP_pointer, DSl_slice, DM_map, DA_agg, DTup_tuple, DCons_cons, DNil_nil, NN_some, BIf_true, BIf_false, BIf_same, List.toList_toArray, Bool.not_true, Bool.not_false]
    exact BIf_bnep (by decide) ⟨_, .inr ⟨hf, by trivial, rfl⟩, hs.re [1, 0, 2, 3] rfl⟩

theorem writeG_tr {p : Nat} {d : D} (hok : Ok d) (hl : d.down = false) (ho : d.wr ≤ 4611686018427387904) (i : Int) (h0 : 0 ≤ i) (h1 : i < d.sec) (ws : List UInt64) (hw : ws.length = D.per d) (b m : Nat) :
    Tr Tryz.prog 48 #[.pointer (some ⟨p, 0, none⟩), .int .i64 i, .slice (some ⟨b, 0, none⟩) (8 * ws.length) (8 * ws.length)] [Dk p d, pts b (.row (byteVals (form ws)) 5 m)] fun v M =>
      (d.fuse ≠ 1 ∧ v = .int .i64 0 ∧ M = [Dk p (D.pt d i ws), pts b (.row (byteVals (form ws)) 5 m)]) ∨
      (d.fuse = 1 ∧ v = .int .i64 8 ∧ M = [Dk p (D.dead d), pts b (.row (byteVals (form ws)) 5 m)]) := fun H hs => by
  have hp := Ok.per_le hok
  refine (Dsk.Write_tr hok ho i (some ⟨b, 0, none⟩) (8 * ws.length) (8 * ws.length) (form ws) (form_length ws).symm (pts b (.row (byteVals (form ws)) 5 m)) (fun H h => ?_) H hs).mono ?_
  · have := Cells.row h 0 (8 * ws.length)
    rw [List.drop_zero, List.take_of_length_le (by rw [byteVals_length, form_length]; omega)] at this
    exact this
  · rintro v H' ⟨M, ⟨rfl, rfl⟩, hM⟩
    have hc := live_chk hl h0 h1
    by_cases hf : d.fuse = 1
    · have hb : d.burns = true := by unfold D.burns; exact decide_eq_true hf
      have e1 : d.writeE i (8 * ws.length) = 8 := by
        unfold D.writeE
        rw [if_neg (by rw [hc]; simp), if_neg (by omega), hb]; rfl
      have e2 : d.writeD i (form ws) = D.dead d := by
        unfold D.writeD
        rw [if_neg (by rw [hc]; simp), if_neg (by rw [form_length]; omega), hb, if_pos rfl, burnt_one hf]
      rw [e1]
      rw [e2] at hM
      exact ⟨_, .inr ⟨hf, rfl, rfl⟩, hM⟩
    · have hb : d.burns = false := by unfold D.burns; exact decide_eq_false hf
      have e1 : d.writeE i (8 * ws.length) = 0 := by
        unfold D.writeE
        rw [if_neg (by rw [hc]; simp), if_neg (by omega), hb]; rfl
      have e2 : d.writeD i (form ws) = D.pt d i ws := by
        unfold D.writeD
        rw [if_neg (by rw [hc]; simp), if_neg (by rw [form_length]; omega), hb]
        unfold D.wrote D.pt
        rw [burnt_live hl hf]; rfl
      rw [e1]
      rw [e2] at hM
      exact ⟨_, .inl ⟨hf, rfl, rfl⟩, hM⟩

theorem store_g {p dp ap : Nat} {d : D} {x : X} {cap peak : Int} {bufs : List (Nat × Nat × Option Addr)} {b rb m : Nat} {ws : List UInt64} (hok : Ok d) (hl : d.down = false) (ho : d.wr ≤ 4611686018427387904) (i : Int) (h0 : 0 ≤ i) (h1 : i < d.sec)
    (hbm : (b, D.per d, some ⟨rb, 0, none⟩) ∈ bufs) (hw : ws.length = D.per d) :
    Tr Tryz.prog 175 #[.pointer (some ⟨p, 0, none⟩), .int .i64 i, .pointer (some ⟨b, 0, none⟩)] [pts p (pipO dp ap x), Dk dp d, Ar ap cap peak bufs, pts rb (.row (wordVals ws) 60 m)] fun v M =>
      (d.fuse ≠ 1 ∧ v = .int .i64 0 ∧ M = [pts p (pipO dp ap x), Dk dp (D.pt d i ws), Ar ap cap peak bufs, pts rb (.row (wordVals ws) 60 m)]) ∨
      (d.fuse = 1 ∧ v = .int .i64 8 ∧ M = [pts p (pipO dp ap x), Dk dp (D.dead d), Ar ap cap peak bufs, pts rb (.row (wordVals ws) 60 m)]) := fun H hs => by
  have hp := Ok.per_le hok
  have hcell : ∀ {L : List As} {H : Hp} (j : Nat), Sep L H → L[j]? = some (pts rb (.row (wordVals ws) 60 m)) → Cells H (some ⟨rb, 0, none⟩) (wordVals ws) := fun j hs hj => by
    have := Cells.row (hs.get j hj) 0 ws.length
    rw [List.drop_zero, List.take_of_length_le (by rw [wordVals_length]; exact Nat.le_refl _)] at this
    exact this
  apply W_stream_means_store.ok
  unfold W_stream_means_store
  simp only [NN_some, Addr.add_lit', Addr.add_zero, Nat.zero_add, Nat.add_zero]
  have put : ∀ (H : Hp) (K : Value → Hp → Prop), Sep [pts p (pipO dp ap x), Dk dp d, Ar ap cap peak bufs, pts rb (.row (wordVals ws) 60 m)] H →
      (∀ b' H', Sep [pts p (pipO dp ap x), Dk dp d, Ar ap cap peak bufs, pts rb (.row (wordVals ws) 60 m), pts b' (.row (byteVals (form ws)) 5 (8 * ws.length))] H' → K (.slice (some ⟨b', 0, none⟩) (8 * ws.length) (8 * ws.length)) H') →
      HCalls Tryz.prog 198 #[.slice (some ⟨rb, 0, none⟩) (D.per d) (D.per d)] H K := fun H K hs k => by
    rw [← hw]
    refine (FormP.Put_ok (some ⟨rb, 0, none⟩) ws.length ws.length ws rfl (by omega) H (hcell 3 hs rfl)).mono ?_
    rintro v H' ⟨b', hb', rfl, rfl⟩
    exact k b' _ (hs.new hb' _)
  have wr : ∀ (b' : Nat) (H : Hp), Sep [pts p (pipO dp ap x), Dk dp d, Ar ap cap peak bufs, pts rb (.row (wordVals ws) 60 m), pts b' (.row (byteVals (form ws)) 5 (8 * ws.length))] H →
      HCalls Tryz.prog 48 #[.pointer (some ⟨dp, 0, none⟩), .int .i64 i, .slice (some ⟨b', 0, none⟩) (8 * ws.length) (8 * ws.length)] H fun v4 H3 => DI .i64 v4 fun x2 => ∃ M, ((d.fuse ≠ 1 ∧ (.int .i64 x2 : Value) = .int .i64 0 ∧ M = [pts p (pipO dp ap x), Dk dp (D.pt d i ws), Ar ap cap peak bufs, pts rb (.row (wordVals ws) 60 m)]) ∨
        (d.fuse = 1 ∧ (.int .i64 x2 : Value) = .int .i64 8 ∧ M = [pts p (pipO dp ap x), Dk dp (D.dead d), Ar ap cap peak bufs, pts rb (.row (wordVals ws) 60 m)])) ∧ Sep M H3 := fun b' H hs => by
    refine (writeG_tr hok hl ho i h0 h1 ws hw b' (8 * ws.length)).use hs [1, 4] rfl rfl ?_
    rintro _ _ H (⟨hf, rfl, rfl⟩ | ⟨hf, rfl, rfl⟩) hs
    · exact ⟨_, .inl ⟨hf, rfl, rfl⟩, hs.re [2, 0, 3, 4] rfl⟩
    · exact ⟨_, .inr ⟨hf, rfl, rfl⟩, hs.re [2, 0, 3, 4] rfl⟩
  refine ⟨?_, ?_⟩
  · refine hs.ld 0 rfl rfl ?_
    simp only [DI_int', DB_bool, DS_string, DP_pointer, DSl_slice, DM_map, DA_agg, DTup_tuple, DCons_cons, DNil_nil, NN_some, BIf_true, BIf_false, BIf_same, List.toList_toArray, Bool.not_true, Bool.not_false]
    refine HCalls.use (Words_s hs 2 rfl hbm) ?_
    try simp only [DI_int', DB_bool, DS_string, DP_pointer, DSl_slice, DM_map, DA_agg, DTup_tuple, DCons_cons, DNil_nil, NN_some, BIf_true, BIf_false, BIf_same, List.toList_toArray, Bool.not_true, Bool.not_false]
    refine put H _ hs fun b' H hs => ?_
    simp only [DI_int', DB_bool, DS_string, DP_pointer, DSl_slice, DM_map, DA_agg, DTup_tuple, DCons_cons, DNil_nil, NN_some, BIf_true, BIf_false, BIf_same, List.toList_toArray, Bool.not_true, Bool.not_false]
    exact wr b' H hs
  · refine HCalls.use (Words_s hs 2 rfl hbm) ?_
    try simp only [DI_int', DB_bool, DS_string, DP_pointer, DSl_slice, DM_map, DA_agg, DTup_tuple, DCons_cons, DNil_nil, NN_some, BIf_true, BIf_false, BIf_same, List.toList_toArray, Bool.not_true, Bool.not_false]
    refine ⟨?_, ?_⟩
    · refine hs.ld 0 rfl rfl ?_
      simp only [DI_int', DB_bool, DS_string, DP_pointer, DSl_slice, DM_map, DA_agg, DTup_tuple, DCons_cons, DNil_nil, NN_some, BIf_true, BIf_false, BIf_same, List.toList_toArray, Bool.not_true, Bool.not_false]
      refine put H _ hs fun b' H hs => ?_
      simp only [DI_int', DB_bool, DS_string, DP_pointer, DSl_slice, DM_map, DA_agg, DTup_tuple, DCons_cons, DNil_nil, NN_some, BIf_true, BIf_false, BIf_same, List.toList_toArray, Bool.not_true, Bool.not_false]
      exact wr b' H hs
    · refine put H _ hs fun b' H hs => ?_
      simp only [DI_int', DB_bool, DS_string, DP_pointer, DSl_slice, DM_map, DA_agg, DTup_tuple, DCons_cons, DNil_nil, NN_some, BIf_true, BIf_false, BIf_same, List.toList_toArray, Bool.not_true, Bool.not_false]
      refine hs.ld 0 rfl rfl ?_
      simp only [DI_int', DB_bool, DS_string, DP_pointer, DSl_slice, DM_map, DA_agg, DTup_tuple, DCons_cons, DNil_nil, NN_some, BIf_true, BIf_false, BIf_same, List.toList_toArray, Bool.not_true, Bool.not_false]
      exact wr b' H hs

end Go.Proofs.YtghajiefpmcpmaaGreatDoor.Str

end
section
/-! StgB -/
/- stream, whatever the fuse: Read. -/
set_option maxRecDepth 100000
set_option linter.unusedSimpArgs false
set_option linter.unusedVariables false
set_option linter.unnecessarySimpa false
set_option linter.unusedSectionVars false
namespace Go.Proofs.YtghajiefpmcpmaaGreatDoor.Str
open Go Go.Hw Go.Form Go.Proofs.YtghajiefpmcpmaaGreatDoor.W Go.Proofs.YtghajiefpmcpmaaGreatDoor.Dsk Go.Proofs.YtghajiefpmcpmaaGreatDoor.Are

/-- So many reads. -/
def D.rdG (d : D) (t : Nat) : D := { d with rd := d.rd + t, fuse := d.fuse - t }
theorem Ok.rdG {d : D} (h : Ok d) (t : Nat) : Ok (D.rdG d t) := ⟨h.sec, h.size, h.big, h.per, h.safe, h.cache, Nat.le_trans (Nat.sub_le _ _) h.fz⟩
theorem rdG_zero (d : D) : D.rdG d 0 = d := rfl
theorem rdG_mr (d : D) (t : Nat) : D.mr (D.rdG d t) = D.rdG d (t + 1) := by
  unfold D.mr D.rdG
  simp only [D.mk.injEq, true_and, and_true]
  omega
theorem Prog.rdG (S : Int → Prop) {d : D} (h : Ok d) (hl : d.down = false) {t : Nat} (hf : d.fuse = 0 ∨ t < d.fuse) : Prog S d (D.rdG d t) t 0 :=
  ⟨Ok.rdG h t, hl, rfl, by omega, rfl, rfl, rfl, rfl, fun _ _ => rfl, fun _ _ => rfl, rfl, rfl⟩
theorem Dead.rdG (S : Int → Prop) {d : D} (h : Ok d) (hl : d.down = false) {j : Nat} (hf : d.fuse = j + 1) : Dead S d (D.dead (D.rdG d j)) :=
  (Prog.rdG S h hl (t := j) (by omega)).dead (Dead.one S (Ok.rdG h j) (by show d.fuse - j = 1; omega))

theorem read_loop_g (K : Value → Hp → Prop) {p dp ap : Nat} {d : D} {x : X} (hok : Ok d) (hl : d.down = false) (hx : On d x) {cap peak : Int} {bufs : List (Nat × Nat × Option Addr)} {b rb mb : Nat} (hbm : ∀ y ∈ bufs, y.1 ≠ b) {rl off0 fr0 mm vb : Nat} {el : TypeId} {xs : List Value} {A4 : Option Addr} {n4 m4 : Nat} {all : List (Nat × Nat × Nat)} (hn4 : n4 = all.length) (hn40 : n4 ≤ 1000000000) (ho : d.rd ≤ 4611686010000000000)
    (hK : ∀ H, Sep [pts p (pipO dp ap x), Dk dp (D.rdG d n4), Ar ap cap peak bufs, pts rl (.row (setAt xs off0 (wordVals (pws d x fr0 (all.map (·.2.2)).sum))) el mm)] H → d.fuse = 0 ∨ n4 < d.fuse → K (.int .i64 0) H)
    (hK8 : ∀ j xs' H, j < n4 → d.fuse = j + 1 → xs'.length = xs.length → Sep [pts p (pipO dp ap x), Dk dp (D.dead (D.rdG d j)), Ar ap cap peak bufs, pts rl (.row xs' el mm)] H → K (.int .i64 8) H) :
    ∀ (k fr n j off : Nat) (A : Option Addr) (m : Nat) (ws : List UInt64) (H : Hp), d.fuse = 0 ∨ j < d.fuse → n ≤ k → fr + n ≤ x.w → n ≤ m → all.drop j = pcs (D.per d) x.f k fr n → j ≤ n4 → fr0 + off = fr → ((all.take j).map (·.2.2)).sum = off → off0 + off + n ≤ xs.length → (0 < n → A = some ⟨rl, off0 + off, none⟩) → ws.length = D.per d →
      Sep [pts p (pipO dp ap x), Dk dp (D.rdG d j), Ar ap cap peak (bufs ++ [(b, D.per d, some ⟨rb, 0, none⟩)]), pts rb (.row (wordVals ws) 60 mb), Own 265 3 A4 n4 m4 (all.flatMap pcV), pts rl (.row (setAt xs off0 (wordVals (pws d x fr0 off))) el mm), pts vb (.row [.pointer (some ⟨b, 0, none⟩)] 256 1)] H →
      W_stream_Pipe_Read.l9 K (k + 1) (some ⟨p, 0, none⟩) A n m (some ⟨b, 0, none⟩) A4 n4 m4 (n4 : Int) (j : Int) (some ⟨ap, 0, none⟩) (some ⟨vb, 0, none⟩) 1 1 H
  | k, fr, 0, j, off, A, m, ws, H, hgo, hn, hf, hm, hall, hj, hoff, hsum, hlen, hA, hws, hs => by
    unfold W_stream_Pipe_Read.l9
    have e : pcs (D.per d) x.f k fr 0 = [] := by cases k <;> simp [pcs]
    rw [e] at hall
    have hjn : j = n4 := by
      have := congrArg List.length hall
      simp at this; omega
    subst hjn
    refine BIf_dneg (by omega) ?_
    have htake : all.take j = all := List.take_of_length_le (by omega)
    rw [htake] at hsum
    refine (Give_oneD vb b (D.per d) (some ⟨rb, 0, none⟩) hbm).use hs [2, 6] rfl rfl ?_
    rintro _ _ H ⟨rfl, rfl⟩ hs
    refine hK H ?_ hgo
    rw [hsum]
    exact hs.re [1, 2, 0, 5] rfl
  | 0, fr, n + 1, j, off, A, m, ws, H, hgo, hn, hf, hm, hall, hj, hoff, hsum, hlen, hA, hws, hs => by omega
  | k + 1, fr, n + 1, j, off, A, m, ws, H, hgo, hn, hf, hm, hall, hj, hoff, hsum, hlen, hA, hws, hs => by
    have hp := Ok.per_le hok
    have hsec := hok.sec
    have hroom : x.s * D.per d ≤ 1048576 * 512 := Nat.mul_le_mul (by have := hx.fit; omega) (by omega)
    have h4 := hx.room
    have hfit := hx.fit
    obtain rfl := hA (by omega)
    have e : pcs (D.per d) x.f (k + 1) fr (n + 1) = (x.f + fr / D.per d, fr % D.per d, cN (D.per d) fr (n + 1)) :: pcs (D.per d) x.f k (fr + cN (D.per d) fr (n + 1)) (n + 1 - cN (D.per d) fr (n + 1)) := by
      show (if n + 1 = 0 then [] else _) = _
      rw [if_neg (by omega)]
    rw [e] at hall
    have hjlt : j < all.length := by
      have := congrArg List.length hall
      simp at this; omega
    have hcle := cN_le (D.per d) fr (n + 1)
    have hcpos := cN_pos (per := D.per d) (fr := fr) (n := n + 1) (by omega) (by omega)
    have hcper := cN_per (per := D.per d) (fr := fr) (n := n + 1) (by omega)
    have hmod := Nat.mod_lt fr (show 0 < D.per d by omega)
    have hdiv : fr / D.per d < x.s := by
      rw [Nat.div_lt_iff_lt_mul (by omega)]; omega
    have hget : all[j] = (x.f + fr / D.per d, fr % D.per d, cN (D.per d) fr (n + 1)) := by
      have := List.drop_eq_getElem_cons hjlt
      rw [this] at hall
      exact (List.cons.inj hall).1
    have hrest : all.drop (j + 1) = pcs (D.per d) x.f k (fr + cN (D.per d) fr (n + 1)) (n + 1 - cN (D.per d) fr (n + 1)) := by
      have := List.drop_eq_getElem_cons hjlt
      rw [this] at hall
      exact (List.cons.inj hall).2
    generalize hcv : cN (D.per d) fr (n + 1) = c at *
    have hflat : ∀ (l : List (Nat × Nat × Nat)) (i : Nat) (hi : i < l.length), ((l.flatMap pcV).drop (i * 3)).take 3 = pcV l[i] := by
      intro l
      induction l with
      | nil => intro i hi; simp at hi
      | cons y l ih =>
        intro i hi
        rw [List.flatMap_cons]
        cases i with
        | zero => simp [pcV]
        | succ i =>
          rw [show (i + 1) * 3 = (pcV y).length + i * 3 by simp [pcV]; omega, List.drop_append]
          simp only [Nat.add_sub_cancel_left, List.getElem_cons_succ]
          rw [List.drop_eq_nil_of_le (by omega), List.nil_append]
          exact ih i (by simpa using hi)
    unfold W_stream_Pipe_Read.l9
    refine BIf_dpos (by omega) ?_
    refine (hs.own 4 rfl).rdA (ys := pcV all[j]) rfl (by omega) (hflat all j hjlt) ?_
    rw [hget]
    refine hs.nw fun b2 H hs => ?_
    refine hs.stw 7 rfl rfl rfl rfl fun H hs => ?_
    have hs : Sep [pts p (pipO dp ap x), Dk dp (D.rdG d j), Ar ap cap peak (bufs ++ [(b, D.per d, some ⟨rb, 0, none⟩)]), pts rb (.row (wordVals ws) 60 mb), Own 265 3 A4 n4 m4 (all.flatMap pcV), pts rl (.row (setAt xs off0 (wordVals (pws d x fr0 off))) el mm), pts vb (.row [.pointer (some ⟨b, 0, none⟩)] 256 1),
      pts b2 (.obj (.cells #[.int .i64 ((x.f + fr / D.per d : Nat) : Int), .int .i64 ((fr % D.per d : Nat) : Int), .int .i64 (c : Int)] 265))] H := hs
    simp only [NN_some, Addr.add_lit', Addr.add_zero, Nat.zero_add, Nat.add_zero]
    refine hs.ld 7 rfl rfl ?_
    simp only [DI_int', DB_bool, DS_string, DP_pointer, DSl_slice, DM_map, DA_agg, DTup_tuple, DCons_cons, DNil_nil, NN_some, BIf_true, BIf_false, BIf_same, List.toList_toArray, Bool.not_true, Bool.not_false]
    have hokj := Ok.rdG hok j
    refine (load_g (p := p) (ap := ap) (x := x) (cap := cap) (peak := peak) (b := b) (rb := rb) (m := mb) hokj hl (by show d.rd + j ≤ _; omega) ((x.f + fr / D.per d : Nat) : Int) (Int.natCast_nonneg _) (Int.ofNat_lt.2 (by show _ < d.sec; omega)) (bufs := bufs ++ [(b, D.per d, some ⟨rb, 0, none⟩)]) (List.mem_append_right _ (List.mem_singleton.2 rfl)) (xs := wordVals ws) (by rw [wordVals_length]; exact hws)).use hs [0, 1, 2, 3] rfl rfl ?_
    have hset : (setAt xs off0 (wordVals (pws d x fr0 off))).length = xs.length := setAt_length (by rw [wordVals_length, pws_len]; omega)
    have hfz : (D.rdG d j).fuse = d.fuse - j := rfl
    rintro _ _ H (⟨hf1, rfl, rfl⟩ | ⟨hf1, rfl, rfl⟩) hs
    case inr =>
      simp only [DI_int', DB_bool, DS_string, DP_pointer, DSl_slice, DM_map, DA_agg, DTup_tuple, DCons_cons, DNil_nil, NN_some, BIf_true, BIf_false, BIf_same, List.toList_toArray, Bool.not_true, Bool.not_false]
      refine BIf_bnep (by decide) ?_
      refine (Give_oneD vb b (D.per d) (some ⟨rb, 0, none⟩) hbm).use hs [2, 6] rfl rfl ?_
      rintro _ _ H ⟨rfl, rfl⟩ hs
      exact hK8 j _ H (by omega) (by omega) hset (hs.re [1, 2, 0, 5] rfl)
    rw [rdG_mr] at hs
    have hnow : D.now (D.rdG d j) ((x.f + fr / D.per d : Nat) : Int) = d.now ((x.f + fr / D.per d : Nat) : Int) := rfl
    rw [hnow] at hs
    have hwl : (wordsB (d.now ((x.f + fr / D.per d : Nat) : Int))).length = D.per d := by rw [wordsB_len, hok.now]; rfl
    simp only [DI_int', DB_bool, DS_string, DP_pointer, DSl_slice, DM_map, DA_agg, DTup_tuple, DCons_cons, DNil_nil, NN_some, BIf_true, BIf_false, BIf_same, List.toList_toArray, Bool.not_true, Bool.not_false]
    refine BIf_bnen rfl ?_
    refine hs.ld 7 rfl rfl ?_
    simp only [DI_int', DB_bool, DS_string, DP_pointer, DSl_slice, DM_map, DA_agg, DTup_tuple, DCons_cons, DNil_nil, NN_some, BIf_true, BIf_false, BIf_same, List.toList_toArray, Bool.not_true, Bool.not_false]
    refine slB_to rfl (by omega) ?_
    refine QCall.use (Words_s hs 2 rfl (List.mem_append_right _ (List.mem_singleton.2 rfl))) ?_
    simp only [DI_int', DB_bool, DS_string, DP_pointer, DSl_slice, DM_map, DA_agg, DTup_tuple, DCons_cons, DNil_nil, NN_some, BIf_true, BIf_false, BIf_same, List.toList_toArray, Bool.not_true, Bool.not_false]
    refine hs.ld 7 rfl rfl ?_
    simp only [DI_int', DB_bool, DS_string, DP_pointer, DSl_slice, DM_map, DA_agg, DTup_tuple, DCons_cons, DNil_nil, NN_some, BIf_true, BIf_false, BIf_same, List.toList_toArray, Bool.not_true, Bool.not_false]
    refine slB_from rfl (by omega) ?_
    rw [slA_zero, slA_at (by omega), Nat.zero_add]
    refine hs.cp 5 (k := D.per d - fr % D.per d) (n := c - 0) (off := off0 + off) (ys := wordVals (pws d x fr c)) (by rfl) cell_u64 rfl ?_ ?_ (fun y hy => ?_) fun H hs => ?_
    · have hmin : Nat.min (D.per d - fr % D.per d) (c - 0) = c := Nat.min_eq_right (by omega)
      rw [hmin]
      show H.cells? ⟨rb, fr % D.per d, none⟩ 0 (c * 1) = _
      rw [Nat.mul_one, cells_row (hs.get 3 (b := rb) (o := .row (wordVals (wordsB (d.now ((x.f + fr / D.per d : Nat) : Int)))) 60 mb) rfl) (fr % D.per d) c 0 (by rw [wordVals_length, hwl]; omega)]
      rw [← piece_words hok x (fr := fr) (k := c) (by omega)]
      unfold wordVals
      rw [List.map_take, List.map_drop, Nat.add_zero]
    · rw [wordVals_length, pws_len, hset]; omega
    · obtain ⟨z, _, rfl⟩ := List.mem_map.1 hy; rfl
    simp only [DI_int', DB_bool, DS_string, DP_pointer, DSl_slice, DM_map, DA_agg, DTup_tuple, DCons_cons, DNil_nil, NN_some, BIf_true, BIf_false, BIf_same, List.toList_toArray, Bool.not_true, Bool.not_false]
    refine hs.ld 7 rfl rfl ?_
    simp only [DI_int', DB_bool, DS_string, DP_pointer, DSl_slice, DM_map, DA_agg, DTup_tuple, DCons_cons, DNil_nil, NN_some, BIf_true, BIf_false, BIf_same, List.toList_toArray, Bool.not_true, Bool.not_false]
    refine slB_from rfl (by omega) ?_
    rw [i64w (x := (j : Int) + 1) (by omega) (by omega)]
    have happ : setAt (setAt xs off0 (wordVals (pws d x fr0 off))) (off0 + off) (wordVals (pws d x fr c)) = setAt xs off0 (wordVals (pws d x fr0 (off + c))) := by
      have hl : (wordVals (pws d x fr0 off)).length = off := by rw [wordVals_length, pws_len]
      have := setAt_append (xs := xs) (us := wordVals (pws d x fr0 off)) (bs := wordVals (pws d x fr c)) (off := off0) (by rw [hl, wordVals_length, pws_len]; omega)
      rw [hl] at this
      rw [this, pws_add, hoff]
      unfold wordVals
      rw [List.map_append]
    have hsum' : ((all.take (j + 1)).map (·.2.2)).sum = off + c := by
      rw [List.take_succ_eq_append_getElem hjlt, List.map_append, List.sum_append, hsum, hget]
      simp
    refine read_loop_g K (rb := rb) (mb := mb) hok hl hx hbm hn4 hn40 ho hK hK8 k (fr + c) (n + 1 - c) (j + 1) (off + c) _ (m - c) (wordsB (d.now ((x.f + fr / D.per d : Nat) : Int))) H (by omega) (by omega) (by omega) (by omega) hrest (by omega) (by omega) hsum' (by omega) (fun h0 => ?_) hwl ?_
    · rw [slA_at (by omega), Nat.add_assoc]
    · rw [← happ]
      exact hs.re [0, 1, 2, 3, 4, 5, 6] rfl

/-- What a read leaves. -/
def readP (p dp ap : Nat) (d : D) (x : X) (cap peak : Int) (bufs : List (Nat × Nat × Option Addr)) (fr n : Nat) (xs : List Value) (off rl : Nat) (el : TypeId) (mm : Nat) (v : Value) (M : List As) : Prop :=
  ((d.fuse = 0 ∨ (pcs (D.per d) x.f n fr n).length < d.fuse) ∧ v = .int .i64 0 ∧ M = [pts p (pipO dp ap x), Dk dp (D.rdG d (pcs (D.per d) x.f n fr n).length), Ar ap cap (mx peak (sumB bufs + D.per d)) bufs, pts rl (.row (setAt xs off (wordVals (pws d x fr n))) el mm)]) ∨
  (∃ j xs', j < (pcs (D.per d) x.f n fr n).length ∧ d.fuse = j + 1 ∧ xs'.length = xs.length ∧ v = .int .i64 8 ∧ M = [pts p (pipO dp ap x), Dk dp (D.dead (D.rdG d j)), Ar ap cap (mx peak (sumB bufs + D.per d)) bufs, pts rl (.row xs' el mm)])

/-- Words are read. -/
theorem ReadG_tr {p dp ap : Nat} {d : D} {x : X} {cap peak : Int} {bufs : List (Nat × Nat × Option Addr)} {rl off mm : Nat} {el : TypeId} {xs : List Value} (hok : Ok d) (hl : d.down = false) (hx : On d x) (ho : d.rd ≤ 4611686010000000000) (fr n m : Nat) (hn : 1 ≤ n) (hf : fr + n ≤ x.w) (hm : n ≤ m) (hxl : off + n ≤ xs.length) (hcap : (D.per d : Int) ≤ cap - sumB bufs) :
    Tr Tryz.prog 114 #[.pointer (some ⟨p, 0, none⟩), .int .i64 fr, .slice (some ⟨rl, off, none⟩) n m] [pts p (pipO dp ap x), Dk dp d, Ar ap cap peak bufs, pts rl (.row xs el mm)] fun v M =>
      readP p dp ap d x cap peak bufs fr n xs off rl el mm v M := fun H hs => by
  have hp := Ok.per_le hok
  have hsec := hok.sec
  have hroom : x.s * D.per d ≤ 1048576 * 512 := Nat.mul_le_mul (by have := hx.fit; omega) (by omega)
  have h4 := hx.room
  have hpl := pcs_len (D.per d) x.f n fr n
  apply W_stream_Pipe_Read.ok
  unfold W_stream_Pipe_Read
  refine (pieces_tr (dp := dp) (ap := ap) hok hx fr n hf).use hs [0, 1] rfl rfl ?_
  rintro _ _ H ⟨A4, m4, rfl, rfl⟩ hs
  simp only [DI_int', DB_bool, DS_string, DP_pointer, DSl_slice, DM_map, DA_agg, DTup_tuple, DCons_cons, DNil_nil, NN_some, BIf_true, BIf_false, BIf_same, List.toList_toArray, Bool.not_true, Bool.not_false]
  refine BIf_bnen rfl (BIf_beqn (by omega) ?_)
  simp only [NN_some, Addr.add_lit', Addr.add_zero, Nat.zero_add, Nat.add_zero]
  have rest : ∀ (b rb : Nat) (H : Hp), (∀ y ∈ bufs, y.1 ≠ b) → Sep [Ar ap cap (if sumB bufs + D.per d > peak then sumB bufs + D.per d else peak) (bufs ++ [(b, D.per d, some ⟨rb, 0, none⟩)]), pts rb (.row (zerosU64 (D.per d)) 60 (D.per d)), pts p (pipO dp ap x), Dk dp d, Own 265 3 A4 (pcs (D.per d) x.f n fr n).length m4 ((pcs (D.per d) x.f n fr n).flatMap pcV), pts rl (.row xs el mm)] H →
      W_stream_Pipe_Read.j5 (fun v H' => ∃ M, readP p dp ap d x cap peak bufs fr n xs off rl el mm v M ∧ Sep M H') (some ⟨p, 0, none⟩) (some ⟨rl, off, none⟩) n m A4 (pcs (D.per d) x.f n fr n).length m4 (0 : Int) (some ⟨b, 0, none⟩) H := fun b rb H hbm hs => by
    unfold W_stream_Pipe_Read.j5
    refine BIf_bnen rfl ?_
    simp only [NN_some, Addr.add_lit', Addr.add_zero, Nat.zero_add, Nat.add_zero]
    refine hs.ld 2 rfl rfl ?_
    simp only [DI_int', DB_bool, DS_string, DP_pointer, DSl_slice, DM_map, DA_agg, DTup_tuple, DCons_cons, DNil_nil, NN_some, BIf_true, BIf_false, BIf_same, List.toList_toArray, Bool.not_true, Bool.not_false]
    refine hs.nw fun vb H hs => ?_
    refine ⟨n + 1, ?_⟩
    have hz : zerosU64 (D.per d) = wordVals (List.replicate (D.per d) 0) := by
      unfold zerosU64
      rw [zeroRow_one]
      unfold wordVals
      rw [List.map_replicate]; rfl
    refine read_loop_g _ (p := p) (dp := dp) (ap := ap) (d := d) (x := x) (cap := cap) (peak := mx peak (sumB bufs + D.per d)) (bufs := bufs) (b := b) (rb := rb) (mb := D.per d) (rl := rl) (off0 := off) (fr0 := fr) (mm := mm) (vb := vb) (el := el) (xs := xs) hok hl hx hbm rfl (by omega) ho (fun H hs hgo => ?_) (fun j xs' H hj hfj hx' hs => ⟨_, .inr ⟨j, xs', hj, hfj, hx', rfl, rfl⟩, hs⟩) n fr n 0 0 _ m (List.replicate (D.per d) 0) H (by omega) (Nat.le_refl _) hf hm rfl (Nat.zero_le _) (by omega) rfl (by omega) (fun _ => rfl) (by simp) ?_
    · rw [pcs_sum _ _ (by omega) n fr n (Nat.le_refl _)] at hs
      exact ⟨_, .inl ⟨hgo, rfl, rfl⟩, hs⟩
    · rw [← hz, show setAt xs off (wordVals (pws d x fr 0)) = xs from setAt_nil xs off, rdG_zero]
      exact hs.re [2, 3, 0, 1, 4, 5, 6] rfl
  have fresh : ∀ {L : List As} {H : Hp} (b rb : Nat) (pk : Int), Sep L H → L[0]? = some (Ar ap cap pk (bufs ++ [(b, D.per d, some ⟨rb, 0, none⟩)])) → ∀ y ∈ bufs, y.1 ≠ b := fun b rb pk hs h0 y hy e => by
    obtain ⟨mp, cl, tk, hA⟩ := Sep.ar hs 0 h0
    have := hA.bn
    rw [List.map_append, List.nodup_append] at this
    exact this.2.2 y.1 (List.mem_map_of_mem hy) b (by simp) e
  refine ⟨?_, ?_⟩
  · refine hs.ld 0 rfl rfl ?_
    simp only [DI_int', DB_bool, DS_string, DP_pointer, DSl_slice, DM_map, DA_agg, DTup_tuple, DCons_cons, DNil_nil, NN_some, BIf_true, BIf_false, BIf_same, List.toList_toArray, Bool.not_true, Bool.not_false]
    refine HCalls.use (per_s hs 0 1 rfl rfl hok) ?_
    try simp only [DI_int', DB_bool, DS_string, DP_pointer, DSl_slice, DM_map, DA_agg, DTup_tuple, DCons_cons, DNil_nil, NN_some, BIf_true, BIf_false, BIf_same, List.toList_toArray, Bool.not_true, Bool.not_false]
    refine (Take_tr (a := ap) (cap := cap) (peak := peak) (bufs := bufs) (n := D.per d) (by omega) hcap).use hs [3] rfl rfl ?_
    rintro _ _ H ⟨b, rb, rfl, rfl⟩ hs
    simp only [DI_int', DB_bool, DS_string, DP_pointer, DSl_slice, DM_map, DA_agg, DTup_tuple, DCons_cons, DNil_nil, NN_some, BIf_true, BIf_false, BIf_same, List.toList_toArray, Bool.not_true, Bool.not_false]
    exact rest b rb H (fresh b rb _ hs rfl) (hs.re [0, 1, 2, 3, 4, 5] rfl)
  · refine HCalls.use (per_s hs 0 1 rfl rfl hok) ?_
    try simp only [DI_int', DB_bool, DS_string, DP_pointer, DSl_slice, DM_map, DA_agg, DTup_tuple, DCons_cons, DNil_nil, NN_some, BIf_true, BIf_false, BIf_same, List.toList_toArray, Bool.not_true, Bool.not_false]
    refine hs.ld 0 rfl rfl ?_
    simp only [DI_int', DB_bool, DS_string, DP_pointer, DSl_slice, DM_map, DA_agg, DTup_tuple, DCons_cons, DNil_nil, NN_some, BIf_true, BIf_false, BIf_same, List.toList_toArray, Bool.not_true, Bool.not_false]
    refine (Take_tr (a := ap) (cap := cap) (peak := peak) (bufs := bufs) (n := D.per d) (by omega) hcap).use hs [3] rfl rfl ?_
    rintro _ _ H ⟨b, rb, rfl, rfl⟩ hs
    simp only [DI_int', DB_bool, DS_string, DP_pointer, DSl_slice, DM_map, DA_agg, DTup_tuple, DCons_cons, DNil_nil, NN_some, BIf_true, BIf_false, BIf_same, List.toList_toArray, Bool.not_true, Bool.not_false]
    exact rest b rb H (fresh b rb _ hs rfl) (hs.re [0, 1, 2, 3, 4, 5] rfl)

end Go.Proofs.YtghajiefpmcpmaaGreatDoor.Str

end
section
/-! StgC -/
/- stream, whatever the fuse: Write. -/
set_option maxRecDepth 100000
set_option linter.unusedSimpArgs false
set_option linter.unusedVariables false
set_option linter.unnecessarySimpa false
set_option linter.unusedSectionVars false
namespace Go.Proofs.YtghajiefpmcpmaaGreatDoor.Str
open Go Go.Hw Go.Form Go.Proofs.YtghajiefpmcpmaaGreatDoor.W Go.Proofs.YtghajiefpmcpmaaGreatDoor.Dsk Go.Proofs.YtghajiefpmcpmaaGreatDoor.Are

/-- How many pieces are no whole sectors. -/
def pcsR (per f k fr n : Nat) : Nat := ((pcs per f k fr n).filter fun p => decide (p.2.2 < per)).length
/-- A piece is written. -/
def wpcG (d : D) (s : Nat) (at' : Nat) (src : List UInt64) : D := D.pt (if src.length < D.per d then D.mr d else d) s (setW (wordsB (d.now s)) at' src)
/-- All are. -/
def wrsG (d : D) (x : X) : Nat → Nat → List UInt64 → D
  | 0, _, _ => d
  | k + 1, fr, src => if src = [] then d else wrsG (wpcG d (x.f + fr / D.per d) (fr % D.per d) (src.take (cN (D.per d) fr src.length))) x k (fr + cN (D.per d) fr src.length) (src.drop (cN (D.per d) fr src.length))
theorem wpc_sizeG (d : D) (s at' : Nat) (src : List UInt64) : (wpcG d s at' src).size = d.size ∧ (wpcG d s at' src).sec = d.sec := by
  unfold wpcG
  split <;> exact ⟨rfl, rfl⟩
theorem wpc_perG (d : D) (s at' : Nat) (src : List UInt64) : D.per (wpcG d s at' src) = D.per d := by unfold D.per; rw [(wpc_sizeG d s at' src).1]
theorem wpc_cntG (d : D) (s at' : Nat) (src : List UInt64) : (wpcG d s at' src).wr = d.wr + 1 ∧ (wpcG d s at' src).rd = d.rd + (if src.length < D.per d then 1 else 0) ∧ (wpcG d s at' src).sy = d.sy := by
  unfold wpcG
  split
  · exact ⟨rfl, rfl, rfl⟩
  · exact ⟨rfl, rfl, rfl⟩

/-- But for the fuse it is as in the calm. -/
theorem wpcG_eq (d : D) (s at' : Nat) (src : List UInt64) (q : Nat) : ∃ q', { wpcG d s at' src with fuse := q } = { wpc d s at' src with fuse := q' } ∧ q' = q := by
  refine ⟨q, ?_, rfl⟩
  unfold wpcG wpc
  split <;> rfl

theorem write_loop_g (K : Value → Hp → Prop) {p dp ap : Nat} {x : X} {cap peak : Int} {bufs : List (Nat × Nat × Option Addr)} {b rb mb : Nat} (hbm : ∀ y ∈ bufs, y.1 ≠ b) {vb : Nat} {R : As} {A4 : Option Addr} {n4 m4 : Nat} {all : List (Nat × Nat × Nat)} (hn4 : n4 = all.length) (hn40 : n4 ≤ 1000000000) {S : Int → Prop} (hS : ∀ j : Nat, j < x.s → S ((x.f + j : Nat) : Int)) {d0 : D} {R0 W0 : Nat}
    (hK8 : ∀ d' H, Dead S d0 d' → d0.fuse ≤ R0 + W0 → Sep [pts p (pipO dp ap x), Dk dp d', Ar ap cap peak bufs, R] H → K (.int .i64 8) H) :
    ∀ (k fr j : Nat) (d : D) (A : Option Addr) (m : Nat) (src ws : List UInt64) (H : Hp) (r w : Nat), Prog S d0 d r w → r + (pcsR (D.per d) x.f k fr src.length) = R0 → w + (pcs (D.per d) x.f k fr src.length).length = W0 → Ok d → On d x → d.rd + k ≤ 4611686010000000000 → d.wr + k ≤ 4611686010000000000 → src.length ≤ k → fr + src.length ≤ x.w → src.length ≤ m → all.drop j = pcs (D.per d) x.f k fr src.length → j ≤ n4 → (∀ H, R H → Cells H A (wordVals src)) → ws.length = D.per d →
      (∀ H, Prog S d0 (wrsG d x k fr src) R0 W0 → Sep [pts p (pipO dp ap x), Dk dp (wrsG d x k fr src), Ar ap cap peak bufs, R] H → K (.int .i64 0) H) →
      Sep [pts p (pipO dp ap x), Dk dp d, Ar ap cap peak (bufs ++ [(b, D.per d, some ⟨rb, 0, none⟩)]), pts rb (.row (wordVals ws) 60 mb), Own 265 3 A4 n4 m4 (all.flatMap pcV), R, pts vb (.row [.pointer (some ⟨b, 0, none⟩)] 256 1)] H →
      W_stream_Pipe_Write.l9 K (k + 1) (some ⟨p, 0, none⟩) A src.length m (some ⟨b, 0, none⟩) A4 n4 m4 (n4 : Int) (j : Int) (some ⟨ap, 0, none⟩) (some ⟨vb, 0, none⟩) 1 1 H
  | k, fr, j, d, A, m, [], ws, H, r, w, hpg, hR0, hW0, hok, hx, hrd, hwr, hn, hf, hm, hall, hj, hR, hws, hK, hs => by
    unfold W_stream_Pipe_Write.l9
    have e : pcs (D.per d) x.f k fr ([] : List UInt64).length = [] := by cases k <;> simp [pcs]
    have e2 : wrsG d x k fr [] = d := by cases k <;> simp [wrsG]
    have e3 : pcsR (D.per d) x.f k fr ([] : List UInt64).length = 0 := by unfold pcsR; rw [e]; rfl
    rw [e3] at hR0
    rw [e] at hW0
    rw [e] at hall
    have hjn : j = n4 := by
      have := congrArg List.length hall
      simp at this; omega
    subst hjn
    refine BIf_dneg (by omega) ?_
    refine (Give_oneD vb b (D.per d) (some ⟨rb, 0, none⟩) hbm).use hs [2, 6] rfl rfl ?_
    rintro _ _ H ⟨rfl, rfl⟩ hs
    refine hK H ?_ ?_
    · rw [e2, ← hR0, ← hW0]; exact hpg
    · rw [e2]
      exact hs.re [1, 2, 0, 5] rfl
  | 0, fr, j, d, A, m, w0 :: src0, ws, H, r, w, hpg, hR0, hW0, hok, hx, hrd, hwr, hn, hf, hm, hall, hj, hR, hws, hK, hs => by simp at hn
  | k + 1, fr, j, d, A, m, w0 :: src0, ws, H, r, w, hpg, hR0, hW0, hok, hx, hrd, hwr, hn, hf, hm, hall, hj, hR, hws, hK, hs => by
    generalize hsrc : w0 :: src0 = src at *
    have hne : src ≠ [] := by rw [← hsrc]; simp
    have hpos : 0 < src.length := by rw [← hsrc]; simp
    have hp := Ok.per_le hok
    have hsec := hok.sec
    have hroom : x.s * D.per d ≤ 1048576 * 512 := Nat.mul_le_mul (by have := hx.fit; omega) (by omega)
    have h4 := hx.room
    have hfit := hx.fit
    have e : pcs (D.per d) x.f (k + 1) fr src.length = (x.f + fr / D.per d, fr % D.per d, cN (D.per d) fr src.length) :: pcs (D.per d) x.f k (fr + cN (D.per d) fr src.length) (src.length - cN (D.per d) fr src.length) := by
      show (if src.length = 0 then [] else _) = _
      rw [if_neg (by omega)]
    have ew : wrsG d x (k + 1) fr src = wrsG (wpcG d (x.f + fr / D.per d) (fr % D.per d) (src.take (cN (D.per d) fr src.length))) x k (fr + cN (D.per d) fr src.length) (src.drop (cN (D.per d) fr src.length)) := by
      show (if src = [] then d else _) = _
      rw [if_neg hne]
    have hdn := hpg.down
    rw [e] at hall
    have hRs : pcsR (D.per d) x.f (k + 1) fr src.length = (if cN (D.per d) fr src.length < D.per d then 1 else 0) + pcsR (D.per d) x.f k (fr + cN (D.per d) fr src.length) (src.length - cN (D.per d) fr src.length) := by
      unfold pcsR
      rw [e, List.filter_cons]
      by_cases hq : cN (D.per d) fr src.length < D.per d
      · simp only [hq, decide_true, if_true, List.length_cons]; omega
      · simp only [hq, decide_false, Bool.false_eq_true, if_false]; omega
    rw [hRs] at hR0
    rw [e, List.length_cons] at hW0
    rw [ew] at hK
    have hjlt : j < all.length := by
      have := congrArg List.length hall
      simp at this; omega
    have hcle := cN_le (D.per d) fr src.length
    have hcpos := cN_pos (per := D.per d) (fr := fr) (n := src.length) (by omega) hpos
    have hcper := cN_per (per := D.per d) (fr := fr) (n := src.length) (by omega)
    have hmod := Nat.mod_lt fr (show 0 < D.per d by omega)
    have hdiv : fr / D.per d < x.s := by
      rw [Nat.div_lt_iff_lt_mul (by omega)]; omega
    have hget : all[j] = (x.f + fr / D.per d, fr % D.per d, cN (D.per d) fr src.length) := by
      have := List.drop_eq_getElem_cons hjlt
      rw [this] at hall
      exact (List.cons.inj hall).1
    have hrest : all.drop (j + 1) = pcs (D.per d) x.f k (fr + cN (D.per d) fr src.length) (src.length - cN (D.per d) fr src.length) := by
      have := List.drop_eq_getElem_cons hjlt
      rw [this] at hall
      exact (List.cons.inj hall).2
    generalize hcv : cN (D.per d) fr src.length = c at *
    have hflat : ∀ (l : List (Nat × Nat × Nat)) (i : Nat) (hi : i < l.length), ((l.flatMap pcV).drop (i * 3)).take 3 = pcV l[i] := by
      intro l
      induction l with
      | nil => intro i hi; simp at hi
      | cons y l ih =>
        intro i hi
        rw [List.flatMap_cons]
        cases i with
        | zero => simp [pcV]
        | succ i =>
          rw [show (i + 1) * 3 = (pcV y).length + i * 3 by simp [pcV]; omega, List.drop_append]
          simp only [Nat.add_sub_cancel_left, List.getElem_cons_succ]
          rw [List.drop_eq_nil_of_le (by omega), List.nil_append]
          exact ih i (by simpa using hi)
    have hsec1 : ((x.f + fr / D.per d : Nat) : Int) < (d.sec : Int) := Int.ofNat_lt.2 (by omega)
    have htk : (src.take c).length = c := by simp; omega
    have hwl : (wordsB (d.now ((x.f + fr / D.per d : Nat) : Int))).length = D.per d := by rw [wordsB_len, hok.now]; rfl
    unfold W_stream_Pipe_Write.l9
    refine BIf_dpos (by omega) ?_
    refine (hs.own 4 rfl).rdA (ys := pcV all[j]) rfl (by omega) (hflat all j hjlt) ?_
    rw [hget]
    refine hs.nw fun b2 H hs => ?_
    refine hs.stw 7 rfl rfl rfl rfl fun H hs => ?_
    have hs : Sep [pts p (pipO dp ap x), Dk dp d, Ar ap cap peak (bufs ++ [(b, D.per d, some ⟨rb, 0, none⟩)]), pts rb (.row (wordVals ws) 60 mb), Own 265 3 A4 n4 m4 (all.flatMap pcV), R, pts vb (.row [.pointer (some ⟨b, 0, none⟩)] 256 1),
      pts b2 (.obj (.cells #[.int .i64 ((x.f + fr / D.per d : Nat) : Int), .int .i64 ((fr % D.per d : Nat) : Int), .int .i64 (c : Int)] 265))] H := hs
    -- behind the load, if there was one
    have join : ∀ (d1 : D) (ws1 : List UInt64) (H : Hp), (d1 = if c < D.per d then D.mr d else d) → (c < D.per d → d.fuse ≠ 1) → ws1.length = D.per d → (c < D.per d → ws1 = wordsB (d.now ((x.f + fr / D.per d : Nat) : Int))) →
        Sep [pts p (pipO dp ap x), Dk dp d1, Ar ap cap peak (bufs ++ [(b, D.per d, some ⟨rb, 0, none⟩)]), pts rb (.row (wordVals ws1) 60 mb), Own 265 3 A4 n4 m4 (all.flatMap pcV), R, pts vb (.row [.pointer (some ⟨b, 0, none⟩)] 256 1),
          pts b2 (.obj (.cells #[.int .i64 ((x.f + fr / D.per d : Nat) : Int), .int .i64 ((fr % D.per d : Nat) : Int), .int .i64 (c : Int)] 265))] H →
        W_stream_Pipe_Write.j15 K (W_stream_Pipe_Write.l9 K (k + 1)) (some ⟨p, 0, none⟩) A src.length m (some ⟨b, 0, none⟩) ⟨b2, 0, none⟩ A4 n4 m4 (n4 : Int) (j : Int) (some ⟨ap, 0, none⟩) (some ⟨vb, 0, none⟩) 1 1 H := fun d1 ws1 H hd1 hnf hw1 hwe hs => by
      have hd1p : D.per d1 = D.per d ∧ Ok d1 ∧ d1.down = false ∧ d1.wr = d.wr ∧ d1.sec = d.sec ∧ Prog S d0 d1 (r + if c < D.per d then 1 else 0) w := by
        rw [hd1]
        by_cases hlt : c < D.per d
        · simp only [hlt, if_true]
          exact ⟨by trivial, Ok.mr hok, hdn, by trivial, by trivial, hpg.trans (Prog.mr S hok hdn (hnf hlt))⟩
        · simp only [hlt, if_false]
          exact ⟨by trivial, hok, hdn, by trivial, by trivial, hpg⟩
      obtain ⟨q1, q2, q3, q4, q5, q6⟩ := hd1p
      have hwset : setW ws1 (fr % D.per d) (src.take c) = setW (wordsB (d.now ((x.f + fr / D.per d : Nat) : Int))) (fr % D.per d) (src.take c) := by
        by_cases hlt : c < D.per d
        · rw [hwe hlt]
        · have h0 : fr % D.per d = 0 := by omega
          unfold setW
          rw [h0, htk, List.drop_eq_nil_of_le (by omega), List.drop_eq_nil_of_le (by omega)]
          simp
      have hdisk : D.pt d1 ((x.f + fr / D.per d : Nat) : Int) (setW ws1 (fr % D.per d) (src.take c)) = wpcG d (x.f + fr / D.per d) (fr % D.per d) (src.take c) := by
        unfold wpcG
        rw [hwset, hd1, htk]
      unfold W_stream_Pipe_Write.j15
      simp only [NN_some, Addr.add_lit', Addr.add_zero, Nat.zero_add, Nat.add_zero]
      refine QCall.use (Words_s hs 2 rfl (List.mem_append_right _ (List.mem_singleton.2 rfl))) ?_
      simp only [DI_int', DB_bool, DS_string, DP_pointer, DSl_slice, DM_map, DA_agg, DTup_tuple, DCons_cons, DNil_nil, NN_some, BIf_true, BIf_false, BIf_same, List.toList_toArray, Bool.not_true, Bool.not_false]
      refine hs.ld 7 rfl rfl ?_
      simp only [DI_int', DB_bool, DS_string, DP_pointer, DSl_slice, DM_map, DA_agg, DTup_tuple, DCons_cons, DNil_nil, NN_some, BIf_true, BIf_false, BIf_same, List.toList_toArray, Bool.not_true, Bool.not_false]
      refine slB_from rfl (by omega) ?_
      refine hs.ld 7 rfl rfl ?_
      simp only [DI_int', DB_bool, DS_string, DP_pointer, DSl_slice, DM_map, DA_agg, DTup_tuple, DCons_cons, DNil_nil, NN_some, BIf_true, BIf_false, BIf_same, List.toList_toArray, Bool.not_true, Bool.not_false]
      refine slB_to rfl (by omega) ?_
      rw [slA_at (by omega), Nat.zero_add]
      have hcell : ∀ {L : List As} {H : Hp}, Sep L H → L[5]? = some R → Cells H A (wordVals src) := fun hs h5 => by
        obtain ⟨H1, hR1, hle⟩ := hs.see 5 h5
        exact (hR H1 hR1).le hle
      refine hs.cp 3 (b := rb) (off := fr % D.per d) (n := D.per d - fr % D.per d) (k := c - 0) (xs := wordVals ws1) (e' := 60) (m := mb) (ys := wordVals (src.take c)) (by rfl) cell_u64 rfl ?_ ?_ (fun y hy => ?_) fun H hs => ?_
      · have hmin : Nat.min (c - 0) (D.per d - fr % D.per d) = c - 0 := Nat.min_eq_left (by omega)
        rw [hmin]
        have h1 := ((hcell hs rfl).shift (m := m) (l := 0) (by rw [wordVals_length]; omega)).take c
        rw [List.drop_zero, show (wordVals src).take c = wordVals (src.take c) by unfold wordVals; rw [List.map_take]] at h1
        exact src_of h1 (by rw [wordVals_length, htk]; omega)
      · rw [wordVals_length, wordVals_length, htk, hw1]; omega
      · obtain ⟨z, _, rfl⟩ := List.mem_map.1 hy; rfl
      simp only [DI_int', DB_bool, DS_string, DP_pointer, DSl_slice, DM_map, DA_agg, DTup_tuple, DCons_cons, DNil_nil, NN_some, BIf_true, BIf_false, BIf_same, List.toList_toArray, Bool.not_true, Bool.not_false]
      rw [setW_vals] at hs
      refine hs.ld 7 rfl rfl ?_
      simp only [DI_int', DB_bool, DS_string, DP_pointer, DSl_slice, DM_map, DA_agg, DTup_tuple, DCons_cons, DNil_nil, NN_some, BIf_true, BIf_false, BIf_same, List.toList_toArray, Bool.not_true, Bool.not_false]
      have hs : Sep [pts p (pipO dp ap x), Dk dp d1, Ar ap cap peak (bufs ++ [(b, D.per d, some ⟨rb, 0, none⟩)]), pts rb (.row (wordVals (setW ws1 (fr % D.per d) (src.take c))) 60 mb), Own 265 3 A4 n4 m4 (all.flatMap pcV), R, pts vb (.row [.pointer (some ⟨b, 0, none⟩)] 256 1),
          pts b2 (.obj (.cells #[.int .i64 ((x.f + fr / D.per d : Nat) : Int), .int .i64 ((fr % D.per d : Nat) : Int), .int .i64 (c : Int)] 265))] H := hs
      have hsl : (setW ws1 (fr % D.per d) (src.take c)).length = D.per d := by rw [setW_len (by omega)]; exact hw1
      refine (store_g (p := p) (ap := ap) (x := x) (cap := cap) (peak := peak) (b := b) (rb := rb) (m := mb) (d := d1) (ws := setW ws1 (fr % D.per d) (src.take c)) q2 q3 (by omega) ((x.f + fr / D.per d : Nat) : Int) (Int.natCast_nonneg _) (by rw [q5]; exact hsec1) (bufs := bufs ++ [(b, D.per d, some ⟨rb, 0, none⟩)]) (by rw [q1]; exact List.mem_append_right _ (List.mem_singleton.2 rfl)) (by rw [q1]; exact hsl)).use hs [0, 1, 2, 3] rfl rfl ?_
      rintro _ _ H (⟨hf1, rfl, rfl⟩ | ⟨hf1, rfl, rfl⟩) hs
      case inr =>
        simp only [DI_int', DB_bool, DS_string, DP_pointer, DSl_slice, DM_map, DA_agg, DTup_tuple, DCons_cons, DNil_nil, NN_some, BIf_true, BIf_false, BIf_same, List.toList_toArray, Bool.not_true, Bool.not_false]
        refine BIf_bnep (by decide) ?_
        refine (Give_oneD vb b (D.per d) (some ⟨rb, 0, none⟩) hbm).use hs [2, 6] rfl rfl ?_
        rintro _ _ H ⟨rfl, rfl⟩ hs
        refine hK8 _ H (q6.dead (Dead.one S q2 hf1)) ?_ (hs.re [1, 2, 0, 5] rfl)
        have z1 := q6.fuse; have z2 := q6.go
        omega
      have hpg2 := q6.trans (Prog.pt S q2 q3 hf1 (i := ((x.f + fr / D.per d : Nat) : Int)) (hS _ hdiv) (ws := setW ws1 (fr % D.per d) (src.take c)) (by rw [q1]; exact hsl))
      rw [hdisk] at hpg2
      rw [hdisk] at hs
      simp only [DI_int', DB_bool, DS_string, DP_pointer, DSl_slice, DM_map, DA_agg, DTup_tuple, DCons_cons, DNil_nil, NN_some, BIf_true, BIf_false, BIf_same, List.toList_toArray, Bool.not_true, Bool.not_false]
      refine BIf_bnen rfl ?_
      refine hs.ld 7 rfl rfl ?_
      simp only [DI_int', DB_bool, DS_string, DP_pointer, DSl_slice, DM_map, DA_agg, DTup_tuple, DCons_cons, DNil_nil, NN_some, BIf_true, BIf_false, BIf_same, List.toList_toArray, Bool.not_true, Bool.not_false]
      refine slB_from rfl (by omega) ?_
      rw [i64w (x := (j : Int) + 1) (by omega) (by omega)]
      have hcnt := wpc_cntG d (x.f + fr / D.per d) (fr % D.per d) (src.take c)
      have hsz := wpc_sizeG d (x.f + fr / D.per d) (fr % D.per d) (src.take c)
      have hper := wpc_perG d (x.f + fr / D.per d) (fr % D.per d) (src.take c)
      have hdl : (src.drop c).length = src.length - c := by simp
      rw [← hdl]
      refine write_loop_g K (rb := rb) (mb := mb) hbm hn4 hn40 hS hK8 k (fr + c) (j + 1) _ _ (m - c) (src.drop c) (setW ws1 (fr % D.per d) (src.take c)) H _ _ hpg2 (by rw [hper, hdl]; omega) (by rw [hper, hdl]; omega) hpg2.ok ⟨hx.w1, hx.s1, by rw [hsz.2]; exact hfit, by rw [hper]; exact h4⟩ (by rw [hcnt.2.1]; split <;> omega) (by rw [hcnt.1]; omega) (by omega) (by omega) (by omega) (by rw [hper, hdl]; exact hrest) (by omega) (fun H hRH => ?_) (by rw [hper]; exact hsl) hK ?_
      · have := (hR H hRH).shift (m := m) (l := c) (by rw [wordVals_length]; omega)
        rw [show (wordVals src).drop c = wordVals (src.drop c) by unfold wordVals; rw [List.map_drop]] at this
        exact this
      · rw [hper]
        exact hs.re [0, 1, 2, 3, 4, 5, 6] rfl
    simp only [NN_some, Addr.add_lit', Addr.add_zero, Nat.zero_add, Nat.add_zero]
    refine hs.ld 7 rfl rfl ?_
    simp only [DI_int', DB_bool, DS_string, DP_pointer, DSl_slice, DM_map, DA_agg, DTup_tuple, DCons_cons, DNil_nil, NN_some, BIf_true, BIf_false, BIf_same, List.toList_toArray, Bool.not_true, Bool.not_false]
    refine QCall.use (per_s hs 0 1 rfl rfl hok) ?_
    simp only [DI_int', DB_bool, DS_string, DP_pointer, DSl_slice, DM_map, DA_agg, DTup_tuple, DCons_cons, DNil_nil, NN_some, BIf_true, BIf_false, BIf_same, List.toList_toArray, Bool.not_true, Bool.not_false]
    by_cases hlt : c < D.per d
    · refine BIf_dpos (by omega) ?_
      refine hs.ld 7 rfl rfl ?_
      simp only [DI_int', DB_bool, DS_string, DP_pointer, DSl_slice, DM_map, DA_agg, DTup_tuple, DCons_cons, DNil_nil, NN_some, BIf_true, BIf_false, BIf_same, List.toList_toArray, Bool.not_true, Bool.not_false]
      refine (load_g (p := p) (ap := ap) (x := x) (cap := cap) (peak := peak) (b := b) (rb := rb) (m := mb) hok hdn (by omega) ((x.f + fr / D.per d : Nat) : Int) (Int.natCast_nonneg _) hsec1 (bufs := bufs ++ [(b, D.per d, some ⟨rb, 0, none⟩)]) (List.mem_append_right _ (List.mem_singleton.2 rfl)) (xs := wordVals ws) (by rw [wordVals_length]; exact hws)).use hs [0, 1, 2, 3] rfl rfl ?_
      rintro _ _ H (⟨hf1, rfl, rfl⟩ | ⟨hf1, rfl, rfl⟩) hs
      case inr =>
        simp only [DI_int', DB_bool, DS_string, DP_pointer, DSl_slice, DM_map, DA_agg, DTup_tuple, DCons_cons, DNil_nil, NN_some, BIf_true, BIf_false, BIf_same, List.toList_toArray, Bool.not_true, Bool.not_false]
        refine BIf_bnep (by decide) ?_
        refine (Give_oneD vb b (D.per d) (some ⟨rb, 0, none⟩) hbm).use hs [2, 6] rfl rfl ?_
        rintro _ _ H ⟨rfl, rfl⟩ hs
        refine hK8 _ H (hpg.dead (Dead.one S hok hf1)) ?_ (hs.re [1, 2, 0, 5] rfl)
        have z1 := hpg.fuse; have z2 := hpg.go
        rw [if_pos hlt] at hR0
        omega
      simp only [DI_int', DB_bool, DS_string, DP_pointer, DSl_slice, DM_map, DA_agg, DTup_tuple, DCons_cons, DNil_nil, NN_some, BIf_true, BIf_false, BIf_same, List.toList_toArray, Bool.not_true, Bool.not_false]
      refine BIf_bnen rfl ?_
      exact join (D.mr d) _ H (by rw [if_pos hlt]) (fun _ => hf1) hwl (fun _ => rfl) (hs.re [0, 1, 2, 3, 4, 5, 6, 7] rfl)
    · refine BIf_dneg (by omega) ?_
      exact join d ws H (by rw [if_neg hlt]) (fun h => absurd h hlt) hws (fun h => absurd h hlt) hs

/-- What a write leaves. -/
def writeP (p dp ap : Nat) (d : D) (x : X) (cap peak : Int) (bufs : List (Nat × Nat × Option Addr)) (fr : Nat) (src : List UInt64) (R : As) (v : Value) (M : List As) : Prop :=
  (Prog (fun i => (x.f : Int) ≤ i ∧ i < ((x.f + x.s : Nat) : Int)) d (wrsG d x src.length fr src) (pcsR (D.per d) x.f src.length fr src.length) (pcs (D.per d) x.f src.length fr src.length).length ∧
    v = .int .i64 0 ∧ M = [pts p (pipO dp ap x), Dk dp (wrsG d x src.length fr src), Ar ap cap (mx peak (sumB bufs + D.per d)) bufs, R]) ∨
  (∃ d', Dead (fun i => (x.f : Int) ≤ i ∧ i < ((x.f + x.s : Nat) : Int)) d d' ∧ d.fuse ≤ pcsR (D.per d) x.f src.length fr src.length + (pcs (D.per d) x.f src.length fr src.length).length ∧
    v = .int .i64 8 ∧ M = [pts p (pipO dp ap x), Dk dp d', Ar ap cap (mx peak (sumB bufs + D.per d)) bufs, R])

/-- Words are written. -/
theorem WriteG_tr {p dp ap : Nat} {d : D} {x : X} {cap peak : Int} {bufs : List (Nat × Nat × Option Addr)} {R : As} {A : Option Addr} {n m : Nat} {src : List UInt64} (hok : Ok d) (hl : d.down = false) (hx : On d x) (ho : d.rd ≤ 4611686000000000000 ∧ d.wr ≤ 4611686000000000000) (fr : Nat) (hn : n = src.length) (hn1 : 1 ≤ n) (hf : fr + n ≤ x.w) (hm : n ≤ m) (hcap : (D.per d : Int) ≤ cap - sumB bufs) (hR : ∀ H, R H → Cells H A (wordVals src)) :
    Tr Tryz.prog 101 #[.pointer (some ⟨p, 0, none⟩), .int .i64 fr, .slice A n m] [pts p (pipO dp ap x), Dk dp d, Ar ap cap peak bufs, R] fun v M =>
      writeP p dp ap d x cap peak bufs fr src R v M := fun H hs => by
  subst hn
  have hp := Ok.per_le hok
  have hsec := hok.sec
  have hroom : x.s * D.per d ≤ 1048576 * 512 := Nat.mul_le_mul (by have := hx.fit; omega) (by omega)
  have h4 := hx.room
  have hpl := pcs_len (D.per d) x.f src.length fr src.length
  apply W_stream_Pipe_Write.ok
  unfold W_stream_Pipe_Write
  refine (pieces_tr (dp := dp) (ap := ap) hok hx fr src.length hf).use hs [0, 1] rfl rfl ?_
  rintro _ _ H ⟨A4, m4, rfl, rfl⟩ hs
  simp only [DI_int', DB_bool, DS_string, DP_pointer, DSl_slice, DM_map, DA_agg, DTup_tuple, DCons_cons, DNil_nil, NN_some, BIf_true, BIf_false, BIf_same, List.toList_toArray, Bool.not_true, Bool.not_false]
  refine BIf_bnen rfl (BIf_beqn (by omega) ?_)
  simp only [NN_some, Addr.add_lit', Addr.add_zero, Nat.zero_add, Nat.add_zero]
  have rest : ∀ (b rb : Nat) (H : Hp), (∀ y ∈ bufs, y.1 ≠ b) → Sep [Ar ap cap (if sumB bufs + D.per d > peak then sumB bufs + D.per d else peak) (bufs ++ [(b, D.per d, some ⟨rb, 0, none⟩)]), pts rb (.row (zerosU64 (D.per d)) 60 (D.per d)), pts p (pipO dp ap x), Dk dp d, Own 265 3 A4 (pcs (D.per d) x.f src.length fr src.length).length m4 ((pcs (D.per d) x.f src.length fr src.length).flatMap pcV), R] H →
      W_stream_Pipe_Write.j5 (fun v H' => ∃ M, writeP p dp ap d x cap peak bufs fr src R v M ∧ Sep M H') (some ⟨p, 0, none⟩) A src.length m A4 (pcs (D.per d) x.f src.length fr src.length).length m4 (0 : Int) (some ⟨b, 0, none⟩) H := fun b rb H hbm hs => by
    unfold W_stream_Pipe_Write.j5
    refine BIf_bnen rfl ?_
    simp only [NN_some, Addr.add_lit', Addr.add_zero, Nat.zero_add, Nat.add_zero]
    refine hs.ld 2 rfl rfl ?_
    simp only [DI_int', DB_bool, DS_string, DP_pointer, DSl_slice, DM_map, DA_agg, DTup_tuple, DCons_cons, DNil_nil, NN_some, BIf_true, BIf_false, BIf_same, List.toList_toArray, Bool.not_true, Bool.not_false]
    refine hs.nw fun vb H hs => ?_
    refine ⟨src.length + 1, ?_⟩
    have hz : zerosU64 (D.per d) = wordVals (List.replicate (D.per d) 0) := by
      unfold zerosU64
      rw [zeroRow_one]
      unfold wordVals
      rw [List.map_replicate]; rfl
    refine write_loop_g _ (p := p) (dp := dp) (ap := ap) (x := x) (cap := cap) (peak := mx peak (sumB bufs + D.per d)) (bufs := bufs) (b := b) (rb := rb) (mb := D.per d) (vb := vb) (R := R) (all := pcs (D.per d) x.f src.length fr src.length) hbm rfl (by omega) (S := fun i => (x.f : Int) ≤ i ∧ i < ((x.f + x.s : Nat) : Int)) (fun j hj => ⟨by omega, by omega⟩) (d0 := d) (R0 := pcsR (D.per d) x.f src.length fr src.length) (W0 := (pcs (D.per d) x.f src.length fr src.length).length) (fun d' H hd hfu hs => ⟨_, .inr ⟨d', hd, hfu, rfl, rfl⟩, hs⟩) src.length fr 0 d A m src (List.replicate (D.per d) 0) H 0 0 (Prog.refl _ hok hl) (Nat.zero_add _) (Nat.zero_add _) hok hx (by omega) (by omega) (Nat.le_refl _) hf hm rfl (Nat.zero_le _) hR (by simp) (fun H hpg hs => ⟨_, .inl ⟨hpg, rfl, rfl⟩, hs⟩) ?_
    rw [← hz]
    exact hs.re [2, 3, 0, 1, 4, 5, 6] rfl
  have fresh : ∀ {L : List As} {H : Hp} (b rb : Nat) (pk : Int), Sep L H → L[0]? = some (Ar ap cap pk (bufs ++ [(b, D.per d, some ⟨rb, 0, none⟩)])) → ∀ y ∈ bufs, y.1 ≠ b := fun b rb pk hs h0 y hy e => by
    obtain ⟨mp, cl, tk, hA⟩ := Sep.ar hs 0 h0
    have := hA.bn
    rw [List.map_append, List.nodup_append] at this
    exact this.2.2 y.1 (List.mem_map_of_mem hy) b (by simp) e
  refine ⟨?_, ?_⟩
  · refine hs.ld 0 rfl rfl ?_
    simp only [DI_int', DB_bool, DS_string, DP_pointer, DSl_slice, DM_map, DA_agg, DTup_tuple, DCons_cons, DNil_nil, NN_some, BIf_true, BIf_false, BIf_same, List.toList_toArray, Bool.not_true, Bool.not_false]
    refine HCalls.use (per_s hs 0 1 rfl rfl hok) ?_
    try simp only [DI_int', DB_bool, DS_string, DP_pointer, DSl_slice, DM_map, DA_agg, DTup_tuple, DCons_cons, DNil_nil, NN_some, BIf_true, BIf_false, BIf_same, List.toList_toArray, Bool.not_true, Bool.not_false]
    refine (Take_tr (a := ap) (cap := cap) (peak := peak) (bufs := bufs) (n := D.per d) (by omega) hcap).use hs [3] rfl rfl ?_
    rintro _ _ H ⟨b, rb, rfl, rfl⟩ hs
    simp only [DI_int', DB_bool, DS_string, DP_pointer, DSl_slice, DM_map, DA_agg, DTup_tuple, DCons_cons, DNil_nil, NN_some, BIf_true, BIf_false, BIf_same, List.toList_toArray, Bool.not_true, Bool.not_false]
    exact rest b rb H (fresh b rb _ hs rfl) (hs.re [0, 1, 2, 3, 4, 5] rfl)
  · refine HCalls.use (per_s hs 0 1 rfl rfl hok) ?_
    try simp only [DI_int', DB_bool, DS_string, DP_pointer, DSl_slice, DM_map, DA_agg, DTup_tuple, DCons_cons, DNil_nil, NN_some, BIf_true, BIf_false, BIf_same, List.toList_toArray, Bool.not_true, Bool.not_false]
    refine hs.ld 0 rfl rfl ?_
    simp only [DI_int', DB_bool, DS_string, DP_pointer, DSl_slice, DM_map, DA_agg, DTup_tuple, DCons_cons, DNil_nil, NN_some, BIf_true, BIf_false, BIf_same, List.toList_toArray, Bool.not_true, Bool.not_false]
    refine (Take_tr (a := ap) (cap := cap) (peak := peak) (bufs := bufs) (n := D.per d) (by omega) hcap).use hs [3] rfl rfl ?_
    rintro _ _ H ⟨b, rb, rfl, rfl⟩ hs
    simp only [DI_int', DB_bool, DS_string, DP_pointer, DSl_slice, DM_map, DA_agg, DTup_tuple, DCons_cons, DNil_nil, NN_some, BIf_true, BIf_false, BIf_same, List.toList_toArray, Bool.not_true, Bool.not_false]
    exact rest b rb H (fresh b rb _ hs rfl) (hs.re [0, 1, 2, 3, 4, 5] rfl)

end Go.Proofs.YtghajiefpmcpmaaGreatDoor.Str

end
section
/-! Lay -/
/- The library's sort and keys of a map, laid at this program (printed by lay.py). -/
set_option maxRecDepth 100000
namespace Go.Proofs.YtghajiefpmcpmaaGreatDoor.Lib
open Go Go.Proofs Go.Shelf Go.RowKit Go.Maps Go.Sort
def sortedI_ren : Go.Shelf.Ren := ⟨fun | 6 => 123 | 8 => 204 | 9 => 205 | 11 => 249 | 13 => 210 | 12 => 250 | 23 => 260 | 24 => 261 | 14 => 287 | 15 => 288 | 16 => 289 | 17 => 290 | 18 => 291 | 19 => 292 | 20 => 293 | 21 => 294 | 22 => 295 | 25 => 316 | 26 => 304 | 27 => 305 | 28 => 317 | 29 => 318 | 30 => 319 | 31 => 331 | n => n, fun | 26 => 3 | 28 => 209 | 24 => 105 | 0 => 0 | 3 => 3 | 37 => 196 | 48 => 40 | 50 => 60 | 4 => 4 | 40 => 348 | 39 => 347 | 45 => 270 | 5 => 5 | 9 => 9 | 51 => 392 | 55 => 396 | 57 => 413 | 58 => 414 | 33 => 284 | n => n, fun | n => n⟩
theorem sortedI : Go.Proofs.SlLaysZI.n6 Tryz.prog sortedI_ren where
  mixed := by kernel_rfl
  f6 := ⟨"slices.Sorted[int]", by decide, Tryz.func123.trans (congrArg some (by kernel_rfl))⟩
  f8 := ⟨"slices.Collect[int]", by decide, Tryz.func204.trans (congrArg some (by kernel_rfl))⟩
  f11 := ⟨"slices.AppendSeq[[]int,int]", by decide, Tryz.func249.trans (congrArg some (by kernel_rfl))⟩
  t0 := Tryz.underlying0
  a0 := Tryz.isAgg0
  z0 := Tryz.sizeOf0
  v0 := Tryz.zeroValue0
  t24 := Tryz.underlying105
  a24 := Tryz.isAgg105
  z24 := Tryz.sizeOf105
  v24 := Tryz.zeroValue105
  t26 := Tryz.underlying3
  a26 := Tryz.isAgg3
  z26 := Tryz.sizeOf3
  v26 := Tryz.zeroValue3
  t28 := Tryz.underlying209
  a28 := Tryz.isAgg209
  z28 := Tryz.sizeOf209
  v28 := Tryz.zeroValue209
  i26 := by kernel_rfl
def sortI_ren : Go.Shelf.Ren := ⟨fun | 5 => 205 | 8 => 210 | 7 => 250 | 19 => 260 | 20 => 261 | 10 => 287 | 11 => 288 | 12 => 289 | 13 => 290 | 14 => 291 | 15 => 292 | 16 => 293 | 17 => 294 | 18 => 295 | 30 => 316 | 31 => 304 | 32 => 305 | 33 => 317 | 34 => 318 | 35 => 319 | 40 => 331 | n => n, fun | 23 => 105 | 25 => 3 | 3 => 3 | 32 => 196 | 22 => 105 | 0 => 0 | 44 => 40 | 46 => 60 | 4 => 4 | 36 => 348 | 35 => 347 | 41 => 270 | 5 => 5 | 9 => 9 | 53 => 392 | 57 => 396 | 63 => 413 | 64 => 414 | n => n, fun | n => n⟩
theorem sortI : Go.Proofs.SlLaysM.n5 Tryz.prog sortI_ren where
  mixed := by kernel_rfl
  f5 := ⟨"slices.Sort[[]int,int]", by decide, Tryz.func205.trans (congrArg some (by kernel_rfl))⟩
  f7 := ⟨"slices.pdqsortOrdered[int]", by decide, Tryz.func250.trans (congrArg some (by kernel_rfl))⟩
  f8 := Tryz.func210.trans (congrArg some (by kernel_rfl))
  f10 := ⟨"slices.insertionSortOrdered[int]", by decide, Tryz.func287.trans (congrArg some (by kernel_rfl))⟩
  f11 := ⟨"slices.heapSortOrdered[int]", by decide, Tryz.func288.trans (congrArg some (by kernel_rfl))⟩
  f12 := ⟨"slices.breakPatternsOrdered[int]", by decide, Tryz.func289.trans (congrArg some (by kernel_rfl))⟩
  f13 := ⟨"slices.choosePivotOrdered[int]", by decide, Tryz.func290.trans (congrArg some (by kernel_rfl))⟩
  f14 := ⟨"slices.reverseRangeOrdered[int]", by decide, Tryz.func291.trans (congrArg some (by kernel_rfl))⟩
  f15 := ⟨"slices.partialInsertionSortOrdered[int]", by decide, Tryz.func292.trans (congrArg some (by kernel_rfl))⟩
  f16 := ⟨"cmp.Less[int]", by decide, Tryz.func293.trans (congrArg some (by kernel_rfl))⟩
  f17 := ⟨"slices.partitionEqualOrdered[int]", by decide, Tryz.func294.trans (congrArg some (by kernel_rfl))⟩
  f18 := ⟨"slices.partitionOrdered[int]", by decide, Tryz.func295.trans (congrArg some (by kernel_rfl))⟩
  f19 := Tryz.func260.trans (congrArg some (by kernel_rfl))
  f20 := Tryz.func261.trans (congrArg some (by kernel_rfl))
  f30 := ⟨"slices.siftDownOrdered[int]", by decide, Tryz.func316.trans (congrArg some (by kernel_rfl))⟩
  f31 := Tryz.func304.trans (congrArg some (by kernel_rfl))
  f32 := Tryz.func305.trans (congrArg some (by kernel_rfl))
  f33 := ⟨"slices.medianAdjacentOrdered[int]", by decide, Tryz.func317.trans (congrArg some (by kernel_rfl))⟩
  f34 := ⟨"slices.medianOrdered[int]", by decide, Tryz.func318.trans (congrArg some (by kernel_rfl))⟩
  f35 := ⟨"cmp.isNaN[int]", by decide, Tryz.func319.trans (congrArg some (by kernel_rfl))⟩
  f40 := ⟨"slices.order2Ordered[int]", by decide, Tryz.func331.trans (congrArg some (by kernel_rfl))⟩
  t0 := Tryz.underlying0
  a0 := Tryz.isAgg0
  z0 := Tryz.sizeOf0
  v0 := Tryz.zeroValue0
  t3 := Tryz.underlying3
  a3 := Tryz.isAgg3
  z3 := Tryz.sizeOf3
  v3 := Tryz.zeroValue3
  t4 := Tryz.underlying4
  a4 := Tryz.isAgg4
  z4 := Tryz.sizeOf4
  v4 := Tryz.zeroValue4
  t5 := Tryz.underlying5
  a5 := Tryz.isAgg5
  z5 := Tryz.sizeOf5
  v5 := Tryz.zeroValue5
  t9 := Tryz.underlying9
  a9 := Tryz.isAgg9
  z9 := Tryz.sizeOf9
  v9 := Tryz.zeroValue9
  t22 := Tryz.underlying105
  a22 := Tryz.isAgg105
  z22 := Tryz.sizeOf105
  v22 := Tryz.zeroValue105
  t23 := Tryz.underlying105
  a23 := Tryz.isAgg105
  z23 := Tryz.sizeOf105
  v23 := Tryz.zeroValue105
  t25 := Tryz.underlying3
  a25 := Tryz.isAgg3
  z25 := Tryz.sizeOf3
  v25 := Tryz.zeroValue3
  t32 := Tryz.underlying196
  a32 := Tryz.isAgg196
  z32 := Tryz.sizeOf196
  v32 := Tryz.zeroValue196
  t35 := Tryz.underlying347
  a35 := Tryz.isAgg347
  z35 := Tryz.sizeOf347
  v35 := Tryz.zeroValue347
  t36 := Tryz.underlying348
  a36 := Tryz.isAgg348
  z36 := Tryz.sizeOf348
  v36 := Tryz.zeroValue348
  t41 := Tryz.underlying270
  a41 := Tryz.isAgg270
  z41 := Tryz.sizeOf270
  v41 := Tryz.zeroValue270
  t44 := Tryz.underlying40
  a44 := Tryz.isAgg40
  z44 := Tryz.sizeOf40
  v44 := Tryz.zeroValue40
  t46 := Tryz.underlying60
  a46 := Tryz.isAgg60
  z46 := Tryz.sizeOf60
  v46 := Tryz.zeroValue60
  t53 := Tryz.underlying392
  a53 := Tryz.isAgg392
  z53 := Tryz.sizeOf392
  v53 := Tryz.zeroValue392
  t57 := Tryz.underlying396
  a57 := Tryz.isAgg396
  z57 := Tryz.sizeOf396
  v57 := Tryz.zeroValue396
  t63 := Tryz.underlying413
  a63 := Tryz.isAgg413
  z63 := Tryz.sizeOf413
  v63 := Tryz.zeroValue413
  t64 := Tryz.underlying414
  a64 := Tryz.isAgg414
  z64 := Tryz.sizeOf414
  v64 := Tryz.zeroValue414
def keys_string_ren : Go.Shelf.Ren := ⟨fun | 7 => 124 | 10 => 206 | n => n, fun | 23 => 45 | 26 => 3 | 3 => 9 | 28 => 209 | 0 => 0 | 27 => 208 | 33 => 284 | 4 => 4 | n => n, fun | n => n⟩
theorem keys_string : Go.Proofs.SlLaysZI.n7 Tryz.prog keys_string_ren where
  mixed := by kernel_rfl
  f7 := ⟨"maps.Keys[map[int]string,int,string]", by decide, Tryz.func124.trans (congrArg some (by kernel_rfl))⟩
  f10 := ⟨"maps.Keys[map[int]string,int,string]$1", by decide, Tryz.func206.trans (congrArg some (by kernel_rfl))⟩
  t0 := Tryz.underlying0
  a0 := Tryz.isAgg0
  z0 := Tryz.sizeOf0
  v0 := Tryz.zeroValue0
  t4 := Tryz.underlying4
  a4 := Tryz.isAgg4
  z4 := Tryz.sizeOf4
  v4 := Tryz.zeroValue4
  t23 := Tryz.underlying45
  a23 := Tryz.isAgg45
  z23 := Tryz.sizeOf45
  v23 := Tryz.zeroValue45
  t26 := Tryz.underlying3
  a26 := Tryz.isAgg3
  z26 := Tryz.sizeOf3
  v26 := Tryz.zeroValue3
  t27 := Tryz.underlying208
  a27 := Tryz.isAgg208
  z27 := Tryz.sizeOf208
  v27 := Tryz.zeroValue208
  t28 := Tryz.underlying209
  a28 := Tryz.isAgg209
  z28 := Tryz.sizeOf209
  v28 := Tryz.zeroValue209
  t33 := Tryz.underlying284
  a33 := Tryz.isAgg284
  z33 := Tryz.sizeOf284
  v33 := Tryz.zeroValue284
-- maps.Keys[map[int]string,int,string]
end Go.Proofs.YtghajiefpmcpmaaGreatDoor.Lib

end
section
/-! HwX -/
/- The frame of the proofs: the library's sorted keys of a map whose keys are ints. -/
set_option maxRecDepth 100000
set_option linter.unusedSimpArgs false
set_option linter.unusedVariables false
set_option linter.unnecessarySimpa false
set_option linter.unusedSectionVars false
namespace Go.Hw
open Go Go.Proofs Go.Proofs.YtghajiefpmcpmaaGreatDoor.Lib Go.RowKit Go.Maps Go.Sort Go.Shelf
open Go.WideElems (Fit rd rg)

theorem nodup_len : ∀ (N : Nat) (l : List Nat), l.Nodup → (∀ x ∈ l, x < N) → l.length ≤ N
  | 0, [], _, _ => by simp
  | 0, x :: _, _, h => absurd (h x (by simp)) (by omega)
  | N + 1, l, hn, h => by
    have := nodup_len N (l.erase N) (hn.erase N) fun x hx => by
      rw [hn.mem_erase_iff] at hx
      have := h x hx.2
      have := hx.1
      omega
    rw [List.length_erase] at this
    split at this <;> omega

/-- The keys of a map, sorted. -/
structure KeysOf (m : Int → Option Value) (ks : List Int) : Prop where
  up : ks.Pairwise (fun a b => a < b)
  mem : ∀ k, k ∈ ks ↔ (m k).isSome = true

theorem okk_len {l : List (Int × Value × Nat)} {clock : Nat} {m : Int → Option Value} (h : OkK l clock m) {N : Nat} (hd : ∀ k, (m k).isSome = true → 0 ≤ k ∧ k < N) : l.length ≤ N ∧ ∀ x ∈ l, 0 ≤ x.1 ∧ x.1 < N := by
  have hmem : ∀ x ∈ l, 0 ≤ x.1 ∧ x.1 < N := fun x hx => by
    apply hd
    rw [← h.get, getK_mem h.nd hx]; rfl
  refine ⟨?_, hmem⟩
  have hn : ((l.map (·.1)).map Int.toNat).Nodup := by
    rw [List.nodup_iff_pairwise_ne, List.pairwise_map]
    have := h.nd
    rw [List.nodup_iff_pairwise_ne] at this
    refine this.imp_of_mem ?_
    intro a b ha hb hne e
    obtain ⟨x, hx, rfl⟩ := List.mem_map.1 ha
    obtain ⟨y, hy, rfl⟩ := List.mem_map.1 hb
    have := hmem x hx
    have := hmem y hy
    omega
  have := nodup_len N _ hn fun x hx => by
    obtain ⟨y, hy, rfl⟩ := List.mem_map.1 hx
    obtain ⟨z, hz, rfl⟩ := List.mem_map.1 hy
    have := hmem z hz
    omega
  simpa using this

def rNo : Value → Option (DataW Unit × List MemPlace) := fun _ => some (.lit (.bool true), [])

theorem okk_fit {P : Program} {k : TypeId} (hk : P.underlying k = some (.int .i64)) {l : List (Int × Value × Nat)} {clock : Nat} {m : Int → Option Value} (h : OkK l clock m) {N : Nat} (hN : N ≤ 1048576) (hd : ∀ k, (m k).isSome = true → 0 ≤ k ∧ k < N) :
    Fit P k rNo (l.map entK).toArray clock ∧ (l.map entK).map (rg P k rNo) = l.map fun x => (Lit.int .i64 x.1, DataW.lit (.bool true)) := by
  obtain ⟨h1, h2⟩ := okk_len h hd
  have hrd : ∀ x ∈ l, rd P k rNo (entK x) = some (Lit.int .i64 x.1, DataW.lit (.bool true)) := fun x hx => by
    have := h2 x hx
    have hw : (Lit.int .i64 x.1).wf = true := by
      have e : (Lit.int .i64 x.1).wf = decide (-9223372036854775808 ≤ x.1 ∧ x.1 ≤ 9223372036854775807) := by
        simp [Lit.wf, IntKind.min, IntKind.max, IntKind.bits, IntKind.signed]
      rw [e, decide_eq_true_eq]; omega
    refine Go.WideElems.rd_mk (yv := (DataW.lit (.bool true), [])) (kl := Lit.int .i64 x.1) ?_ rfl
    simp [keyOf, mapKey, hk, hw]
  refine ⟨⟨?_, ⟨fun x hx => ?_, ?_, ?_⟩, fun x hx => ?_⟩, ?_⟩
  · simp only [List.size_toArray, List.length_map]
    exact Nat.le_trans h1 (Nat.le_trans hN (by decide))
  · obtain ⟨y, hy, rfl⟩ := List.mem_map.1 hx
    exact h.bl y hy
  · have := h.bn
    simpa [List.map_map, Function.comp_def, entK] using this
  · rw [List.map_map]
    have := h.nd
    rw [List.nodup_iff_pairwise_ne, List.pairwise_map] at this ⊢
    exact this.imp fun hne e => hne (by simpa [entK] using e)
  · obtain ⟨y, hy, rfl⟩ := List.mem_map.1 hx
    exact ⟨_, hrd y hy⟩
  · rw [List.map_map]
    exact List.map_congr_left fun x hx => Go.WideElems.rg_of (hrd x hx)

theorem sorts (m : Nat) : AnyZI.SortsIn Tryz.prog sortedI_ren Fence.wide m :=
  ⟨fun blk off cap ss W hH hblk hsz => callsIn_wide.2 (AnyM.slices_Sort_int sortI blk off cap ss W hH hblk hsz), fun p cap W => callsIn_wide.2 (AnyM.slices_Sort_int_none sortI p cap W)⟩

/-- A map's keys, as something to go through. -/
theorem Keys_string (r : Nat) (H : Hp) : HCalls Tryz.prog 124 #[.map (some r)] H fun v H' =>
    ∃ b, H b = none ∧ v = .func (.func 206) #[] #[.pointer (some ⟨b, 0, none⟩)] ∧ H' = H.set b (.obj (.cells #[.map (some r)] 45)) := fun w hw => by
  have c : CallsIn Fence.wide 5 Tryz.prog 124 #[.map (some r)] w fun e w' => e = .returned (.func (.func 206) #[] #[.pointer (some ⟨w.heap.size, 0, none⟩)]) ∧ w' = w.alloc (.cells #[.map (some r)] 45) :=
    AnyZI.keys_in keys_string Fence.wide 5 trivial rfl (some r) w
  refine (callsIn_wide.1 c).mono ?_
  rintro e w' ⟨rfl, rfl⟩
  obtain ⟨hn, hA⟩ := (At.refl hw).new (o := .obj (.cells #[.map (some r)] 45)) (x := .cells #[.map (some r)] 45) rfl
  exact ⟨_, _, rfl, ⟨w.heap.size, hn, rfl, rfl⟩, hA⟩

theorem Sorted_string {r b clock : Nat} {l : List (Int × Value × Nat)} {m : Int → Option Value} (hok : OkK l clock m) {N : Nat} (hN : N ≤ 1048576) (hd : ∀ k, (m k).isSome = true → 0 ≤ k ∧ k < N) (H : Hp) (hr : H r = some (kmap l clock)) (hb : H b = some (.obj (.cells #[.map (some r)] 45))) :
    HCalls Tryz.prog 123 #[.func (.func 206) #[] #[.pointer (some ⟨b, 0, none⟩)]] H fun v H' =>
      ∃ ks, KeysOf m ks ∧ ks.length ≤ N ∧ ((ks = [] ∧ v = .slice none 0 0 ∧ H' = H) ∨ ∃ b' cap, v = .slice (some ⟨b', 0, none⟩) ks.length cap ∧ ks.length ≤ cap ∧ H b' = none ∧ H' = H.set b' (.row (ks.map (Value.int .i64)) 3 cap)) := fun w hw => by
  have hu : Tryz.prog.underlying 3 = some (.int .i64) := by kernel_rfl
  obtain ⟨hfit, hrg⟩ := okk_fit (P := Tryz.prog) (k := 3) hu hok hN hd
  obtain ⟨hlen, hmem⟩ := okk_len hok hd
  have hheap := kmap.heap hr hw
  have hbh : w.heap[b]? = some (.cells #[.map (some r)] 45 (0, 0)) := by
    obtain ⟨o, ho, hh⟩ := hw _ _ hb
    cases hh
    exact ho
  have hown : w.ownsMap Tryz.prog 3 rNo r l.length (.map ((((l.map entK).toArray.toList).map (rg Tryz.prog 3 rNo)).foldr DataW.insert [])) := ⟨_, clock, hheap, hfit, by simp, rfl⟩
  rw [List.toList_toArray, hrg] at hown
  have hperm := Go.WideShapes.sorted_perm (l.map fun x => (Lit.int .i64 x.1, (DataW.lit (.bool true) : DataW Unit)))
  have hik : (intKeys (.map ((l.map fun x => (Lit.int .i64 x.1, (DataW.lit (.bool true) : DataW Unit))).foldr DataW.insert []))).Perm (l.map (·.1)) := by
    have := hperm.map fun p => intOf p.1
    rw [List.map_map] at this
    exact this
  have hsize : Maps.size (DataW.map ((l.map fun x => (Lit.int .i64 x.1, (DataW.lit (.bool true) : DataW Unit))).foldr DataW.insert [])) = l.length := by
    have := hperm.length_eq
    rw [List.length_map] at this
    exact this
  have hseq : SeqGives Fence.wide 2 Tryz.prog 206 #[.pointer (some ⟨b, 0, none⟩)] encZ (fun ss => ss.Perm (intKeys _)) (Maps.size _) w :=
    AnyZI.keys_gives (ρ := keys_string_ren) { keys_string with } Fence.wide _ trivial rfl (by omega) b r l.length _ w (Array.getElem?_eq_some_iff.1 hbh).1 (by simp [World.cell?, hbh]) hown
  have cS := AnyZI.sorted_in sortedI Fence.wide 5 trivial trivial trivial trivial rfl (by omega) (sorts _) (enters_of Tryz.func205 (by kernel_rfl) rfl) 206 #[.pointer (some ⟨b, 0, none⟩)] trivial (enters_of Tryz.func206 (by kernel_rfl) rfl) _ _ (by rw [hsize]; exact Nat.le_trans hlen (Nat.le_trans hN (by decide))) (by rw [hsize]; omega) w hseq
  change CallsIn _ _ Tryz.prog 123 _ _ _ at cS
  refine (callsIn_wide.1 cS).mono ?_
  rintro e w' ⟨v, ss, rfl, hS, hrow, hnil, hbel⟩
  have hp : (ss.mergeSort fun x y => decide (x ≤ y)).Perm (l.map (·.1)) := (List.mergeSort_perm _ _).trans (hS.trans hik)
  have hks : KeysOf m (ss.mergeSort fun x y => decide (x ≤ y)) := by
    refine ⟨?_, fun k => ?_⟩
    · have h1 := List.pairwise_mergeSort (le := fun x y : Int => decide (x ≤ y)) (fun a b c h1 h2 => by simp only [decide_eq_true_eq] at *; omega) (fun a b => by simp only [Bool.or_eq_true, decide_eq_true_eq]; omega) ss
      have h2 : (ss.mergeSort fun x y => decide (x ≤ y)).Nodup := hp.nodup_iff.2 hok.nd
      rw [List.nodup_iff_pairwise_ne] at h2
      refine (h1.and h2).imp ?_
      rintro a b ⟨h3, h4⟩
      simp only [decide_eq_true_eq] at h3
      omega
    · rw [hp.mem_iff, ← hok.get]
      constructor
      · intro hk
        obtain ⟨x, hx, rfl⟩ := List.mem_map.1 hk
        rw [getK_mem hok.nd hx]; rfl
      · intro hk
        cases hg : getK l k with
        | none => rw [hg] at hk; cases hk
        | some v =>
          obtain ⟨b, hb⟩ := getK_some hg
          exact List.mem_map.2 ⟨_, hb, rfl⟩
  have hkl : (ss.mergeSort fun x y => decide (x ≤ y)).length = ss.length := List.length_mergeSort _
  have hsl : ss.length ≤ N := by
    rw [← hkl, hp.length_eq, List.length_map]; exact hlen
  obtain ⟨hxl, hcase⟩ := hrow
  rcases hcase with ⟨rfl, h0⟩ | ⟨g, cap, cur, rfl, hg, hgh, hnc, hcm, hcs, htk⟩
  · have hss : ss = [] := hnil.1 rfl
    refine ⟨_, H, rfl, ⟨_, hks, by omega, .inl ⟨List.length_eq_zero_iff.1 (by rw [hkl, hss]; rfl), rfl, rfl⟩⟩, ?_⟩
    exact ⟨fun i o hi => by
      obtain ⟨o', h1, h2⟩ := hw i o hi
      exact ⟨o', (hbel.block i (Array.getElem?_eq_some_iff.1 h1).1).trans h1, h2⟩, hbel.size, hbel.os, hbel.tape, hbel.output, fun i hi h0 => ⟨h0, hbel.block i hi⟩⟩
  · have hgn : H g = none := by
      cases hx : H g with
      | none => rfl
      | some o =>
        obtain ⟨o', h1, _⟩ := hw g o hx
        have := (Array.getElem?_eq_some_iff.1 h1).1
        omega
    rw [Nat.mul_one] at hcs htk
    refine ⟨_, H.set g (.row ((ss.mergeSort fun x y => decide (x ≤ y)).map (Value.int .i64)) 3 cap), rfl, ⟨_, hks, by omega, .inr ⟨g, cap, by rw [hkl], by omega, hgn, rfl⟩⟩, ?_⟩
    refine ⟨fun i o hi => ?_, hbel.size, hbel.os, hbel.tape, hbel.output, fun i hi h0 => ⟨?_, hbel.block i hi⟩⟩
    · by_cases hig : i = g
      · subst hig
        rw [Hp.set_same] at hi
        cases hi
        refine ⟨_, hgh, cur.toList.drop ss.length, 0, 0, ?_, ?_, .inl rfl⟩
        · rw [← htk, List.take_append_drop, Array.toArray_toList]; rfl
        · rw [← htk, List.take_append_drop, Array.length_toList]; exact hcs
      · rw [Hp.set_other _ _ hig] at hi
        obtain ⟨o', h1, h2⟩ := hw i o hi
        exact ⟨o', (hbel.block i (Array.getElem?_eq_some_iff.1 h1).1).trans h1, h2⟩
    · rw [Hp.set_other _ _ (by omega)]; exact h0

end Go.Hw

end
section
/-! DskC -/
/- disk: Dirty, Boot, Crash, Fuse. -/
set_option maxRecDepth 100000
set_option linter.unusedSimpArgs false
set_option linter.unusedVariables false
set_option linter.unnecessarySimpa false
set_option linter.unusedSectionVars false
namespace Go.Proofs.YtghajiefpmcpmaaGreatDoor.Dsk
open Go Go.Hw Go.Form Go.Proofs.YtghajiefpmcpmaaGreatDoor.W

/-- Just sectors are in the cache. -/
def Dom (d : D) : Prop := ∀ k, (d.cache k).isSome = true → 0 ≤ k ∧ k < d.sec

theorem strM_some (m : Int → Option (List UInt8)) (k : Int) : (strM m k).isSome = (m k).isSome := by unfold strM; cases m k <;> rfl

theorem Dirty_tr {p : Nat} {d : D} (hok : Ok d) (hd : Dom d) : Tr Tryz.prog 46 #[.pointer (some ⟨p, 0, none⟩)] [Dk p d] fun v M =>
    ∃ ks A cap, KeysOf (strM d.cache) ks ∧ ks.length ≤ d.sec ∧ v = .slice A ks.length cap ∧ M = [Dk p d, Own 3 1 A ks.length cap (ks.map (Value.int .i64))] := fun H hs => by
  have hsec := hok.sec
  obtain ⟨r1, r2, r3, hs⟩ := Dk.open hs
  apply W_disk_Disk_Dirty.ok
  unfold W_disk_Disk_Dirty
  simp only [NN_some, Addr.add_lit', Addr.add_zero, Nat.zero_add, Nat.add_zero]
  refine hs.ld 0 rfl rfl ?_
  simp only [DI_int', DB_bool, DS_string, DP_pointer, DSl_slice, DM_map, DA_agg, DTup_tuple, DCons_cons, DNil_nil, NN_some, BIf_true, BIf_false, BIf_same, List.toList_toArray, Bool.not_true, Bool.not_false]
  refine (Keys_string r3 H).mono ?_
  rintro _ _ ⟨b, hb, rfl, rfl⟩
  have hs := hs.new hb (.obj (.cells #[.map (some r3)] 45))
  obtain ⟨H1, ⟨l, clock, hr1, hgk⟩, hle⟩ := hs.see 3 rfl
  refine (Sorted_string hgk (N := d.sec) (by omega) (fun k hk => hd k (by rw [strM_some] at hk; exact hk)) _ (hle _ _ hr1) (hs.get 4 rfl)).mono ?_
  rintro _ _ ⟨ks, hks, hkl, ⟨h0, rfl, rfl⟩ | ⟨b', cap, rfl, hcap, hn, rfl⟩⟩
  · simp only [DI_int', DB_bool, DS_string, DP_pointer, DSl_slice, DM_map, DA_agg, DTup_tuple, DCons_cons, DNil_nil, NN_some, BIf_true, BIf_false, BIf_same, List.toList_toArray, Bool.not_true, Bool.not_false]
    subst h0
    refine ⟨_, ⟨[], .none, 0, hks, hkl, rfl, rfl⟩, ?_⟩
    have hs2 : Sep (Own 3 1 .none 0 0 [] :: [pts p (dskO d r1 r2 r3), Mp r1 (strM d.safe), Mp r2 (tchM d.tch), Mp r3 (strM d.cache)]) _ := ⟨fun _ => none, _, fun _ _ h => (nomatch h), Hp.le_refl _, fun _ => .inl rfl, Own.none _ _ _, hs.re [0, 1, 2, 3] rfl⟩
    exact Dk.shut (hs2.re [1, 2, 3, 4, 0] rfl)
  · simp only [DI_int', DB_bool, DS_string, DP_pointer, DSl_slice, DM_map, DA_agg, DTup_tuple, DCons_cons, DNil_nil, NN_some, BIf_true, BIf_false, BIf_same, List.toList_toArray, Bool.not_true, Bool.not_false]
    have hs2 := hs.new hn (.row (ks.map (Value.int .i64)) 3 cap)
    have hs3 := hs2.turn 5 (B := Own 3 1 (some ⟨b', 0, none⟩) ks.length cap (ks.map (Value.int .i64))) rfl fun H1 hH => ⟨by simp, .inr ⟨b', cap, rfl, hH, by omega⟩⟩
    exact ⟨_, ⟨ks, some ⟨b', 0, none⟩, cap, hks, hkl, rfl, rfl⟩, Dk.shut (hs3.re [0, 1, 2, 3, 5] rfl)⟩

theorem Crash_tr {p : Nat} {d : D} : Tr Tryz.prog 36 #[.pointer (some ⟨p, 7, none⟩)] [Dk p d] fun v M => v = .tuple #[] ∧ M = [Dk p { d with down := true, fuse := 0 }] := fun H hs => by
  obtain ⟨r1, r2, r3, hs⟩ := Dk.open hs
  apply W_disk_power_Crash.ok
  unfold W_disk_power_Crash
  simp only [NN_some, Addr.add_lit', Addr.add_zero, Nat.zero_add, Nat.add_zero]
  refine hs.st 0 rfl (by show 7 < 10; omega) rfl fun H hs => ?_
  refine hs.st 0 rfl (by show 8 < 10; omega) rfl fun H hs => ?_
  exact ⟨_, ⟨trivial, rfl⟩, Dk.shut (d := { d with down := true, fuse := 0 }) hs⟩

theorem Fuse_tr {p : Nat} {d : D} (n : Int) : Tr Tryz.prog 33 #[.pointer (some ⟨p, 7, none⟩), .int .i64 n] [Dk p d] fun v M => v = .tuple #[] ∧ M = [Dk p { d with fuse := n.toNat }] := fun H hs => by
  obtain ⟨r1, r2, r3, hs⟩ := Dk.open hs
  apply W_disk_power_Fuse.ok
  unfold W_disk_power_Fuse
  simp only [NN_some, Addr.add_lit', Addr.add_zero, Nat.zero_add, Nat.add_zero]
  rw [show (if (0 : Int) > n then (0 : Int) else n) = ((n.toNat : Nat) : Int) by split <;> omega]
  refine hs.st 0 rfl (by show 8 < 10; omega) rfl fun H hs => ?_
  exact ⟨_, ⟨trivial, rfl⟩, Dk.shut (d := { d with fuse := n.toNat }) hs⟩

/-- What is safe behind a boot. -/
def bootS (c : Int → Option (List UInt8)) : (Int → Option (List UInt8)) → List Int → List Bool → (Int → Option (List UInt8))
  | s, k :: ks, b :: bs => bootS c (if b then updB s k ((c k).getD []) else s) ks bs
  | s, _, _ => s
def D.boot (d : D) (ks : List Int) (keep : List Bool) : D := { d with safe := bootS d.cache d.safe ks keep, cache := fun _ => none, down := false }

def boolVals (l : List Bool) : List Value := l.map Value.bool

theorem bootS_nil (c s : Int → Option (List UInt8)) (ks : List Int) : bootS c s ks [] = s := by cases ks <;> rfl

theorem Boot_loop (K : Value → Hp → Prop) {p r1 r2 r3 : Nat} {d : D} {A A4 : Option Addr} {n4 m n m4 : Nat} {all : List Int} {keepAll : List Bool} {R : As} (hR : ∀ H, R H → Cells H A (boolVals keepAll)) (hn : n = keepAll.length) (hn4 : n4 = all.length) (hn40 : n4 ≤ 1048576) (hall : ∀ k ∈ all, (d.cache k).isSome = true) (sF : Int → Option (List UInt8))
    (hK : ∀ H, Sep [pts p (dskO { d with down := false } r1 r2 r3), Mp r1 (strM sF), Mp r2 (tchM d.tch), Mp r3 (strM fun _ => none), Own 3 1 A4 n4 m4 (all.map (Value.int .i64)), R] H → K (.int .i64 0) H) :
    ∀ (ks : List Int) (j : Nat) (s : Int → Option (List UInt8)) (H : Hp), all.drop j = ks → j ≤ n4 → bootS d.cache s ks (keepAll.drop j) = sF →
      Sep [pts p (dskO d r1 r2 r3), Mp r1 (strM s), Mp r2 (tchM d.tch), Mp r3 (strM d.cache), Own 3 1 A4 n4 m4 (all.map (Value.int .i64)), R] H →
      W_disk_Disk_Boot.l4 K (ks.length + 1) (some ⟨p, 0, none⟩) A n m A4 n4 m4 (n4 : Int) (j : Int) H
  | [], j, s, H, hd, hj, hb, hs => by
    have hjn : j = n4 := by
      have := congrArg List.length hd
      simp at this; omega
    subst hjn
    unfold W_disk_Disk_Boot.l4
    refine BIf_dneg (by omega) ?_
    simp only [NN_some, Addr.add_lit', Addr.add_zero, Nat.zero_add, Nat.add_zero]
    refine hs.ld 0 rfl rfl ?_
    simp only [DI_int', DB_bool, DS_string, DP_pointer, DSl_slice, DM_map, DA_agg, DTup_tuple, DCons_cons, DNil_nil, NN_some, BIf_true, BIf_false, BIf_same, List.toList_toArray, Bool.not_true, Bool.not_false]
    refine hs.clearK u_int u_strm 3 rfl fun H hs => ?_
    refine hs.st 0 rfl (by show 7 < 10; omega) rfl fun H hs => ?_
    have hb' : s = sF := hb
    rw [hb'] at hs
    exact hK H hs
  | k :: ks, j, s, H, hd, hj, hb, hs => by
    have hjl : j < all.length := by
      have := congrArg List.length hd
      simp at this; omega
    have hget : all[j] = k := by
      have := List.drop_eq_getElem_cons hjl
      rw [this] at hd
      exact (List.cons.inj hd).1
    have hrest : all.drop (j + 1) = ks := by
      have := List.drop_eq_getElem_cons hjl
      rw [this] at hd
      exact (List.cons.inj hd).2
    have hkc := hall k (by rw [← hget]; exact List.getElem_mem _)
    unfold W_disk_Disk_Boot.l4
    refine BIf_dpos (by omega) ?_
    refine (hs.own 4 rfl).rd1 (v := .int .i64 k) rfl (by rw [List.getElem?_map, List.getElem?_eq_getElem hjl, hget]; rfl) ?_
    simp only [DI_int', DB_bool, DS_string, DP_pointer, DSl_slice, DM_map, DA_agg, DTup_tuple, DCons_cons, DNil_nil, NN_some, BIf_true, BIf_false, BIf_same, List.toList_toArray, Bool.not_true, Bool.not_false]
    by_cases hjk : j < n
    · refine BIf_dpos (by omega) ?_
      have hkl : j < keepAll.length := by omega
      have hkd : keepAll.drop j = keepAll[j] :: keepAll.drop (j + 1) := List.drop_eq_getElem_cons hkl
      rw [hkd] at hb
      obtain ⟨H1, hR1, hle⟩ := hs.see 5 (A := R) rfl
      refine ((hR H1 hR1).le hle).read (v := .bool keepAll[j]) (by unfold boolVals; rw [List.getElem?_map, List.getElem?_eq_getElem hkl]; rfl) rfl (by unfold boolVals; rw [List.length_map]; omega) ?_
      simp only [DI_int', DB_bool, DS_string, DP_pointer, DSl_slice, DM_map, DA_agg, DTup_tuple, DCons_cons, DNil_nil, NN_some, BIf_true, BIf_false, BIf_same, List.toList_toArray, Bool.not_true, Bool.not_false]
      cases hbv : keepAll[j] with
      | true =>
        rw [hbv] at hb
        try simp only [DI_int', DB_bool, DS_string, DP_pointer, DSl_slice, DM_map, DA_agg, DTup_tuple, DCons_cons, DNil_nil, NN_some, BIf_true, BIf_false, BIf_same, List.toList_toArray, Bool.not_true, Bool.not_false]
        try simp only [NN_some, Addr.add_lit', Addr.add_zero, Nat.zero_add, Nat.add_zero]
        refine hs.ld 0 rfl rfl ?_
        simp only [DI_int', DB_bool, DS_string, DP_pointer, DSl_slice, DM_map, DA_agg, DTup_tuple, DCons_cons, DNil_nil, NN_some, BIf_true, BIf_false, BIf_same, List.toList_toArray, Bool.not_true, Bool.not_false]
        refine hs.ld 0 rfl rfl ?_
        simp only [DI_int', DB_bool, DS_string, DP_pointer, DSl_slice, DM_map, DA_agg, DTup_tuple, DCons_cons, DNil_nil, NN_some, BIf_true, BIf_false, BIf_same, List.toList_toArray, Bool.not_true, Bool.not_false]
        obtain ⟨jz, hz1, hz2⟩ := z_str
        obtain ⟨H1, ⟨l, clock, hr1, hgk⟩, hle⟩ := hs.see 3 rfl
        refine lookupK u_int u_strm hz1 hz2 (hle _ _ hr1) false ?_
        rw [hgk.get]
        cases hck : d.cache k with
        | none => rw [hck] at hkc; cases hkc
        | some bs =>
          rw [show strM d.cache k = some (strV bs) by unfold strM; rw [hck]; rfl]
          show DS (.string ⟨bs.toArray⟩) _
          simp only [DI_int', DB_bool, DS_string, DP_pointer, DSl_slice, DM_map, DA_agg, DTup_tuple, DCons_cons, DNil_nil, NN_some, BIf_true, BIf_false, BIf_same, List.toList_toArray, Bool.not_true, Bool.not_false]
          refine hs.upd u_int u_strm 1 rfl fun H hs => ?_
          rw [show (Value.string ⟨bs.toArray⟩) = strV bs from rfl, updB_M] at hs
          rw [i64w (x := (j : Int) + 1) (by omega) (by omega)]
          refine Boot_loop K hR hn hn4 hn40 hall sF hK ks (j + 1) (updB s k bs) H hrest (by omega) ?_ hs
          rw [← hb]
          show _ = bootS d.cache (if true then updB s k ((d.cache k).getD []) else s) ks _
          rw [hck]; rfl
      | false =>
        rw [hbv] at hb
        try simp only [DI_int', DB_bool, DS_string, DP_pointer, DSl_slice, DM_map, DA_agg, DTup_tuple, DCons_cons, DNil_nil, NN_some, BIf_true, BIf_false, BIf_same, List.toList_toArray, Bool.not_true, Bool.not_false]
        rw [i64w (x := (j : Int) + 1) (by omega) (by omega)]
        exact Boot_loop K hR hn hn4 hn40 hall sF hK ks (j + 1) s H hrest (by omega) hb hs
    · refine BIf_dneg (by omega) ?_
      rw [i64w (x := (j : Int) + 1) (by omega) (by omega)]
      rw [List.drop_eq_nil_of_le (by omega), bootS_nil] at hb
      refine Boot_loop K hR hn hn4 hn40 hall sF hK ks (j + 1) s H hrest (by omega) ?_ hs
      rw [List.drop_eq_nil_of_le (by omega), bootS_nil]
      exact hb

/-- The power comes again. -/
theorem Boot_tr {p : Nat} {d : D} (hok : Ok d) (hd : Dom d) (hdn : d.down = true) (A : Option Addr) (n m : Nat) (keep : List Bool) (hn : n = keep.length) (R : As) (hR : ∀ H, R H → Cells H A (boolVals keep)) :
    Tr Tryz.prog 37 #[.pointer (some ⟨p, 0, none⟩), .slice A n m] [Dk p d, R] fun v M => ∃ ks, KeysOf (strM d.cache) ks ∧ v = .int .i64 0 ∧ M = [Dk p (D.boot d ks keep), R] := fun H hs => by
  have hsec := hok.sec
  obtain ⟨r1, r2, r3, hp⟩ := Dk.see hs 0 rfl
  apply W_disk_Disk_Boot.ok
  unfold W_disk_Disk_Boot
  simp only [NN_some, Addr.add_lit', Addr.add_zero, Nat.zero_add, Nat.add_zero]
  refine Ld_obj hp (v := .bool d.down) rfl ?_
  rw [hdn]
  simp only [DI_int', DB_bool, DS_string, DP_pointer, DSl_slice, DM_map, DA_agg, DTup_tuple, DCons_cons, DNil_nil, NN_some, BIf_true, BIf_false, BIf_same, List.toList_toArray, Bool.not_true, Bool.not_false]
  refine (Dirty_tr hok hd).use hs [0] rfl rfl ?_
  rintro _ _ H ⟨ks, A4, cap, hks, hkl, rfl, rfl⟩ hs
  simp only [DI_int', DB_bool, DS_string, DP_pointer, DSl_slice, DM_map, DA_agg, DTup_tuple, DCons_cons, DNil_nil, NN_some, BIf_true, BIf_false, BIf_same, List.toList_toArray, Bool.not_true, Bool.not_false]
  obtain ⟨r1, r2, r3, hs⟩ := Dk.open hs
  refine ⟨ks.length + 1, ?_⟩
  refine Boot_loop _ (d := d) (A4 := A4) (m4 := cap) (all := ks) (keepAll := keep) (R := R) hR hn rfl (by omega) (fun k hk => by have := (hks.mem k).1 hk; rw [strM_some] at this; exact this) (bootS d.cache d.safe ks keep) (fun H hs => ⟨_, ⟨ks, hks, rfl, rfl⟩, ?_⟩) ks 0 d.safe H rfl (Nat.zero_le _) rfl hs
  exact Dk.shut (d := D.boot d ks keep) (hs.re [0, 1, 2, 3, 5] rfl)

theorem Boot_up {p : Nat} {d : D} (hdn : d.down = false) (A : Option Addr) (n m : Nat) {L : List As} {H : Hp} (hs : Sep L H) (i : Nat) (hi : L[i]? = some (Dk p d)) :
    HCalls Tryz.prog 37 #[.pointer (some ⟨p, 0, none⟩), .slice A n m] H (RetE (.int .i64 5) H) := by
  obtain ⟨r1, r2, r3, hp⟩ := Dk.see hs i hi
  apply W_disk_Disk_Boot.ok
  unfold W_disk_Disk_Boot
  simp only [NN_some, Addr.add_lit', Addr.add_zero, Nat.zero_add, Nat.add_zero]
  refine Ld_obj hp (v := .bool d.down) rfl ?_
  rw [hdn]
  simp only [DI_int', DB_bool, DS_string, DP_pointer, DSl_slice, DM_map, DA_agg, DTup_tuple, DCons_cons, DNil_nil, NN_some, BIf_true, BIf_false, BIf_same, List.toList_toArray, Bool.not_true, Bool.not_false]
  exact RetE.mk _ _

end Go.Proofs.YtghajiefpmcpmaaGreatDoor.Dsk

end
section
/-! DskD -/
/- disk: what stays; the law DiskMakes. -/
set_option maxRecDepth 100000
set_option linter.unusedSimpArgs false
set_option linter.unusedVariables false
set_option linter.unnecessarySimpa false
set_option linter.unusedSectionVars false

namespace Go.Proofs.YtghajiefpmcpmaaGreatDoor.Dsk
open Go Go.Hw Go.Form Go.Proofs.YtghajiefpmcpmaaGreatDoor.W

theorem p_ops : plain64 Tryz.prog 43 3 := ⟨by kernel_rfl, by kernel_rfl, by kernel_rfl, by kernel_rfl⟩

theorem bootS_or {c : Int → Option (List UInt8)} : ∀ (ks : List Int) (bs : List Bool) (s : Int → Option (List UInt8)), (∀ k ∈ ks, (c k).isSome = true) → ∀ i, bootS c s ks bs i = s i ∨ ((c i).isSome = true ∧ bootS c s ks bs i = c i)
  | [], bs, s, _, i => .inl rfl
  | k :: ks, [], s, _, i => .inl rfl
  | k :: ks, b :: bs, s, hk, i => by
    have ih := bootS_or ks bs (if b then updB s k ((c k).getD []) else s) (fun k hm => hk k (by simp [hm])) i
    show bootS c (if b then updB s k ((c k).getD []) else s) ks bs i = s i ∨ _ ∧ bootS c (if b then updB s k ((c k).getD []) else s) ks bs i = c i
    rcases ih with h | h
    · rw [h]
      cases b with
      | false => exact .inl rfl
      | true =>
        by_cases e : i = k
        · subst e
          refine .inr ⟨hk i (by simp), ?_⟩
          have := hk i (by simp)
          cases hc : c i with
          | none => rw [hc] at this; cases this
          | some x => simp [updB]
        · exact .inl (by simp [updB, e])
    · exact .inr h

theorem Ok.writeD {d : D} (h : Ok d) (i : Int) (bs : List UInt8) : Ok (d.writeD i bs) := by
  unfold D.writeD
  split
  · exact h
  · split
    · exact h
    · rename_i hl
      have hb := Ok.burnt h
      split
      · exact hb
      · unfold D.wrote
        refine ⟨hb.sec, hb.size, hb.big, hb.per, hb.safe, fun k b hk => ?_, hb.fz⟩
        have hk' : (if k = i then some bs else d.cache k) = some b := hk
        have hsz : d.burnt.size = d.size := (burnt_rd d).2.2.2.1
        split at hk'
        · cases hk'; show bs.length = d.burnt.size; rw [hsz]; omega
        · show b.length = d.burnt.size; rw [hsz]; exact h.cache k b hk'
theorem Dom.writeD {d : D} (h : Dom d) (i : Int) (bs : List UInt8) : Dom (d.writeD i bs) := by
  have hbr := burnt_rd d
  unfold D.writeD
  split
  · exact h
  · rename_i hc
    split
    · exact h
    · split
      · intro k hk
        rw [hbr.2.2.2.2.2.2.1] at hk
        rw [hbr.2.2.2.2.1]
        exact h k hk
      · intro k hk
        have hk' : (if k = i then some bs else d.cache k).isSome = true := hk
        show 0 ≤ k ∧ k < (d.burnt.sec : Int)
        rw [hbr.2.2.2.2.1]
        split at hk'
        · rename_i e; subst e
          have := chk_in (d := d) (i := k) (by simpa using hc)
          omega
        · exact h k hk'
theorem Ok.crash {d : D} (h : Ok d) : Ok { d with down := true, fuse := 0 } := ⟨h.sec, h.size, h.big, h.per, h.safe, h.cache, Nat.zero_le _⟩
theorem Ok.fused {d : D} (h : Ok d) (n : Nat) (hn : n ≤ 9223372036854775807) : Ok { d with fuse := n } := ⟨h.sec, h.size, h.big, h.per, h.safe, h.cache, hn⟩
theorem Ok.boot {d : D} (h : Ok d) {ks : List Int} (hk : KeysOf (strM d.cache) ks) (keep : List Bool) : Ok (D.boot d ks keep) := by
  refine ⟨h.sec, h.size, h.big, h.per, fun k b hb => ?_, fun k b hb => (by cases hb), h.fz⟩
  have hb' : bootS d.cache d.safe ks keep k = some b := hb
  rcases bootS_or ks keep d.safe (fun k hm => by have := (hk.mem k).1 hm; rw [strM_some] at this; exact this) k with e | ⟨_, e⟩
  · rw [e] at hb'; exact h.safe k b hb'
  · rw [e] at hb'; exact h.cache k b hb'
theorem Dom.boot (d : D) (ks : List Int) (keep : List Bool) : Dom (D.boot d ks keep) := fun k hk => by cases hk
theorem Dom.fresh (sec size : Nat) : Dom (D.fresh sec size) := fun k hk => by cases hk

def b32 : List UInt8 := 7 :: List.replicate 31 0

end Go.Proofs.YtghajiefpmcpmaaGreatDoor.Dsk

end
section
/-! DskE -/
/- disk: Sync; and what the laws of the layer do with a disk. -/
set_option maxRecDepth 100000
set_option linter.unusedSimpArgs false
set_option linter.unusedVariables false
set_option linter.unnecessarySimpa false
set_option linter.unusedSectionVars false
namespace Go.Proofs.YtghajiefpmcpmaaGreatDoor.Dsk
open Go Go.Hw Go.Form Go.Proofs.YtghajiefpmcpmaaGreatDoor.W

/-- A map's entries over another one's. -/
def mergeB (s c : Int → Option (List UInt8)) : Int → Option (List UInt8) := fun i => match c i with | some b => some b | none => s i

theorem born_inj {l : List (Int × Value × Nat)} (h : (l.map (·.2.2)).Nodup) {x y : Int × Value × Nat} (hx : x ∈ l) (hy : y ∈ l) (e : x.2.2 = y.2.2) : x = y := by
  induction l with
  | nil => simp at hx
  | cons z l ih =>
    simp only [List.map_cons, List.nodup_cons] at h
    rcases List.mem_cons.1 hx with ex | hx'
    · rcases List.mem_cons.1 hy with ey | hy'
      · rw [ex, ey]
      · exact absurd (by rw [← ex, e]; exact List.mem_map_of_mem hy') h.1
    · rcases List.mem_cons.1 hy with ey | hy'
      · exact absurd (by rw [← ey, ← e]; exact List.mem_map_of_mem hx') h.1
      · exact ih h.2 hx' hy'

theorem mcopy_loop (K : Value → Hp → Prop) {r1 r2 it cl : Nat} {c s : Int → Option (List UInt8)} {l : List (Int × Value × Nat)} (hok : OkK l cl (strM c))
    (hK : ∀ H, Sep [Mp r1 (strM (mergeB s c)), pts r2 (kmap l cl)] H → K (.tuple #[]) H) :
    ∀ (t : Nat) (sj : Int → Option (List UInt8)) (seen : Array Nat) (last : Nat) (H : Hp), (unseenK l seen).length ≤ t → (∀ x ∈ l, x.2.2 < last) → (∀ i, (∀ x ∈ unseenK l seen, x.1 ≠ i) → sj i = mergeB s c i) →
      Sep [Mp r1 (strM sj), pts r2 (kmap l cl), pts it (iterO r2 cl seen last)] H → W_maps_Copy_map_int_string_map_int_string_int_string.l1 K (t + 1) (some r1) (.pointer (some ⟨it, 0, none⟩)) H := fun t => by
  induction t with
  | zero =>
    intro sj seen last H ht hlast hsj hs
    unfold W_maps_Copy_map_int_string_map_int_string_int_string.l1
    have h0 : unseenK l seen = [] := List.length_eq_zero_iff.1 (by omega)
    refine next_K (hs.get 2 rfl) (hs.get 1 rfl) hok.bl hlast (fun x hx => by rw [h0] at hx; simp at hx) (fun _ => ?_)
    simp only [Ex, List.getElem?_toArray, List.getElem?_cons_zero, DB_bool, BIf_false]
    refine hK H ?_
    have : sj = mergeB s c := funext fun i => hsj i (fun x hx => by rw [h0] at hx; simp at hx)
    rw [← this]
    exact hs.re [0, 1] rfl
  | succ t ih =>
    intro sj seen last H ht hlast hsj hs
    unfold W_maps_Copy_map_int_string_map_int_string_int_string.l1
    refine next_K (hs.get 2 rfl) (hs.get 1 rfl) hok.bl hlast (fun x hx => ?_) (fun h0 => ?_)
    · simp only [Ex, List.getElem?_toArray, List.getElem?_cons_zero, DB_bool, BIf_true]
      have hxl : x ∈ l := (List.mem_filter.1 hx).1
      have hs := hs.put 2 (iterO r2 cl (seen.push x.2.2) cl) rfl
      refine entry_K (hs.get 2 rfl) (hs.get 1 rfl) hxl (by simp) hok.bn ?_
      simp only [Ex, List.getElem?_toArray, List.getElem?_cons_zero, List.getElem?_cons_succ]
      have hg : strM c x.1 = some x.2.1 := by rw [← hok.get, getK_mem hok.nd hxl]
      obtain ⟨b, hcb, hxb⟩ : ∃ b, c x.1 = some b ∧ x.2.1 = strV b := by
        unfold strM at hg
        cases hc : c x.1 with
        | none => rw [hc] at hg; cases hg
        | some b => rw [hc] at hg; exact ⟨b, rfl, (Option.some.inj hg).symm⟩
      rw [hxb]
      show DI .i64 (.int .i64 x.1) fun x1 => DS (.string ⟨b.toArray⟩) _
      simp only [DI_int', DB_bool, DS_string, DP_pointer, DSl_slice, DM_map, DA_agg, DTup_tuple, DCons_cons, DNil_nil, NN_some, BIf_true, BIf_false, BIf_same, List.toList_toArray, Bool.not_true, Bool.not_false]
      refine hs.upd u_int u_strm 0 rfl fun H hs => ?_
      rw [show (Value.string ⟨b.toArray⟩) = strV b from rfl, updB_M] at hs
      have hlt := unseenK_lt hx
      refine ih (updB sj x.1 b) (seen.push x.2.2) cl H (by omega) hok.bl (fun i hi => ?_) hs
      by_cases e : i = x.1
      · subst e
        unfold mergeB updB
        rw [hcb]; simp
      · unfold updB
        rw [if_neg e]
        refine hsj i fun y hy ey => ?_
        obtain ⟨hyl, hys⟩ := List.mem_filter.1 hy
        have hne : y.2.2 ≠ x.2.2 := fun e2 => e (by rw [← ey, born_inj hok.bn hyl hxl e2])
        refine hi y (List.mem_filter.2 ⟨hyl, ?_⟩) ey
        rw [Array.contains_push]
        simp only [Bool.not_eq_true', Bool.or_eq_false_iff] at hys ⊢
        exact ⟨hys, by simpa using hne⟩
    · simp only [Ex, List.getElem?_toArray, List.getElem?_cons_zero, DB_bool, BIf_false]
      refine hK H ?_
      have : sj = mergeB s c := funext fun i => hsj i (fun x hx => by rw [h0] at hx; simp at hx)
      rw [← this]
      exact hs.re [0, 1] rfl

theorem mcopy_tr (r1 r2 : Nat) (s c : Int → Option (List UInt8)) : Tr Tryz.prog 176 #[.map (some r1), .map (some r2)] [Mp r1 (strM s), Mp r2 (strM c)] fun v M =>
    v = .tuple #[] ∧ M = [Mp r1 (strM (mergeB s c)), Mp r2 (strM c)] := fun H hs => by
  have hs0 := hs
  obtain ⟨H1, ⟨l, clock, hr1, hok⟩, hle⟩ := hs.see 1 rfl
  apply W_maps_Copy_map_int_string_map_int_string_int_string.ok
  unfold W_maps_Copy_map_int_string_map_int_string_int_string
  refine range_K u_strm (hle _ _ hr1) fun it hit => ?_
  have hs1 : Sep [Mp r1 (strM s), pts r2 (kmap l clock)] H := hs.turn' 1 rfl fun H2 hle2 hA => by
    obtain ⟨l2, clock2, h2, _⟩ := hA
    have e1 := hle2 _ _ h2
    have e2 := hle _ _ hr1
    rw [e1] at e2
    show H2 r2 = some (kmap l clock)
    rw [h2, e2]
  have hs2 := hs1.new hit (iterO r2 clock #[] clock)
  refine ⟨l.length + 1, ?_⟩
  refine mcopy_loop _ (s := s) hok (fun H hs => ⟨_, ⟨rfl, rfl⟩, hs.turn 1 rfl fun H2 hA => ⟨l, clock, hA, hok⟩⟩) l.length s #[] clock _ ?_ hok.bl (fun i hi => ?_) hs2
  · unfold unseenK; exact List.length_filter_le _ _
  · unfold mergeB
    have hn : c i = none := by
      have : getK l i = none := getK_none.2 fun x hx => hi x (by unfold unseenK; simp [hx])
      rw [hok.get] at this
      unfold strM at this
      cases hc : c i with
      | none => rfl
      | some b => rw [hc] at this; cases this
    rw [hn]

/-- A disk whose sectors are safe. -/
def D.synced (d : D) : D := { d.burnt with sy := d.sy + 1, safe := mergeB d.safe d.cache, cache := fun _ => none }
def D.syncE (d : D) : Int := if d.down then 8 else if d.burns then 8 else 0
def D.syncD (d : D) : D := if d.down then d else if d.burns then d.burnt else d.synced

theorem Sync_tr {p : Nat} {d : D} (hok : Ok d) (ho : d.sy ≤ 4611686018427387904) : Tr Tryz.prog 102 #[.pointer (some ⟨p, 0, none⟩)] [Dk p d] fun v M => v = .int .i64 d.syncE ∧ M = [Dk p d.syncD] := fun H hs => by
  have hf := hok.fz
  obtain ⟨r1, r2, r3, hp⟩ := Dk.see hs 0 rfl
  apply W_disk_Disk_Sync.ok
  unfold W_disk_Disk_Sync
  simp only [NN_some, Addr.add_lit', Addr.add_zero, Nat.zero_add, Nat.add_zero]
  refine Ld_obj hp (v := .bool d.down) rfl ?_
  simp only [DI_int', DB_bool, DS_string, DP_pointer, DSl_slice, DM_map, DA_agg, DTup_tuple, DCons_cons, DNil_nil, NN_some, BIf_true, BIf_false, BIf_same, List.toList_toArray, Bool.not_true, Bool.not_false]
  cases hdn : d.down with
  | true => exact BIf_pos rfl ⟨_, ⟨by simp [D.syncE, hdn], by simp [D.syncD, hdn]⟩, hs⟩
  | false =>
    refine BIf_neg rfl ?_
    refine (burns_tr hf).use hs [0] rfl rfl ?_
    rintro _ _ H ⟨rfl, rfl⟩ hs
    simp only [DI_int', DB_bool, DS_string, DP_pointer, DSl_slice, DM_map, DA_agg, DTup_tuple, DCons_cons, DNil_nil, NN_some, BIf_true, BIf_false, BIf_same, List.toList_toArray, Bool.not_true, Bool.not_false]
    cases hb : d.burns with
    | true => exact BIf_pos rfl ⟨_, ⟨by simp [D.syncE, hdn, hb], by simp [D.syncD, hdn, hb]; rfl⟩, hs⟩
    | false =>
      refine BIf_neg rfl ?_
      have hbr := burnt_rd d
      obtain ⟨r1, r2, r3, hs⟩ := Dk.open hs
      try simp only [NN_some, Addr.add_lit', Addr.add_zero, Nat.zero_add, Nat.add_zero]
      refine hs.ld 0 rfl rfl ?_
      simp only [DI_int', DB_bool, DS_string, DP_pointer, DSl_slice, DM_map, DA_agg, DTup_tuple, DCons_cons, DNil_nil, NN_some, BIf_true, BIf_false, BIf_same, List.toList_toArray, Bool.not_true, Bool.not_false]
      refine hs.st 0 rfl (by show 5 < 10; omega) rfl fun H hs => ?_
      rw [hbr.2.2.1] at hs
      rw [i64w (x := (d.sy : Int) + 1) (by omega) (by omega)] at hs
      refine hs.ld 0 rfl rfl ?_
      simp only [DI_int', DB_bool, DS_string, DP_pointer, DSl_slice, DM_map, DA_agg, DTup_tuple, DCons_cons, DNil_nil, NN_some, BIf_true, BIf_false, BIf_same, List.toList_toArray, Bool.not_true, Bool.not_false]
      refine hs.ld 0 rfl rfl ?_
      simp only [DI_int', DB_bool, DS_string, DP_pointer, DSl_slice, DM_map, DA_agg, DTup_tuple, DCons_cons, DNil_nil, NN_some, BIf_true, BIf_false, BIf_same, List.toList_toArray, Bool.not_true, Bool.not_false]
      rw [hbr.2.2.2.2.2.1, hbr.2.2.2.2.2.2.1] at hs
      refine (mcopy_tr r1 r3 d.safe d.cache).use hs [1, 3] rfl rfl ?_
      rintro _ _ H ⟨rfl, rfl⟩ hs
      try simp only [DI_int', DB_bool, DS_string, DP_pointer, DSl_slice, DM_map, DA_agg, DTup_tuple, DCons_cons, DNil_nil, NN_some, BIf_true, BIf_false, BIf_same, List.toList_toArray, Bool.not_true, Bool.not_false]
      refine hs.ld 2 rfl rfl ?_
      simp only [DI_int', DB_bool, DS_string, DP_pointer, DSl_slice, DM_map, DA_agg, DTup_tuple, DCons_cons, DNil_nil, NN_some, BIf_true, BIf_false, BIf_same, List.toList_toArray, Bool.not_true, Bool.not_false]
      refine hs.clearK u_int u_strm 1 rfl fun H hs => ?_
      refine ⟨_, ⟨by simp [D.syncE, hdn, hb], by simp [D.syncD, hdn, hb]; rfl⟩, ?_⟩
      exact Dk.shut (d := d.synced) (r1 := r1) (r2 := r2) (r3 := r3) (hs.re [2, 0, 3, 1] rfl)

end Go.Proofs.YtghajiefpmcpmaaGreatDoor.Dsk

end
section
/-! DskF -/
/- disk: what the law DiskSafe does with a disk. -/
set_option maxRecDepth 100000
set_option linter.unusedSimpArgs false
set_option linter.unusedVariables false
set_option linter.unnecessarySimpa false
set_option linter.unusedSectionVars false
namespace Go.Proofs.YtghajiefpmcpmaaGreatDoor.Dsk
open Go Go.Hw Go.Form Go.Proofs.YtghajiefpmcpmaaGreatDoor.W

theorem CellsS.rdA {s : Nat} {H : Hp} {A : Option Addr} {rows : List (List Value)} (h : CellsS s H A rows) {i : Nat} {r : List Value} (hi : rows[i]? = some r) (hr : r.length = s) {x : Int} (hx : x = i) {n : Nat} (hn : rows.length ≤ n) {K : List Value → Prop} (k : K r) :
    ixI x n (NN A fun a => LdA H (a.add (x.toNat * s)) s K) := by
  obtain ⟨a, rfl, hc⟩ := h i r hi
  subst hx
  have := (List.getElem?_eq_some_iff.1 hi).1
  refine ⟨by omega, by omega, ?_⟩
  rw [Int.toNat_natCast]
  have hcells : Cells H (some (a.add (i * s))) r := fun j v hj => ⟨_, rfl, by rw [add_add]; exact hc j v hj⟩
  have := hcells.cells?
  rw [hr] at this
  show LdA H (a.add (i * s)) s K
  unfold LdA
  rw [this]
  exact k

/-- Something that is done. -/
structure Act where
  k : Int
  i : Int
  A : Option Addr
  n : Nat
  m : Nat
  b : List UInt8
  A' : Option Addr
  n' : Nat
  m' : Nat
  ks : List Bool
def actRow (a : Act) : List Value := [.int .i64 a.k, .int .i64 a.i, .slice a.A a.n a.m, .slice a.A' a.n' a.m']
structure OkA (H : Hp) (a : Act) : Prop where
  n : a.n = a.b.length
  b : Cells H a.A (byteVals a.b)
  n' : a.n' = a.ks.length
  ks : Cells H a.A' (boolVals a.ks)
  i : -9223372036854775808 ≤ a.i ∧ a.i ≤ 9223372036854775807

/-- Bytes, as long as a sector. -/
def laidB (bs : List UInt8) : List UInt8 := bs.take 32 ++ List.replicate (32 - bs.length) 0
theorem laidB_len (bs : List UInt8) : (laidB bs).length = 32 := by
  unfold laidB
  rw [List.length_append, List.length_take, List.length_replicate]; omega

end Go.Proofs.YtghajiefpmcpmaaGreatDoor.Dsk

end
section
/-! DskG -/
/- disk: an act of the law DiskSafe. -/
set_option maxRecDepth 100000
set_option linter.unusedSimpArgs false
set_option linter.unusedVariables false
set_option linter.unnecessarySimpa false
set_option linter.unusedSectionVars false
namespace Go.Proofs.YtghajiefpmcpmaaGreatDoor.Dsk
open Go Go.Hw Go.Form Go.Proofs.YtghajiefpmcpmaaGreatDoor.W

structure Calm (d : D) : Prop where
  down : d.down = false
  fuse : d.fuse = 0

/-- A disk goes on. -/
structure Next (d d' : D) : Prop where
  ok : Ok d'
  dom : Dom d'
  sec : d'.sec = d.sec
  size : d'.size = d.size
  rd : d'.rd ≤ d.rd + 1
  wr : d'.wr ≤ d.wr + 1
  sy : d'.sy ≤ d.sy + 1

section
variable {d : D} (h : Ok d) (hd : Dom d)
include h hd
theorem Next.refl : Next d d := ⟨h, hd, rfl, rfl, by omega, by omega, by omega⟩
theorem Next.burnt : Next d d.burnt := by
  have hb := burnt_rd d
  refine ⟨Ok.burnt h, fun k hk => ?_, hb.2.2.2.2.1, hb.2.2.2.1, by rw [hb.1]; omega, by rw [hb.2.1]; omega, by rw [hb.2.2.1]; omega⟩
  rw [hb.2.2.2.2.2.2.1] at hk
  rw [hb.2.2.2.2.1]; exact hd k hk
theorem Next.read : Next d { d.burnt with rd := d.rd + 1 } := by
  have hb := Next.burnt h hd
  exact ⟨⟨hb.ok.sec, hb.ok.size, hb.ok.big, hb.ok.per, hb.ok.safe, hb.ok.cache, hb.ok.fz⟩, hb.dom, hb.sec, hb.size, Nat.le_refl _, hb.wr, hb.sy⟩
theorem Next.write (i : Int) (bs : List UInt8) : Next d (d.writeD i bs) := by
  have hb := burnt_rd d
  have h1 := Ok.writeD h i bs
  have h2 := Dom.writeD hd i bs
  have hn := Next.burnt h hd
  unfold D.writeD at h1 h2 ⊢
  split
  · exact Next.refl h hd
  · rename_i c1
    rw [if_neg c1] at h1 h2
    split
    · exact Next.refl h hd
    · rename_i c2
      rw [if_neg c2] at h1 h2
      split
      · exact hn
      · rename_i c3
        rw [if_neg c3] at h1 h2
        exact ⟨h1, h2, hn.sec, hn.size, hn.rd, Nat.le_refl _, hn.sy⟩
theorem Next.sync : Next d d.syncD := by
  have hn := Next.burnt h hd
  have hb := burnt_rd d
  unfold D.syncD
  split
  · exact Next.refl h hd
  · split
    · exact hn
    · refine ⟨⟨hn.ok.sec, hn.ok.size, hn.ok.big, hn.ok.per, fun k b hk => ?_, fun k b hk => (by cases hk), hn.ok.fz⟩, fun k hk => (by cases hk), hn.sec, hn.size, hn.rd, hn.wr, Nat.le_refl _⟩
      have hk' : mergeB d.safe d.cache k = some b := hk
      show b.length = d.burnt.size
      rw [hb.2.2.2.1]
      unfold mergeB at hk'
      split at hk'
      · rename_i b' hc; cases hk'; exact h.cache k b hc
      · exact h.safe k b hk'
theorem Next.crash : Next d { d with down := true, fuse := 0 } := ⟨Ok.crash h, hd, rfl, rfl, Nat.le_succ _, Nat.le_succ _, Nat.le_succ _⟩
theorem Next.fused (n : Nat) (hn : n ≤ 9223372036854775807) : Next d { d with fuse := n } := ⟨Ok.fused h n hn, hd, rfl, rfl, Nat.le_succ _, Nat.le_succ _, Nat.le_succ _⟩
theorem Next.boot {ks : List Int} (hk : KeysOf (strM d.cache) ks) (keep : List Bool) : Next d (D.boot d ks keep) := ⟨Ok.boot h hk keep, Dom.boot d ks keep, rfl, rfl, Nat.le_succ _, Nat.le_succ _, Nat.le_succ _⟩
end

/-- What an act does to a disk whose power stays. -/
def Eff (d d' : D) (a : Act) (e : Int) : Prop := Calm d → a.k ≤ 2 → Calm d' ∧ d'.safe = d.safe ∧
  ((0 ≤ a.k ∧ a.k ≤ 1 ∧ e = 0) → (0 ≤ a.i ∧ a.i < d.sec) ∧ d'.cache = updB d.cache a.i (laidB a.b)) ∧ (¬ (0 ≤ a.k ∧ a.k ≤ 1 ∧ e = 0) → d'.cache = d.cache)

theorem Calm.burns {d : D} (h : Calm d) : d.burns = false := by unfold D.burns; rw [h.fuse]; rfl
theorem Calm.burnt {d : D} (h : Calm d) : d.burnt = d := by unfold D.burnt; rw [if_pos h.fuse]

theorem Eff.same {d : D} {a : Act} {e : Int} (h : ¬ (0 ≤ a.k ∧ a.k ≤ 1 ∧ e = 0)) : Eff d d a e := fun hc _ => ⟨hc, rfl, fun h' => absurd h' h, fun _ => rfl⟩
theorem Eff.late {d d' : D} {a : Act} {e : Int} (h : a.k > 2) : Eff d d' a e := fun _ h' => by omega
theorem Eff.write {d : D} {a : Act} (hz : d.size = 32) (hk : 0 ≤ a.k ∧ a.k ≤ 1) : Eff d (d.writeD a.i (laidB a.b)) a (d.writeE a.i 32) := fun hc _ => by
  have hl := laidB_len a.b
  by_cases h0 : d.chk a.i = 0
  · have e1 : d.writeE a.i 32 = 0 := by
      unfold D.writeE
      rw [if_neg (by rw [h0]; simp), if_neg (by omega), hc.burns]; rfl
    have e2 : d.writeD a.i (laidB a.b) = d.wrote a.i (laidB a.b) := by
      unfold D.writeD
      rw [if_neg (by rw [h0]; simp), if_neg (by omega), hc.burns]; rfl
    rw [e1, e2]
    have hb := hc.burnt
    have hr := chk_in h0
    unfold D.wrote
    rw [hb]
    exact ⟨⟨hc.down, hc.fuse⟩, rfl, fun _ => ⟨⟨hr.1, hr.2.1⟩, rfl⟩, fun h => absurd ⟨hk.1, hk.2, rfl⟩ h⟩
  · have e1 : d.writeE a.i 32 = d.chk a.i := by unfold D.writeE; rw [if_pos h0]
    have e2 : d.writeD a.i (laidB a.b) = d := by unfold D.writeD; rw [if_pos h0]
    rw [e1, e2]
    exact ⟨hc, rfl, fun h => absurd h.2.2 h0, fun _ => rfl⟩
theorem Eff.read {d : D} {a : Act} {e : Int} (hk : a.k = 2) : Eff d { d.burnt with rd := d.rd + 1 } a e := fun hc _ => by
  rw [hc.burnt]
  exact ⟨⟨hc.down, hc.fuse⟩, rfl, fun h => by omega, fun _ => rfl⟩
theorem Eff.burnt {d : D} {a : Act} {e : Int} (hk : a.k = 2) : Eff d d.burnt a e := fun hc _ => by
  rw [hc.burnt]
  exact ⟨hc, rfl, fun h => by omega, fun _ => rfl⟩



end Go.Proofs.YtghajiefpmcpmaaGreatDoor.Dsk

end
section
/-! EngA -/
/- A disk's contents: what calls leave, and what a power leaves that went. -/
set_option maxRecDepth 100000
set_option linter.unusedSimpArgs false
set_option linter.unusedVariables false
set_option linter.unnecessarySimpa false
set_option linter.unusedSectionVars false
namespace Go.Proofs.YtghajiefpmcpmaaGreatDoor.Eng
open Go Go.Hw Go.Form Go.Proofs.YtghajiefpmcpmaaGreatDoor.Dsk Go.Proofs.YtghajiefpmcpmaaGreatDoor.Str

/-- What all sectors hold. -/
abbrev Cn := Int → List UInt8

/-- A disk whose power is there, with nothing in the cache. -/
structure Clean (d : D) (c : Cn) : Prop where
  ok : Ok d
  down : d.down = false
  cache : ∀ i, d.cache i = none
  sat : ∀ i, d.sat i = c i

theorem Clean.now {d : D} {c : Cn} (h : Clean d c) (i : Int) : d.now i = c i := by
  unfold D.now; rw [h.cache]; exact h.sat i
theorem Clean.dom {d : D} {c : Cn} (h : Clean d c) : Dom d := fun k hk => by rw [h.cache] at hk; cases hk
theorem Clean.len {d : D} {c : Cn} (h : Clean d c) (i : Int) : (c i).length = d.size := by rw [← h.sat]; exact h.ok.sat i

/-- The power stayed: so many reads, writes, syncs. -/
structure Went (d d' : D) (r w s : Nat) : Prop where
  fuse : d'.fuse = d.fuse - (r + w + s)
  go : d.fuse = 0 ∨ r + w + s < d.fuse
  sec : d'.sec = d.sec
  size : d'.size = d.size
  rd : d'.rd = d.rd + r
  wr : d'.wr = d.wr + w
  sy : d'.sy = d.sy + s

/-- The power went, at one of so many operations. -/
structure Cut (d d' : D) (n : Nat) : Prop where
  ok : Ok d'
  dom : Dom d'
  down : d'.down = true
  fuse : d'.fuse = 0
  sec : d'.sec = d.sec
  size : d'.size = d.size
  cnt : d'.rd + d'.wr + d'.sy + 1 = d.rd + d.wr + d.sy + d.fuse
  rd : d.rd ≤ d'.rd
  wr : d.wr ≤ d'.wr
  sy : d.sy ≤ d'.sy
  le : d.fuse ≤ n
  pos : 1 ≤ d.fuse

/-- Whatever is kept of the cache. -/
def Left (d : D) (P : Cn → Prop) : Prop := ∀ c' : Cn, (∀ i, c' i = d.sat i ∨ c' i = d.now i) → P c'
theorem Left.mono {d : D} {P Q : Cn → Prop} (h : Left d P) (k : ∀ c, P c → Q c) : Left d Q := fun c' hc => k _ (h c' hc)

theorem Went.refl (d : D) : Went d d 0 0 0 := ⟨by omega, by omega, rfl, rfl, rfl, rfl, rfl⟩
theorem Went.trans {d d1 d2 : D} {r w s r' w' s' : Nat} (h : Went d d1 r w s) (k : Went d1 d2 r' w' s') : Went d d2 (r + r') (w + w') (s + s') := by
  have h1 := h.fuse; have h2 := k.fuse; have h3 := h.go; have h4 := k.go; have h5 := h.rd; have h6 := k.rd; have h7 := h.wr; have h8 := k.wr; have h9 := h.sy; have h10 := k.sy
  exact ⟨by omega, by omega, k.sec.trans h.sec, k.size.trans h.size, by omega, by omega, by omega⟩
theorem Went.cut {d d1 d2 : D} {r w s n : Nat} (h : Went d d1 r w s) (k : Cut d1 d2 n) : Cut d d2 (r + w + s + n) := by
  have h1 := h.fuse; have h3 := h.go; have h4 := k.pos; have h5 := h.rd; have h6 := k.rd; have h7 := h.wr; have h8 := k.wr; have h9 := h.sy; have h10 := k.sy; have h11 := k.cnt; have h12 := k.le
  exact ⟨k.ok, k.dom, k.down, k.fuse, k.sec.trans h.sec, k.size.trans h.size, by omega, by omega, by omega, by omega, by omega, by omega⟩
theorem Cut.more {d d' : D} {n m : Nat} (h : Cut d d' n) (k : n ≤ m) : Cut d d' m := { h with le := Nat.le_trans h.le k }
theorem Went.per {d d' : D} {r w s : Nat} (h : Went d d' r w s) : D.per d' = D.per d := by unfold D.per; rw [h.size]
theorem Went.calm {d d' : D} {r w s : Nat} (h : Went d d' r w s) (hf : d.fuse = 0) : d'.fuse = 0 := by rw [h.fuse]; omega
theorem Cut.calm {d d' : D} {n : Nat} (h : Cut d d' n) (hf : d.fuse = 0) : False := by have := h.pos; omega

/-- The same but for some sectors. -/
def Sam (S : Int → Prop) (c c' : Cn) : Prop := ∀ i, ¬ S i → c' i = c i

/-! ## Reads alone -/

theorem Clean.rdG {d : D} {c : Cn} (h : Clean d c) (t : Nat) : Clean (D.rdG d t) c := ⟨Ok.rdG h.ok t, h.down, h.cache, h.sat⟩
theorem Went.rdG {d : D} {t : Nat} (hf : d.fuse = 0 ∨ t < d.fuse) : Went d (D.rdG d t) t 0 0 := ⟨by show d.fuse - t = _; omega, by omega, rfl, rfl, rfl, rfl, rfl⟩
theorem Cut.rdG {d : D} {c : Cn} (h : Clean d c) {j n : Nat} (hf : d.fuse = j + 1) (hn : j < n) : Cut d (D.dead (D.rdG d j)) n := by
  refine ⟨Ok.dead (Ok.rdG h.ok j), h.dom, rfl, rfl, rfl, rfl, ?_, ?_, Nat.le_refl _, Nat.le_refl _, by omega, by omega⟩
  · show d.rd + j + d.wr + d.sy + 1 = _; omega
  · show d.rd ≤ d.rd + j; omega
theorem Left.rdG {d : D} {c : Cn} (h : Clean d c) (j : Nat) : Left (D.dead (D.rdG d j)) fun c' => c' = c := fun c' hc => funext fun i => by
  rcases hc i with e | e
  · exact e.trans (h.sat i)
  · exact e.trans (h.now i)

/-! ## Sectors that are written -/

section
variable {S : Int → Prop} {d d1 : D} {c : Cn} {r w : Nat}
theorem Clean.prog (h : Clean d c) (p : Prog S d d1 r w) (i : Int) : d1.sat i = c i ∧ (¬ S i → d1.now i = c i) := by
  have e1 : d1.sat i = c i := by rw [← h.sat]; unfold D.sat; rw [p.safe, p.size]
  refine ⟨e1, fun hi => ?_⟩
  unfold D.now
  rw [p.cache i hi, h.cache]; exact e1
theorem Clean.dead (h : Clean d c) (p : Dead S d d1) (i : Int) : d1.sat i = c i ∧ (¬ S i → d1.now i = c i) := by
  have e1 : d1.sat i = c i := by rw [← h.sat]; unfold D.sat; rw [p.safe, p.size]
  refine ⟨e1, fun hi => ?_⟩
  unfold D.now
  rw [p.cache i hi, h.cache]; exact e1
theorem Clean.progDom (h : Clean d c) (p : Prog S d d1 r w) (hS : ∀ i, S i → 0 ≤ i ∧ i < d.sec) : Dom d1 := fun k hk => by
  by_cases hs : S k
  · have := hS k hs; rw [p.sec]; exact this
  · rw [p.cache k hs, h.cache] at hk; cases hk
theorem Clean.deadCut (h : Clean d c) (p : Dead S d d1) (hS : ∀ i, S i → 0 ≤ i ∧ i < d.sec) {n : Nat} (hn : d.fuse ≤ n) (hf : 1 ≤ d.fuse) : Cut d d1 n := by
  have h1 := p.cnt; have h2 := p.sy
  refine ⟨p.ok, fun k hk => ?_, p.down, p.fuse, p.sec, p.size, by omega, p.rd, p.wr, by omega, hn, hf⟩
  by_cases hs : S k
  · have := hS k hs; rw [p.sec]; exact this
  · rw [p.cache k hs, h.cache] at hk; cases hk
theorem Clean.deadLeft (h : Clean d c) (p : Dead S d d1) : Left d1 fun c' => Sam S c c' := fun c' hc i hi => by
  obtain ⟨h1, h2⟩ := h.dead p i
  rcases hc i with e | e
  · exact e.trans h1
  · exact e.trans (h2 hi)
/-- All is made safe, behind sectors that were written. -/
theorem Clean.sync (h : Clean d c) (p : Prog S d d1 r w) (hS : ∀ i, S i → 0 ≤ i ∧ i < d.sec) :
    (d1.syncE = 0 ∧ Went d d1.syncD r w 1 ∧ Clean d1.syncD d1.now) ∨ (d1.syncE = 8 ∧ Cut d d1.syncD (r + w + 1) ∧ Left d1.syncD fun c' => (∀ i, c' i = c i ∨ c' i = d1.now i) ∧ Sam S c c') := by
  have hdom := h.progDom p hS
  have hn := Next.sync p.ok hdom
  have hb := burnt_rd d1
  have p1 := p.fuse; have p2 := p.go; have p3 := p.rd; have p4 := p.wr; have p5 := p.sy
  have hdn : ¬ d1.down = true := by rw [p.down]; simp
  by_cases hf : d1.fuse = 1
  · right
    have eE : d1.syncE = 8 := by unfold D.syncE D.burns; rw [if_neg hdn, if_pos (by simp [hf])]
    have eD : d1.syncD = D.dead d1 := by
      unfold D.syncD D.burns
      rw [if_neg hdn, if_pos (by simp [hf]), burnt_one hf]
    rw [eE, eD]
    refine ⟨rfl, ⟨Ok.dead p.ok, hdom, rfl, rfl, p.sec, p.size, ?_, ?_, ?_, ?_, by omega, by omega⟩, fun c' hc => ⟨fun i => ?_, fun i hi => ?_⟩⟩
    · show d1.rd + d1.wr + d1.sy + 1 = _; omega
    · show d.rd ≤ d1.rd; omega
    · show d.wr ≤ d1.wr; omega
    · show d.sy ≤ d1.sy; omega
    · rcases hc i with e | e
      · exact .inl (e.trans (h.prog p i).1)
      · exact .inr e
    · rcases hc i with e | e
      · exact e.trans (h.prog p i).1
      · exact e.trans ((h.prog p i).2 hi)
  · left
    have hbn : d1.burns = false := by unfold D.burns; exact decide_eq_false hf
    have hbt := burnt_live p.down hf
    have eE : d1.syncE = 0 := by unfold D.syncE; rw [hbn, p.down]; rfl
    have eD : d1.syncD = d1.synced := by unfold D.syncD; rw [hbn, p.down]; rfl
    rw [eD] at hn ⊢
    refine ⟨eE, ⟨?_, by omega, (hn.sec).trans p.sec, (hn.size).trans p.size, ?_, ?_, ?_⟩, ⟨hn.ok, ?_, fun i => rfl, fun i => ?_⟩⟩
    · show d1.burnt.fuse = _; rw [hbt]; show d1.fuse - 1 = _; omega
    · show d1.burnt.rd = _; rw [hb.1]; omega
    · show d1.burnt.wr = _; rw [hb.2.1]; omega
    · show d1.sy + 1 = _; omega
    · show d1.burnt.down = false; rw [hbt]; exact p.down
    · show (mergeB d1.safe d1.cache i).getD (List.replicate d1.burnt.size 0) = _
      rw [hb.2.2.2.1]
      unfold D.now D.sat mergeB
      cases d1.cache i <;> rfl
end

/-! ## The power comes again -/

theorem Left.boot {d : D} {P : Cn → Prop} (h : Left d P) (hok : Ok d) {ks : List Int} (hk : KeysOf (strM d.cache) ks) (keep : List Bool) : ∃ c', P c' ∧ Clean (D.boot d ks keep) c' := by
  refine ⟨(D.boot d ks keep).sat, h _ fun i => ?_, ⟨Ok.boot hok hk keep, rfl, fun _ => rfl, fun _ => rfl⟩⟩
  have hmem : ∀ k ∈ ks, (d.cache k).isSome = true := fun k hk' => by
    have := (hk.mem k).1 hk'
    rw [strM_some] at this; exact this
  show (bootS d.cache d.safe ks keep i).getD (List.replicate d.size 0) = _ ∨ _
  rcases bootS_or ks keep d.safe hmem i with e | ⟨e1, e2⟩
  · left; rw [e]; rfl
  · right
    show (bootS d.cache d.safe ks keep i).getD (List.replicate d.size 0) = _
    rw [e2]
    unfold D.now
    cases hc : d.cache i with
    | none => rw [hc] at e1; cases e1
    | some b => rfl
theorem Clean.crash {d : D} {c : Cn} (h : Clean d c) : Left { d with down := true, fuse := 0 } fun c' => c' = c := fun c' hc => funext fun i => by
  rcases hc i with e | e
  · exact e.trans (h.sat i)
  · exact e.trans (h.now i)
theorem Clean.fused {d : D} {c : Cn} (h : Clean d c) (n : Nat) (hn : n ≤ 9223372036854775807) : Clean { d with fuse := n } c := ⟨Ok.fused h.ok n hn, h.down, h.cache, h.sat⟩
theorem Clean.fresh {sec size : Nat} (h1 : 1 ≤ sec ∧ sec ≤ 1048576) (h2 : 0 < Lay.perN size) (h3 : sec * size ≤ 67108864) : Clean (D.fresh sec size) fun _ => List.replicate size 0 :=
  ⟨Ok.fresh h1 h2 h3, rfl, fun _ => rfl, fun _ => rfl⟩

end Go.Proofs.YtghajiefpmcpmaaGreatDoor.Eng

end
section
/-! HwG -/
/- The frame of the proofs: package variables that are laid: what their cells hold. -/
set_option maxRecDepth 100000
set_option linter.unusedSimpArgs false
set_option linter.unusedVariables false
set_option linter.unnecessarySimpa false
set_option linter.unusedSectionVars false
namespace Go.Hw
open Go Go.RowKit

/-- A datum's cells. -/
def flatF : Nat → DataW Unit → List Value
  | 0, _ => []
  | _ + 1, .lit (.int k n) => [.int k n]
  | _ + 1, .lit (.string bs) => [.string ⟨bs.toArray⟩]
  | _ + 1, .lit (.bool b) => [.bool b]
  | f + 1, .agg ds => (ds.map (flatF f)).flatten
  | _ + 1, _ => []

def conts (P : Program) : List Field → Nat → Option Nat
  | [], o => some o
  | f :: l, o => if f.offset = o then conts P l (o + P.cellsOf f.type) else none

/-- A type whose data are cells side by side. -/
def flatOK (P : Program) : Nat → TypeId → Bool
  | 0, _ => false
  | f + 1, t =>
    match P.underlying t with
    | some (.int _) => true
    | some .string => true
    | some .bool => true
    | some (.array n e) => flatOK P f e && (P.cellsOf t == n * P.cellsOf e)
    | some (.struct fs) => fs.toList.all (fun x => flatOK P f x.type) && (conts P fs.toList 0 == some (P.cellsOf t))
    | _ => false

theorem chunks {α : Type} (k : Nat) : ∀ (n : Nat) (cs : List α) (ys : List (List α)), cs.length = n * k → ys.length = n → (∀ i, (h : i < ys.length) → (cs.drop (i * k)).take k = ys[i]) → cs = ys.flatten
  | 0, cs, ys, hl, hy, _ => by
    rw [Nat.zero_mul] at hl
    rw [List.length_eq_zero_iff.1 hl, List.length_eq_zero_iff.1 hy]; rfl
  | n + 1, cs, [], _, hy, _ => by simp at hy
  | n + 1, cs, y :: ys, hl, hy, h => by
    have h0 := h 0 (by simp)
    rw [Nat.zero_mul, List.drop_zero, List.getElem_cons_zero] at h0
    have ih := chunks k n (cs.drop k) ys (by rw [List.length_drop, hl, Nat.succ_mul]; omega) (by simpa using hy) fun i hi => by
      have := h (i + 1) (by simpa using hi)
      rw [List.getElem_cons_succ] at this
      rw [List.drop_drop, ← this, Nat.succ_mul, Nat.add_comm]
    rw [List.flatten_cons, ← ih, ← h0, List.take_append_drop]

theorem conts_flat {P : Program} : ∀ (l : List Field) (ys : List (List Value)) (o e : Nat) (cs : List Value), conts P l o = some e → cs.length = e → ys.length = l.length →
    (∀ (i : Nat) (f : Field), l[i]? = some f → ∃ y, ys[i]? = some y ∧ (cs.drop f.offset).take (P.cellsOf f.type) = y) → cs.drop o = ys.flatten
  | [], ys, o, e, cs, h, hl, hy, _ => by
    unfold conts at h
    cases h
    rw [List.drop_eq_nil_of_le (by omega), List.length_eq_zero_iff.1 hy]; rfl
  | f :: l, [], o, e, cs, h, hl, hy, _ => by simp at hy
  | f :: l, y :: ys, o, e, cs, h, hl, hy, hh => by
    unfold conts at h
    split at h
    · rename_i ho
      obtain ⟨y', e1, e2⟩ := hh 0 f (by simp)
      simp only [List.getElem?_cons_zero, Option.some.injEq] at e1
      subst e1
      have ih := conts_flat l ys _ e cs h hl (by simpa using hy) fun i f' hf => by
        have := hh (i + 1) f' (by simpa using hf)
        simpa using this
      rw [List.flatten_cons, ← ih, ← e2, ho, ← List.drop_drop, List.take_append_drop]
    · cases h

theorem flat_of_trod {enc : TypeId × Value → Unit} {P : Program} {w : World} {base : Nat} {sp : Nat → Bool} {held : Bool} : ∀ (f : Nat) {fuel : Nat} {t : TypeId} {cs : List Value} {d : DataW Unit} {p : List MemPlace},
    flatOK P f t = true → DataW.trod enc P w base sp held fuel t cs = some (d, p) → cs = flatF f d
  | 0, _, _, _, _, _, h, _ => by cases h
  | f + 1, fuel, t, cs, d, p, h, ht => by
    unfold flatOK at h
    split at h
    · rename_i k hu
      obtain ⟨n, rfl, e, _⟩ := DataW.trod_int hu ht
      cases e; rfl
    · rename_i hu
      obtain ⟨s, rfl, e, _⟩ := DataW.trod_string hu ht
      cases e; simp [flatF]
    · rename_i hu
      obtain ⟨b, rfl, e⟩ := DataW.trod_bool hu ht
      cases e; rfl
    · rename_i n e hu
      simp only [Bool.and_eq_true, beq_iff_eq] at h
      obtain ⟨xs, m, _, ex, hl, hn, hel⟩ := DataW.trod_array hu ht
      cases ex
      show cs = (((xs.map (·.1))).map (flatF f)).flatten
      refine chunks (P.cellsOf e) n cs _ (by rw [hl, h.2]) (by simpa using hn) fun i hi => ?_
      have hi' : i < xs.length := by simpa using hi
      have h1 := hel i (by omega)
      rw [List.getElem?_eq_getElem hi'] at h1
      have := flat_of_trod f (d := xs[i].1) (p := xs[i].2) h.1 h1
      rw [this]
      simp
    · rename_i fs hu
      simp only [Bool.and_eq_true, beq_iff_eq] at h
      obtain ⟨xs, m, _, ex, hl, hn, hel⟩ := DataW.trod_struct hu ht
      cases ex
      show cs = (((xs.map (·.1))).map (flatF f)).flatten
      have := conts_flat fs.toList (((xs.map (·.1))).map (flatF f)) 0 _ cs h.2 hl (by simpa using hn) fun i fd hi => by
        have hi2 : fs[i]? = some fd := by simpa using hi
        have h1 := hel i fd hi2
        have hi' : i < xs.length := by
          rw [hn]; exact (Array.getElem?_eq_some_iff.1 hi2).1
        rw [List.getElem?_eq_getElem hi'] at h1
        have hall := List.all_eq_true.1 h.1 fd (List.mem_of_getElem? hi)
        exact ⟨flatF f xs[i].1, by simp [hi'], flat_of_trod f (d := xs[i].1) (p := xs[i].2) hall h1⟩
      rw [List.drop_zero] at this
      exact this
    · cases h

/-- What a laid variable's cells hold. -/
theorem laid_at {P : Program} {W : World} {name : String} {d : DataW Unit} {g : Nat} {t : TypeId} (hg : P.globalNamed name = some g) (hty : (P.globals[g]?).map (·.type) = some t) (ho : flatOK P 9 t = true) :
    ∀ {l : List (String × DataW Unit)} (i : Nat), laidMet P l W → l[i]? = some (name, d) → Cells (Full W) (some ⟨g, 0, none⟩) (flatF 9 d)
  | [], i, _, h => by simp at h
  | x :: l, 0, hL, h => by
    simp only [List.getElem?_cons_zero, Option.some.injEq] at h
    subst h
    obtain ⟨ps, ⟨g', t', cs, fuel, p, q, hg', ht', hvar, hd, _, _⟩, _⟩ := hL
    obtain rfl := Option.some.inj (hg.symm.trans hg')
    obtain rfl := Option.some.inj (hty.symm.trans ht')
    have e := flat_of_trod 9 ho hd
    intro j v hj
    refine ⟨_, rfl, ?_⟩
    rw [← e] at hj
    have := World.var?_cell hg hvar j
    rw [Addr.add_lit', Nat.zero_add]
    refine Full.cell ?_
    rw [this]
    simpa using hj
  | x :: l, i + 1, hL, h => laid_at hg hty ho i hL.tail (by simpa using h)

/-- A block is cut out of what was known ahead. -/
theorem cutOwn {L : List As} {H H0 : Hp} (h : Sep (own H0 :: L) H) {g : Nat} {o : AO} (hg : H0 g = some o) : Sep (pts g o :: own (H0.erase g) :: L) H := by
  obtain ⟨H1, H2, h1, h2, h3, h4, h5⟩ := h
  have h4 : H0.le H1 := h4
  have hg1 := h4 g o hg
  refine ⟨fun c => if c = g then some o else none, (fun c => if c = g then H2 c else H c), fun c q hq => ?_, fun c q hq => ?_, fun c => ?_, by simp [pts], ?_⟩
  · simp only at hq
    split at hq
    · rename_i e; subst e; cases hq; exact h1 _ _ hg1
    · cases hq
  · simp only at hq
    split at hq
    · exact h2 _ _ hq
    · exact hq
  · by_cases e : c = g
    · right; simp only [e, if_true]; exact (h3 g).resolve_left (by rw [hg1]; simp)
    · left; simp [e]
  · refine ⟨fun c => if c = g then none else H1 c, H2, fun c q hq => ?_, fun c q hq => ?_, fun c => ?_, fun c q hq => ?_, h5⟩
    · simp only at hq
      split at hq
      · cases hq
      · rename_i e; simp only [e, if_false]; exact h1 _ _ hq
    · show (if c = g then H2 c else H c) = some q
      split
      · exact hq
      · exact h2 _ _ hq
    · rcases h3 c with e | e
      · left; simp only; split <;> first | rfl | exact e
      · exact .inr e
    · unfold Hp.erase at hq
      split at hq
      · cases hq
      · rename_i e; simp only [e, if_false]; exact h4 _ _ hq

theorem own_back {H H0 : Hp} {g : Nat} {o : AO} (hg : H0 g = some o) (h1 : H g = some o) (h2 : (H0.erase g).le H) : H0.le H := fun c q hq => by
  by_cases e : c = g
  · subst e; rw [hg] at hq; cases hq; exact h1
  · exact h2 c q (by unfold Hp.erase; rw [if_neg e]; exact hq)

/-- A table: a block whose first cells are told. -/
theorem Cells.block {H : Hp} {g : Nat} {v : Value} {vs : List Value} (h : Cells H (some ⟨g, 0, none⟩) (v :: vs)) : ∃ o, H g = some o := by
  obtain ⟨a, ha, hc⟩ := h 0 v rfl
  cases ha
  unfold Hp.cell? at hc
  rw [Addr.add_lit'] at hc
  cases e : H g with
  | none => simp only [e] at hc; cases hc
  | some o => exact ⟨o, rfl⟩

def Tab (g : Nat) (vs : List Value) : As := fun H => Cells H (some ⟨g, 0, none⟩) vs
theorem Tab.up {g : Nat} {vs : List Value} {H H' : Hp} (h : Tab g vs H) (k : H.le H') : Tab g vs H' := Cells.le h k

theorem Tab.of_pts {g : Nat} {o : AO} {vs : List Value} {H0 : Hp} (hg : H0 g = some o) (h : Cells H0 (some ⟨g, 0, none⟩) vs) {H : Hp} (hp : H g = some o) : Tab g vs H := fun i v hi => by
  obtain ⟨a, ha, hc⟩ := h i v hi
  cases ha
  refine ⟨_, rfl, ?_⟩
  rw [Addr.add_lit'] at hc ⊢
  unfold Hp.cell? at hc ⊢
  simp only [hg] at hc
  simp only [hp]
  exact hc

/-- A part that is only read. -/
theorem Sep.tab {L : List As} {H : Hp} (h : Sep L H) (i : Nat) {g : Nat} {vs : List Value} (hi : L[i]? = some (Tab g vs)) : Cells H (some ⟨g, 0, none⟩) vs := by
  obtain ⟨H1, h1, h2⟩ := h.see i hi
  exact Cells.le h1 h2

section
variable {L : List As} {H : Hp}
/-- A field is read, is written. -/
theorem Sep.ldf (h : Sep L H) (i : Nat) {b j : Nat} {c : Array Value} {e : TypeId} {v : Value} {K : Value → Prop} (hi : L[i]? = some (pts b (.obj (.cells c e)))) (hv : nthV c.toList j = some v) (k : K v) : Ld H ((⟨b, 0, none⟩ : Addr).add j) K := by
  rw [Addr.add_lit', Nat.zero_add]; exact h.ld i hi hv k
theorem Sep.ldg (h : Sep L H) (i : Nat) {b j k : Nat} {c : Array Value} {e : TypeId} {v : Value} {K : Value → Prop} (hi : L[i]? = some (pts b (.obj (.cells c e)))) (hv : nthV c.toList (j + k) = some v) (kk : K v) : Ld H (((⟨b, 0, none⟩ : Addr).add j).add k) K := by
  rw [Addr.add_lit', Addr.add_lit', Nat.zero_add]; exact h.ld i hi hv kk
theorem Sep.stf (h : Sep L H) (i : Nat) {b j : Nat} {c : Array Value} {e : TypeId} {v : Value} {K : Hp → Prop} (hi : L[i]? = some (pts b (.obj (.cells c e)))) (hj : j < c.size) (hv : v.oneCell' = true)
    (k : ∀ H', Sep (L.set i (pts b (.obj (.cells (c.setIfInBounds j v) e)))) H' → K H') : St H (((⟨b, 0, none⟩ : Addr).add j).add 0) v K := by
  rw [Addr.add_lit', Addr.add_lit', Nat.zero_add, Nat.add_zero]; exact h.st i hi hj hv k
end

end Go.Hw

end
section
/-! Wrecord -/
/- Formulas of functions, printed by wip/tools/hwp.py. -/
set_option maxRecDepth 100000
set_option linter.unusedVariables false
namespace Go.Proofs.YtghajiefpmcpmaaGreatDoor.W
open Go Go.Hw

theorem mixWrecord : Tryz.prog.follows .mixedOrders = true := by kernel_rfl
-- record.Put
def W_record_Put (y1 : Array Value) (x1 : Int) (H : Hp) (K : Value → Hp → Prop) : Prop :=
  Nw H (.obj (.cells y1 87)) fun b1 H1 => LdA H1 (⟨b1, 0, none⟩ : Addr) 8 fun l1 => HCalls Tryz.prog 195 #[.agg l1.toArray] H1 fun v1 H2 => DB v1 fun c1 => BIf (!c1) (K (.tuple #[.slice none 0 0, .int .i64 (1 : Int)]) H2) (HCalls Tryz.prog 196 #[.int .i64 x1] H2 fun v2 H3 => DB v2 fun c2 => BIf (!c2) (K (.tuple #[.slice none 0 0, .int .i64 (1 : Int)]) H3) (LdA H3 (⟨b1, 0, none⟩ : Addr) 8 fun l2 => HCalls Tryz.prog 197 #[.agg l2.toArray] H3 fun v3 H4 => DSl v3 fun A1 n1 m1 => MkS Tryz.prog 5 x1 x1 H4 fun v4 H5 => DSl v4 fun A2 n2 m2 => HCalls Tryz.prog 199 #[.slice A1 n1 m1] H5 fun v5 H6 => DI .u64 v5 fun x2 => Nw H6 (.row [.int .u64 x2] 60 1) fun b2 H7 => AppK Tryz.prog 60 (.slice A1 n1 m1) (.slice (some ⟨b2, 0, none⟩) 1 1) H7 fun v6 H8 => DSl v6 fun A3 n3 m3 => HCalls Tryz.prog 198 #[.slice A3 n3 m3] H8 fun v7 H9 => DSl v7 fun A4 n4 m4 => CpK Tryz.prog 5 (.slice A2 n2 m2) (.slice A4 n4 m4) H9 fun v8 H10 => DI .i64 v8 fun x3 => K (.tuple #[.slice A2 n2 m2, .int .i64 (0 : Int)]) H10))
def W_record_Put.Λ (_ : Value → Hp → Prop) : Cuts := Cuts.none (fun _ => none)
theorem W_record_Put.ok (y1 : Array Value) (x1 : Int) (H : Hp) (K : Value → Hp → Prop) (h : W_record_Put y1 x1 H K) : HCalls Tryz.prog 117 #[.agg y1, .int .i64 x1] H K :=
  hcalls Tryz.func117 rfl (Nat.le_of_ble_eq_true rfl) (hw_safe (Λ := Cuts.none (fun _ => none)) mixWrecord _ _ _ _ _ (Eq.mp (by kernel_rfl) h) (obs_none _ _ _ _ _))

-- record.After
def W_record_After (y1 : Array Value) (y2 : Array Value) (H : Hp) (K : Value → Hp → Prop) : Prop :=
  Nw H (.obj (.cells y1 87)) fun b1 H1 => Nw H1 (.obj (.cells y2 87)) fun b2 H2 => LdA H2 (⟨b1, 0, none⟩ : Addr) 8 fun l1 => HCalls Tryz.prog 195 #[.agg l1.toArray] H2 fun v1 H3 => DB v1 fun c1 => BIf (!c1) (K (.bool false) H3) (LdA H3 (⟨b2, 0, none⟩ : Addr) 8 fun l2 => HCalls Tryz.prog 195 #[.agg l2.toArray] H3 fun v2 H4 => DB v2 fun c2 => BIf (!c2) (K (.bool false) H4) (Ld H4 ((⟨b2, 0, none⟩ : Addr).add 0) fun v3 => DI .u64 v3 fun x1 => Ld H4 ((⟨b1, 0, none⟩ : Addr).add 0) fun v4 => DI .u64 v4 fun x2 => BIf (x1 != (IntKind.u64.wrap (x2 + (1 : Int)))) (K (.bool false) H4) (Ld H4 ((⟨b2, 0, none⟩ : Addr).add 1) fun v5 => DI .i64 v5 fun x3 => BIf (x3 == (1 : Int)) (K (.bool true) H4) (BIf (x3 == (2 : Int)) (Ld H4 ((⟨b1, 0, none⟩ : Addr).add 1) fun v6 => DI .i64 v6 fun x4 => BIf (x4 == (1 : Int)) (Ld H4 ((⟨b1, 0, none⟩ : Addr).add 5) fun v7 => DI .u32 v7 fun x5 => Ld H4 ((⟨b2, 0, none⟩ : Addr).add 5) fun v8 => DI .u32 v8 fun x6 => BIf (x5 == x6) (Ld H4 ((⟨b1, 0, none⟩ : Addr).add 2) fun v9 => DI .i64 v9 fun x7 => Ld H4 ((⟨b2, 0, none⟩ : Addr).add 2) fun v10 => DI .i64 v10 fun x8 => K (.bool (x7 == x8)) H4) (K (.bool false) H4)) (K (.bool false) H4)) (BIf (x3 == (3 : Int)) (Ld H4 ((⟨b1, 0, none⟩ : Addr).add 1) fun v11 => DI .i64 v11 fun x9 => BIf (x9 != (1 : Int)) (LdA H4 (⟨b1, 0, none⟩ : Addr) 8 fun l3 => LdA H4 (⟨b2, 0, none⟩ : Addr) 8 fun l4 => HCalls Tryz.prog 200 #[.agg l3.toArray, .agg l4.toArray] H4 fun v12 H5 => DB v12 fun c3 => BIf c3 (Ld H5 ((⟨b2, 0, none⟩ : Addr).add 7) fun v13 => DI .u32 v13 fun x10 => K (.bool (x10 == (0 : Int))) H5) (K (.bool false) H5)) (K (.bool false) H4)) (Ld H4 ((⟨b1, 0, none⟩ : Addr).add 1) fun v14 => DI .i64 v14 fun x11 => BIf (decide (x11 ≥ (3 : Int))) (LdA H4 (⟨b1, 0, none⟩ : Addr) 8 fun l5 => LdA H4 (⟨b2, 0, none⟩ : Addr) 8 fun l6 => HCalls Tryz.prog 200 #[.agg l5.toArray, .agg l6.toArray] H4 fun v15 H6 => DB v15 fun c4 => BIf c4 (Ld H6 ((⟨b1, 0, none⟩ : Addr).add 3) fun v16 => DI .i64 v16 fun x12 => Ld H6 ((⟨b2, 0, none⟩ : Addr).add 3) fun v17 => DI .i64 v17 fun x13 => BIf (x12 == x13) (Ld H6 ((⟨b2, 0, none⟩ : Addr).add 4) fun v18 => DI .i64 v18 fun x14 => Ld H6 ((⟨b1, 0, none⟩ : Addr).add 4) fun v19 => DI .i64 v19 fun x15 => K (.bool (x14 == (IntKind.i64.wrap (x15 + (1 : Int))))) H6) (K (.bool false) H6)) (K (.bool false) H6)) (K (.bool false) H4)))))))
def W_record_After.Λ (_ : Value → Hp → Prop) : Cuts := Cuts.none (fun _ => none)
theorem W_record_After.ok (y1 : Array Value) (y2 : Array Value) (H : Hp) (K : Value → Hp → Prop) (h : W_record_After y1 y2 H K) : HCalls Tryz.prog 119 #[.agg y1, .agg y2] H K :=
  hcalls Tryz.func119 rfl (Nat.le_of_ble_eq_true rfl) (hw_safe (Λ := Cuts.none (fun _ => none)) mixWrecord _ _ _ _ _ (Eq.mp (by kernel_rfl) h) (obs_none _ _ _ _ _))

-- record.Take
def W_record_Take (A1 : Option Addr) (n1 : Nat) (m1 : Nat) (H : Hp) (K : Value → Hp → Prop) : Prop :=
  Nw H (.obj (.cells #[.int .u64 (0 : Int), .int .i64 (0 : Int), .int .i64 (0 : Int), .int .i64 (0 : Int), .int .i64 (0 : Int), .int .u32 (0 : Int), .int .u32 (0 : Int), .int .u32 (0 : Int)] 87)) fun b1 H1 => HCalls Tryz.prog 196 #[.int .i64 ((n1 : Nat) : Int)] H1 fun v1 H2 => DB v1 fun c1 => BIf (!c1) (StA H2 (⟨b1, 0, none⟩ : Addr) #[.int .u64 (0 : Int), .int .i64 (0 : Int), .int .i64 (0 : Int), .int .i64 (0 : Int), .int .i64 (0 : Int), .int .u32 (0 : Int), .int .u32 (0 : Int), .int .u32 (0 : Int)] 8 fun H3 => LdA H3 (⟨b1, 0, none⟩ : Addr) 8 fun l6 => K (.tuple #[.agg l6.toArray, .int .i64 (15 : Int)]) H3) (HCalls Tryz.prog 207 #[.slice A1 n1 m1] H2 fun v2 H4 => DTup v2 fun l1 => DCons l1 fun v3 l2 => DSl v3 fun A2 n2 m2 => DCons l2 fun v4 l3 => DB v4 fun c2 => DNil l3 (HCalls Tryz.prog 208 #[.slice A2 n2 m2] H4 fun v5 H5 => DA v5 fun y1 => Nw H5 (.obj (.cells #[.int .u64 (0 : Int), .int .i64 (0 : Int), .int .i64 (0 : Int), .int .i64 (0 : Int), .int .i64 (0 : Int), .int .u32 (0 : Int), .int .u32 (0 : Int), .int .u32 (0 : Int)] 87)) fun b2 H6 => StA H6 (⟨b2, 0, none⟩ : Addr) y1 8 fun H7 => ixI (0 : Int) n2 (NN A2 fun a1 => Ld H7 (a1.add ((0 : Int).toNat * 1)) fun v6 => DI .u64 v6 fun x1 => (0 ≤ (48 : Int) ∧ BIf ((shrI .u64 x1 (48 : Int)) != (21061 : Int)) (StA H7 (⟨b1, 0, none⟩ : Addr) #[.int .u64 (0 : Int), .int .i64 (0 : Int), .int .i64 (0 : Int), .int .i64 (0 : Int), .int .i64 (0 : Int), .int .u32 (0 : Int), .int .u32 (0 : Int), .int .u32 (0 : Int)] 8 fun H8 => LdA H8 (⟨b1, 0, none⟩ : Addr) 8 fun l7 => K (.tuple #[.agg l7.toArray, .int .i64 (10 : Int)]) H8) (BIf (!c2) (StA H7 (⟨b1, 0, none⟩ : Addr) #[.int .u64 (0 : Int), .int .i64 (0 : Int), .int .i64 (0 : Int), .int .i64 (0 : Int), .int .i64 (0 : Int), .int .u32 (0 : Int), .int .u32 (0 : Int), .int .u32 (0 : Int)] 8 fun H9 => LdA H9 (⟨b1, 0, none⟩ : Addr) 8 fun l8 => K (.tuple #[.agg l8.toArray, .int .i64 (10 : Int)]) H9) (ixI (3 : Int) n2 (NN A2 fun a2 => Ld H7 (a2.add ((3 : Int).toNat * 1)) fun v7 => DI .u64 v7 fun x2 => slB n2 m2 none (some (3 : Int)) fun n3 n4 => QCall Tryz.prog 199 #[.slice (slA A2 m2 n3 1) (n4 - n3) (m2 - n3)] H7 fun v8 => DI .u64 v8 fun x3 => BIf (x2 != x3) (StA H7 (⟨b1, 0, none⟩ : Addr) #[.int .u64 (0 : Int), .int .i64 (0 : Int), .int .i64 (0 : Int), .int .i64 (0 : Int), .int .i64 (0 : Int), .int .u32 (0 : Int), .int .u32 (0 : Int), .int .u32 (0 : Int)] 8 fun H10 => LdA H10 (⟨b1, 0, none⟩ : Addr) 8 fun l9 => K (.tuple #[.agg l9.toArray, .int .i64 (9 : Int)]) H10) (LdA H7 (⟨b2, 0, none⟩ : Addr) 8 fun l4 => HCalls Tryz.prog 195 #[.agg l4.toArray] H7 fun v9 H11 => DB v9 fun c3 => BIf (!c3) (StA H11 (⟨b1, 0, none⟩ : Addr) #[.int .u64 (0 : Int), .int .i64 (0 : Int), .int .i64 (0 : Int), .int .i64 (0 : Int), .int .i64 (0 : Int), .int .u32 (0 : Int), .int .u32 (0 : Int), .int .u32 (0 : Int)] 8 fun H12 => LdA H12 (⟨b1, 0, none⟩ : Addr) 8 fun l10 => K (.tuple #[.agg l10.toArray, .int .i64 (1 : Int)]) H12) (LdA H11 (⟨b2, 0, none⟩ : Addr) 8 fun l5 => StA H11 (⟨b1, 0, none⟩ : Addr) l5.toArray 8 fun H13 => LdA H13 (⟨b1, 0, none⟩ : Addr) 8 fun l11 => K (.tuple #[.agg l11.toArray, .int .i64 (0 : Int)]) H13)))))))))
def W_record_Take.Λ (_ : Value → Hp → Prop) : Cuts := Cuts.none (fun _ => none)
theorem W_record_Take.ok (A1 : Option Addr) (n1 : Nat) (m1 : Nat) (H : Hp) (K : Value → Hp → Prop) (h : W_record_Take A1 n1 m1 H K) : HCalls Tryz.prog 127 #[.slice A1 n1 m1] H K :=
  hcalls Tryz.func127 rfl (Nat.le_of_ble_eq_true rfl) (hw_safe (Λ := Cuts.none (fun _ => none)) mixWrecord _ _ _ _ _ (Eq.mp (by kernel_rfl) h) (obs_none _ _ _ _ _))

-- record.Good
def W_record_Good.j10 (K : Value → Hp → Prop) (a1 : Addr) (H : Hp) : Prop :=
  Ld H (a1.add 4) fun v9 => DI .i64 v9 fun x8 => BIf (x8 == (0 : Int)) (Ld H (a1.add 3) fun v10 => DI .i64 v10 fun x9 => BIf (x9 == (0 : Int)) (Ld H (a1.add 7) fun v11 => DI .u32 v11 fun x10 => K (.bool (x10 == (0 : Int))) H) (K (.bool false) H)) (K (.bool false) H)
def W_record_Good (y1 : Array Value) (H : Hp) (K : Value → Hp → Prop) : Prop :=
  Nw H (.obj (.cells y1 87)) fun b1 H1 => Ld H1 ((⟨b1, 0, none⟩ : Addr).add 0) fun v1 => DI .u64 v1 fun x1 => BIf (decide (x1 < (1 : Int))) (K (.bool false) H1) (Ld H1 ((⟨b1, 0, none⟩ : Addr).add 0) fun v2 => DI .u64 v2 fun x2 => BIf (decide (x2 ≥ (281474976710656 : Int))) (K (.bool false) H1) (Ld H1 ((⟨b1, 0, none⟩ : Addr).add 2) fun v3 => DI .i64 v3 fun x3 => BIf (decide (x3 < (0 : Int))) (K (.bool false) H1) (Ld H1 ((⟨b1, 0, none⟩ : Addr).add 2) fun v4 => DI .i64 v4 fun x4 => BIf (decide (x4 > (32 : Int))) (K (.bool false) H1) (Ld H1 ((⟨b1, 0, none⟩ : Addr).add 3) fun v5 => DI .i64 v5 fun x5 => HCalls Tryz.prog 245 #[.int .i64 x5] H1 fun v6 H2 => DB v6 fun c1 => BIf (!c1) (K (.bool false) H2) (Ld H2 ((⟨b1, 0, none⟩ : Addr).add 1) fun v7 => DI .i64 v7 fun x6 => BIf (x6 == (1 : Int)) (Ld H2 ((⟨b1, 0, none⟩ : Addr).add 6) fun v8 => DI .u32 v8 fun x7 => BIf (x7 != (0 : Int)) (K (.bool false) H2) (W_record_Good.j10 K (⟨b1, 0, none⟩ : Addr) H2)) (BIf (x6 == (2 : Int)) (W_record_Good.j10 K (⟨b1, 0, none⟩ : Addr) H2) (BIf (x6 == (3 : Int)) (Ld H2 ((⟨b1, 0, none⟩ : Addr).add 4) fun v12 => DI .i64 v12 fun x11 => K (.bool (x11 == (0 : Int))) H2) (BIf (x6 == (4 : Int)) (Ld H2 ((⟨b1, 0, none⟩ : Addr).add 4) fun v13 => DI .i64 v13 fun x12 => BIf (decide (x12 ≥ (1 : Int))) (Ld H2 ((⟨b1, 0, none⟩ : Addr).add 4) fun v14 => DI .i64 v14 fun x13 => K (.bool (decide (x13 ≤ (7 : Int)))) H2) (K (.bool false) H2)) (K (.bool false) H2)))))))))
def W_record_Good.Λ (K : Value → Hp → Prop) : Cuts := ⟨fun i => match Nat.beq i 10 with | true => some (fun E D H => DG (E.get? 1) fun w1 => DP w1 fun pw1 => NN pw1 fun a1 => DNilD D (W_record_Good.j10 K a1 H)) | false => none, fun i => none, (fun _ => none)⟩
theorem W_record_Good.ok (y1 : Array Value) (H : Hp) (K : Value → Hp → Prop) (h : W_record_Good y1 H K) : HCalls Tryz.prog 195 #[.agg y1] H K :=
  hcalls Tryz.func195 rfl (Nat.le_of_ble_eq_true rfl) (hw_safe (Λ := (W_record_Good.Λ K)) mixWrecord _ _ _ _ _ (Eq.mp (by kernel_rfl) h) (obs_seq obs_region rfl (obs_seq (obs_seq obs_region rfl (obs_cond (obs_seq obs_region rfl obs_ret) obs_skip)) rfl (obs_seq (obs_seq obs_region rfl (obs_block (obs_seq (obs_block (obs_seq (obs_block (obs_seqc (obs_block (obs_seq (obs_block (obs_seq (obs_seq (obs_seq obs_region rfl (obs_cond obs_exit obs_skip)) rfl (obs_seq (obs_seq obs_region rfl (obs_cond obs_exit obs_skip)) rfl (obs_seq (obs_seq obs_region rfl (obs_cond obs_exit obs_skip)) rfl (obs_seq obs_region rfl (obs_cond obs_exit obs_skip))))) rfl obs_exit)) rfl (obs_seq obs_region rfl (obs_cond (obs_seq obs_region rfl obs_ret) obs_skip)))) rfl (fun E D H h => by
      obtain ⟨w1, e1, g1⟩ := DG.out h
      obtain ⟨pw1, rfl, g2⟩ := DP.out g1
      obtain ⟨a1, rfl, g3⟩ := NN.out g2
      obtain ⟨rfl, h'⟩ := DNilD.out g3
      exact (hw_safe (Λ := (W_record_Good.Λ K)) mixWrecord _ _ [(1, .pointer (some a1))] [] H (Eq.mp (by kernel_rfl) h') (obs_seq (obs_seq obs_region rfl obs_ret) rfl obs_exit)).weaken (EnvLe.cons e1 (EnvLe.nil _)) (Hp.le_refl _)))) rfl (obs_seq (obs_seq obs_region rfl obs_ret) rfl obs_exit))) rfl (obs_seq (obs_seq obs_region rfl obs_ret) rfl obs_exit)))) rfl (obs_seq obs_region rfl obs_ret)))))

-- record.sector
def W_record_sector (x1 : Int) (H : Hp) (K : Value → Hp → Prop) : Prop :=
  HCalls Tryz.prog 96 #[.int .i64 (0 : Int), .int .i64 x1] H fun v1 H1 => DTup v1 fun l1 => DCons l1 fun v2 l2 => DI .i64 v2 fun x2 => DCons l2 fun v3 l3 => DI .i64 v3 fun x3 => DNil l3 (K (.bool (x3 == (0 : Int))) H1)
def W_record_sector.Λ (_ : Value → Hp → Prop) : Cuts := Cuts.none (fun _ => none)
theorem W_record_sector.ok (x1 : Int) (H : Hp) (K : Value → Hp → Prop) (h : W_record_sector x1 H K) : HCalls Tryz.prog 196 #[.int .i64 x1] H K :=
  hcalls Tryz.func196 rfl (Nat.le_of_ble_eq_true rfl) (hw_safe (Λ := Cuts.none (fun _ => none)) mixWrecord _ _ _ _ _ (Eq.mp (by kernel_rfl) h) (obs_none _ _ _ _ _))

-- record.three
def W_record_three (y1 : Array Value) (H : Hp) (K : Value → Hp → Prop) : Prop :=
  Nw H (.obj (.cells y1 87)) fun b1 H1 => Ld H1 ((⟨b1, 0, none⟩ : Addr).add 0) fun v1 => DI .u64 v1 fun x1 => Ld H1 ((⟨b1, 0, none⟩ : Addr).add 5) fun v2 => DI .u32 v2 fun x2 => Ld H1 ((⟨b1, 0, none⟩ : Addr).add 4) fun v3 => DI .i64 v3 fun x3 => Ld H1 ((⟨b1, 0, none⟩ : Addr).add 2) fun v4 => DI .i64 v4 fun x4 => Ld H1 ((⟨b1, 0, none⟩ : Addr).add 3) fun v5 => DI .i64 v5 fun x5 => Ld H1 ((⟨b1, 0, none⟩ : Addr).add 1) fun v6 => DI .i64 v6 fun x6 => Ld H1 ((⟨b1, 0, none⟩ : Addr).add 6) fun v7 => DI .u32 v7 fun x7 => Ld H1 ((⟨b1, 0, none⟩ : Addr).add 7) fun v8 => DI .u32 v8 fun x8 => (Nw H1 (.row [.int .u64 (21061 : Int), .int .u64 (48 : Int), .int .u64 x1, .int .u64 (0 : Int)] 340 4) fun b2 H2 => QCall Tryz.prog 246 #[.slice (some ⟨b2, 0, none⟩) 2 2] H2 fun v9 => DI .u64 v9 fun x9 => (Nw H2 (.row [.int .u64 (IntKind.u64.wrap x2), .int .u64 (32 : Int), .int .u64 (IntKind.u64.wrap x3), .int .u64 (24 : Int), .int .u64 (IntKind.u64.wrap x4), .int .u64 (16 : Int), .int .u64 (IntKind.u64.wrap x5), .int .u64 (8 : Int), .int .u64 (IntKind.u64.wrap x6), .int .u64 (0 : Int)] 340 10) fun b3 H3 => QCall Tryz.prog 246 #[.slice (some ⟨b3, 0, none⟩) 5 5] H3 fun v10 => DI .u64 v10 fun x10 => Nw H3 (.row [.int .u64 (IntKind.u64.wrap x7), .int .u64 (32 : Int), .int .u64 (IntKind.u64.wrap x8), .int .u64 (0 : Int)] 340 4) fun b4 H4 => QCall Tryz.prog 246 #[.slice (some ⟨b4, 0, none⟩) 2 2] H4 fun v11 => DI .u64 v11 fun x11 => Nw H4 (.row [.int .u64 x9, .int .u64 x10, .int .u64 x11] 60 3) fun b5 H5 => K (.slice (some ⟨b5, 0, none⟩) 3 3) H5) ∧ (Nw H2 (.row [.int .u64 (IntKind.u64.wrap x7), .int .u64 (32 : Int), .int .u64 (IntKind.u64.wrap x8), .int .u64 (0 : Int)] 340 4) fun b6 H6 => Nw H6 (.row [.int .u64 (IntKind.u64.wrap x2), .int .u64 (32 : Int), .int .u64 (IntKind.u64.wrap x3), .int .u64 (24 : Int), .int .u64 (IntKind.u64.wrap x4), .int .u64 (16 : Int), .int .u64 (IntKind.u64.wrap x5), .int .u64 (8 : Int), .int .u64 (IntKind.u64.wrap x6), .int .u64 (0 : Int)] 340 10) fun b7 H7 => QCall Tryz.prog 246 #[.slice (some ⟨b7, 0, none⟩) 5 5] H7 fun v12 => DI .u64 v12 fun x12 => QCall Tryz.prog 246 #[.slice (some ⟨b6, 0, none⟩) 2 2] H7 fun v13 => DI .u64 v13 fun x13 => Nw H7 (.row [.int .u64 x9, .int .u64 x12, .int .u64 x13] 60 3) fun b8 H8 => K (.slice (some ⟨b8, 0, none⟩) 3 3) H8)) ∧ (Nw H1 (.row [.int .u64 (IntKind.u64.wrap x2), .int .u64 (32 : Int), .int .u64 (IntKind.u64.wrap x3), .int .u64 (24 : Int), .int .u64 (IntKind.u64.wrap x4), .int .u64 (16 : Int), .int .u64 (IntKind.u64.wrap x5), .int .u64 (8 : Int), .int .u64 (IntKind.u64.wrap x6), .int .u64 (0 : Int)] 340 10) fun b9 H9 => (Nw H9 (.row [.int .u64 (21061 : Int), .int .u64 (48 : Int), .int .u64 x1, .int .u64 (0 : Int)] 340 4) fun b10 H10 => QCall Tryz.prog 246 #[.slice (some ⟨b10, 0, none⟩) 2 2] H10 fun v14 => DI .u64 v14 fun x14 => QCall Tryz.prog 246 #[.slice (some ⟨b9, 0, none⟩) 5 5] H10 fun v15 => DI .u64 v15 fun x15 => Nw H10 (.row [.int .u64 (IntKind.u64.wrap x7), .int .u64 (32 : Int), .int .u64 (IntKind.u64.wrap x8), .int .u64 (0 : Int)] 340 4) fun b11 H11 => QCall Tryz.prog 246 #[.slice (some ⟨b11, 0, none⟩) 2 2] H11 fun v16 => DI .u64 v16 fun x16 => Nw H11 (.row [.int .u64 x14, .int .u64 x15, .int .u64 x16] 60 3) fun b12 H12 => K (.slice (some ⟨b12, 0, none⟩) 3 3) H12) ∧ (Nw H9 (.row [.int .u64 (IntKind.u64.wrap x7), .int .u64 (32 : Int), .int .u64 (IntKind.u64.wrap x8), .int .u64 (0 : Int)] 340 4) fun b13 H13 => Nw H13 (.row [.int .u64 (21061 : Int), .int .u64 (48 : Int), .int .u64 x1, .int .u64 (0 : Int)] 340 4) fun b14 H14 => QCall Tryz.prog 246 #[.slice (some ⟨b14, 0, none⟩) 2 2] H14 fun v17 => DI .u64 v17 fun x17 => QCall Tryz.prog 246 #[.slice (some ⟨b9, 0, none⟩) 5 5] H14 fun v18 => DI .u64 v18 fun x18 => QCall Tryz.prog 246 #[.slice (some ⟨b13, 0, none⟩) 2 2] H14 fun v19 => DI .u64 v19 fun x19 => Nw H14 (.row [.int .u64 x17, .int .u64 x18, .int .u64 x19] 60 3) fun b15 H15 => K (.slice (some ⟨b15, 0, none⟩) 3 3) H15)) ∧ (Nw H1 (.row [.int .u64 (IntKind.u64.wrap x7), .int .u64 (32 : Int), .int .u64 (IntKind.u64.wrap x8), .int .u64 (0 : Int)] 340 4) fun b16 H16 => (Nw H16 (.row [.int .u64 (21061 : Int), .int .u64 (48 : Int), .int .u64 x1, .int .u64 (0 : Int)] 340 4) fun b17 H17 => QCall Tryz.prog 246 #[.slice (some ⟨b17, 0, none⟩) 2 2] H17 fun v20 => DI .u64 v20 fun x20 => Nw H17 (.row [.int .u64 (IntKind.u64.wrap x2), .int .u64 (32 : Int), .int .u64 (IntKind.u64.wrap x3), .int .u64 (24 : Int), .int .u64 (IntKind.u64.wrap x4), .int .u64 (16 : Int), .int .u64 (IntKind.u64.wrap x5), .int .u64 (8 : Int), .int .u64 (IntKind.u64.wrap x6), .int .u64 (0 : Int)] 340 10) fun b18 H18 => QCall Tryz.prog 246 #[.slice (some ⟨b18, 0, none⟩) 5 5] H18 fun v21 => DI .u64 v21 fun x21 => QCall Tryz.prog 246 #[.slice (some ⟨b16, 0, none⟩) 2 2] H18 fun v22 => DI .u64 v22 fun x22 => Nw H18 (.row [.int .u64 x20, .int .u64 x21, .int .u64 x22] 60 3) fun b19 H19 => K (.slice (some ⟨b19, 0, none⟩) 3 3) H19) ∧ (Nw H16 (.row [.int .u64 (IntKind.u64.wrap x2), .int .u64 (32 : Int), .int .u64 (IntKind.u64.wrap x3), .int .u64 (24 : Int), .int .u64 (IntKind.u64.wrap x4), .int .u64 (16 : Int), .int .u64 (IntKind.u64.wrap x5), .int .u64 (8 : Int), .int .u64 (IntKind.u64.wrap x6), .int .u64 (0 : Int)] 340 10) fun b20 H20 => Nw H20 (.row [.int .u64 (21061 : Int), .int .u64 (48 : Int), .int .u64 x1, .int .u64 (0 : Int)] 340 4) fun b21 H21 => QCall Tryz.prog 246 #[.slice (some ⟨b21, 0, none⟩) 2 2] H21 fun v23 => DI .u64 v23 fun x23 => QCall Tryz.prog 246 #[.slice (some ⟨b20, 0, none⟩) 5 5] H21 fun v24 => DI .u64 v24 fun x24 => QCall Tryz.prog 246 #[.slice (some ⟨b16, 0, none⟩) 2 2] H21 fun v25 => DI .u64 v25 fun x25 => Nw H21 (.row [.int .u64 x23, .int .u64 x24, .int .u64 x25] 60 3) fun b22 H22 => K (.slice (some ⟨b22, 0, none⟩) 3 3) H22))
def W_record_three.Λ (_ : Value → Hp → Prop) : Cuts := Cuts.none (fun i => match Nat.beq i 1 with | true => some ([2, 5, 7, 8, 11, 12, 15, 16, 19, 20, 23, 24, 27, 29, 30, 33, 34, 37], [0, 0, 2, 6, 15, 31, 0, 64, 192, 448, 0, 1024, 3072, 7168, 0, 16384, 49152, 114688, 0, 262144, 786432, 1835008, 0, 4194304, 12582912, 29360128, 67108800, 134217727, 0, 268435456, 805306368, 1879048192, 0, 4294967296, 12884901888, 30064771072, 68451041280, 137438953471, 274877906943, 549755813887], 0) | false => none)
theorem W_record_three.ok (y1 : Array Value) (H : Hp) (K : Value → Hp → Prop) (h : W_record_three y1 H K) : HCalls Tryz.prog 197 #[.agg y1] H K :=
  hcalls Tryz.func197 rfl (Nat.le_of_ble_eq_true rfl) (hw_safe (Λ := Cuts.none (fun i => match Nat.beq i 1 with | true => some ([2, 5, 7, 8, 11, 12, 15, 16, 19, 20, 23, 24, 27, 29, 30, 33, 34, 37], [0, 0, 2, 6, 15, 31, 0, 64, 192, 448, 0, 1024, 3072, 7168, 0, 16384, 49152, 114688, 0, 262144, 786432, 1835008, 0, 4194304, 12582912, 29360128, 67108800, 134217727, 0, 268435456, 805306368, 1879048192, 0, 4294967296, 12884901888, 30064771072, 68451041280, 137438953471, 274877906943, 549755813887], 0) | false => none)) mixWrecord _ _ _ _ _ (Eq.mp (by kernel_rfl) h) (obs_none _ _ _ _ _))

-- record.seal
def W_record_seal (A1 : Option Addr) (n1 : Nat) (m1 : Nat) (H : Hp) (K : Value → Hp → Prop) : Prop :=
  HCalls Tryz.prog 248 #[.slice A1 n1 m1] H fun v1 H1 => DI .u32 v1 fun x1 => Nw H1 (.row [.int .u64 (IntKind.u64.wrap (bXor .u32 IntKind.u32.max x1)), .int .u64 (32 : Int), .int .u64 (IntKind.u64.wrap x1), .int .u64 (0 : Int)] 340 4) fun b1 H2 => HCalls Tryz.prog 246 #[.slice (some ⟨b1, 0, none⟩) 2 2] H2 fun v2 H3 => DI .u64 v2 fun x2 => K (.int .u64 x2) H3
def W_record_seal.Λ (_ : Value → Hp → Prop) : Cuts := Cuts.none (fun _ => none)
theorem W_record_seal.ok (A1 : Option Addr) (n1 : Nat) (m1 : Nat) (H : Hp) (K : Value → Hp → Prop) (h : W_record_seal A1 n1 m1 H K) : HCalls Tryz.prog 199 #[.slice A1 n1 m1] H K :=
  hcalls Tryz.func199 rfl (Nat.le_of_ble_eq_true rfl) (hw_safe (Λ := Cuts.none (fun _ => none)) mixWrecord _ _ _ _ _ (Eq.mp (by kernel_rfl) h) (obs_none _ _ _ _ _))

-- record.same
def W_record_same (y1 : Array Value) (y2 : Array Value) (H : Hp) (K : Value → Hp → Prop) : Prop :=
  Nw H (.obj (.cells y1 87)) fun b1 H1 => Nw H1 (.obj (.cells y2 87)) fun b2 H2 => Ld H2 ((⟨b1, 0, none⟩ : Addr).add 5) fun v1 => DI .u32 v1 fun x1 => Ld H2 ((⟨b2, 0, none⟩ : Addr).add 5) fun v2 => DI .u32 v2 fun x2 => BIf (x1 == x2) (Ld H2 ((⟨b1, 0, none⟩ : Addr).add 2) fun v3 => DI .i64 v3 fun x3 => Ld H2 ((⟨b2, 0, none⟩ : Addr).add 2) fun v4 => DI .i64 v4 fun x4 => BIf (x3 == x4) (Ld H2 ((⟨b1, 0, none⟩ : Addr).add 6) fun v5 => DI .u32 v5 fun x5 => Ld H2 ((⟨b2, 0, none⟩ : Addr).add 6) fun v6 => DI .u32 v6 fun x6 => K (.bool (x5 == x6)) H2) (K (.bool false) H2)) (K (.bool false) H2)
def W_record_same.Λ (_ : Value → Hp → Prop) : Cuts := Cuts.none (fun _ => none)
theorem W_record_same.ok (y1 : Array Value) (y2 : Array Value) (H : Hp) (K : Value → Hp → Prop) (h : W_record_same y1 y2 H K) : HCalls Tryz.prog 200 #[.agg y1, .agg y2] H K :=
  hcalls Tryz.func200 rfl (Nat.le_of_ble_eq_true rfl) (hw_safe (Λ := Cuts.none (fun _ => none)) mixWrecord _ _ _ _ _ (Eq.mp (by kernel_rfl) h) (obs_none _ _ _ _ _))

-- record.all
def W_record_all.l2 (K : Value → Hp → Prop) : Nat → Option Addr → Nat → Nat → Option Addr → Nat → Nat → Int → Hp → Prop
  | 0, _, _, _, _, _, _, _, _ => False
  | k + 1, A2, n2, m2, A3, n3, m3, x1, H =>
    let R2 := W_record_all.l2 K k
    BIf (decide (x1 < (4 : Int))) (HCalls Tryz.prog 231 #[.slice A2 n2 m2, .int .i64 x1] H fun v1 H1 => DTup v1 fun l1 => DCons l1 fun v2 l2 => DI .u64 v2 fun x2 => DCons l2 fun v3 l3 => DI .i64 v3 fun x3 => DNil l3 (Nw H1 (.row [.int .u64 x2] 60 1) fun b1 H2 => AppK Tryz.prog 60 (.slice A3 n3 m3) (.slice (some ⟨b1, 0, none⟩) 1 1) H2 fun v4 H3 => DSl v4 fun A4 n4 m4 => R2 A2 n2 m2 A4 n4 m4 (IntKind.i64.wrap (x1 + (1 : Int))) H3)) (slB n2 m2 (some (32 : Int)) none fun n5 n6 => BsK H (slA A2 m2 n5 1) (n6 - n5) fun s1 => HCalls Tryz.prog 251 #[.string s1, .string (⟨#[0]⟩)] H fun v5 H4 => DS v5 fun s2 => K (.tuple #[.slice A3 n3 m3, .bool (s2.toList == ((⟨#[]⟩) : ByteArray).toList)]) H4)
def W_record_all (A1 : Option Addr) (n1 : Nat) (m1 : Nat) (H : Hp) (K : Value → Hp → Prop) : Prop :=
  (∃ k, W_record_all.l2 K k A1 n1 m1 none 0 0 (0 : Int) H)
def W_record_all.l2.L (K : Value → Hp → Prop) (k : Nat) : Mid := fun E D H =>
  DG (E.get? 0) fun w0 => DSl w0 fun A2 n2 m2 => DG (E.get? 2) fun w2 => DSl w2 fun A3 n3 m3 => DG (E.get? 7) fun w7 => DI .i64 w7 fun x1 => DNilD D (W_record_all.l2 K k A2 n2 m2 A3 n3 m3 x1 H)
def W_record_all.Λ2 (_ : Value → Hp → Prop) (_R2 : Option Addr → Nat → Nat → Option Addr → Nat → Nat → Int → Hp → Prop) : Cuts := Cuts.none (fun _ => none)
def W_record_all.Λ (K : Value → Hp → Prop) : Cuts := ⟨fun i => none, fun i => match Nat.beq i 2 with | true => some (fun E D H => ∃ k, W_record_all.l2.L K k E D H) | false => none, (fun _ => none)⟩
theorem W_record_all.ok (A1 : Option Addr) (n1 : Nat) (m1 : Nat) (H : Hp) (K : Value → Hp → Prop) (h : W_record_all A1 n1 m1 H K) : HCalls Tryz.prog 207 #[.slice A1 n1 m1] H K :=
  hcalls Tryz.func207 rfl (Nat.le_of_ble_eq_true rfl) (hw_safe (Λ := (W_record_all.Λ K)) mixWrecord _ _ _ _ _ (Eq.mp (by kernel_rfl) h) (obs_seq obs_region rfl (obs_seq (obs_seq obs_region rfl (obs_block (obs_loop rfl (fun E D H h => by
      refine Safe.loop' (W_record_all.l2.L K) (fun E D H h => ?_) (fun k E D H h => ?_) E D H h
      · obtain ⟨w0, e0, g1⟩ := DG.out h; obtain ⟨A2, n2, m2, rfl, g2⟩ := DSl.out g1; obtain ⟨w2, e2, g3⟩ := DG.out g2; obtain ⟨A3, n3, m3, rfl, g4⟩ := DSl.out g3; obtain ⟨w7, e7, g5⟩ := DG.out g4; obtain ⟨x1, rfl, g6⟩ := DI.out g5; obtain ⟨rfl, h'⟩ := DNilD.out g6; exact h'
      · obtain ⟨w0, e0, g1⟩ := DG.out h
        obtain ⟨A2, n2, m2, rfl, g2⟩ := DSl.out g1
        obtain ⟨w2, e2, g3⟩ := DG.out g2
        obtain ⟨A3, n3, m3, rfl, g4⟩ := DSl.out g3
        obtain ⟨w7, e7, g5⟩ := DG.out g4
        obtain ⟨x1, rfl, g6⟩ := DI.out g5
        obtain ⟨rfl, h'⟩ := DNilD.out g6
        exact (hw_safe (Λ := (W_record_all.Λ2 K (W_record_all.l2 K k))) mixWrecord _ _ [(0, .slice A2 n2 m2), (2, .slice A3 n3 m3), (7, .int .i64 x1)] [] H (Eq.mp (by kernel_rfl) h') (obs_seq obs_region rfl (obs_seq (obs_cond obs_skip obs_exit) rfl (obs_seq (obs_block (obs_seq obs_region rfl (obs_seq obs_region rfl obs_region))) rfl obs_region)))).weaken (EnvLe.cons e0 (EnvLe.cons e2 (EnvLe.cons e7 (EnvLe.nil _)))) (Hp.le_refl _))))) rfl (obs_seq obs_region rfl obs_ret))))

-- record.of
def W_record_of (A1 : Option Addr) (n1 : Nat) (m1 : Nat) (H : Hp) (K : Value → Hp → Prop) : Prop :=
  Nw H (.obj (.cells #[.int .u64 (0 : Int), .int .i64 (0 : Int), .int .i64 (0 : Int), .int .i64 (0 : Int), .int .i64 (0 : Int), .int .u32 (0 : Int), .int .u32 (0 : Int), .int .u32 (0 : Int)] 87)) fun b1 H1 => ixI (0 : Int) n1 (NN A1 fun a1 => Ld H1 (a1.add ((0 : Int).toNat * 1)) fun v1 => DI .u64 v1 fun x1 => ixI (1 : Int) n1 (NN A1 fun a2 => Ld H1 (a2.add ((1 : Int).toNat * 1)) fun v2 => DI .u64 v2 fun x2 => ixI (1 : Int) n1 (NN A1 fun a3 => Ld H1 (a3.add ((1 : Int).toNat * 1)) fun v3 => DI .u64 v3 fun x3 => (0 ≤ (8 : Int) ∧ ixI (1 : Int) n1 (NN A1 fun a4 => Ld H1 (a4.add ((1 : Int).toNat * 1)) fun v4 => DI .u64 v4 fun x4 => (0 ≤ (16 : Int) ∧ ixI (1 : Int) n1 (NN A1 fun a5 => Ld H1 (a5.add ((1 : Int).toNat * 1)) fun v5 => DI .u64 v5 fun x5 => (0 ≤ (24 : Int) ∧ ixI (1 : Int) n1 (NN A1 fun a6 => Ld H1 (a6.add ((1 : Int).toNat * 1)) fun v6 => DI .u64 v6 fun x6 => (0 ≤ (32 : Int) ∧ ixI (2 : Int) n1 (NN A1 fun a7 => Ld H1 (a7.add ((2 : Int).toNat * 1)) fun v7 => DI .u64 v7 fun x7 => (0 ≤ (32 : Int) ∧ ixI (2 : Int) n1 (NN A1 fun a8 => Ld H1 (a8.add ((2 : Int).toNat * 1)) fun v8 => DI .u64 v8 fun x8 => StA H1 (⟨b1, 0, none⟩ : Addr) #[.int .u64 (bAnd .u64 x1 (281474976710655 : Int)), .int .i64 (IntKind.i64.wrap (bAnd .u64 x2 (255 : Int))), .int .i64 (IntKind.i64.wrap (bAnd .u64 (shrI .u64 x4 (16 : Int)) (255 : Int))), .int .i64 (IntKind.i64.wrap (bAnd .u64 (shrI .u64 x3 (8 : Int)) (255 : Int))), .int .i64 (IntKind.i64.wrap (bAnd .u64 (shrI .u64 x5 (24 : Int)) (255 : Int))), .int .u32 (IntKind.u32.wrap (shrI .u64 x6 (32 : Int))), .int .u32 (IntKind.u32.wrap (shrI .u64 x7 (32 : Int))), .int .u32 (IntKind.u32.wrap x8)] 8 fun H2 => LdA H2 (⟨b1, 0, none⟩ : Addr) 8 fun l1 => K (.agg l1.toArray) H2)))))))))))))
def W_record_of.Λ (_ : Value → Hp → Prop) : Cuts := Cuts.none (fun i => match Nat.beq i 1 with | true => some ([], [0, 1, 2, 3, 4, 5, 6, 7, 8, 9, 10, 11, 12, 13, 14, 15, 16, 17, 18, 19, 20, 21, 22, 23, 24, 25, 26, 27, 28, 29, 30, 31, 32, 33, 34, 35, 36, 37, 38, 39, 40, 41], 42) | false => none)
theorem W_record_of.ok (A1 : Option Addr) (n1 : Nat) (m1 : Nat) (H : Hp) (K : Value → Hp → Prop) (h : W_record_of A1 n1 m1 H K) : HCalls Tryz.prog 208 #[.slice A1 n1 m1] H K :=
  hcalls Tryz.func208 rfl (Nat.le_of_ble_eq_true rfl) (hw_safe (Λ := Cuts.none (fun i => match Nat.beq i 1 with | true => some ([], [0, 1, 2, 3, 4, 5, 6, 7, 8, 9, 10, 11, 12, 13, 14, 15, 16, 17, 18, 19, 20, 21, 22, 23, 24, 25, 26, 27, 28, 29, 30, 31, 32, 33, 34, 35, 36, 37, 38, 39, 40, 41], 42) | false => none)) mixWrecord _ _ _ _ _ (Eq.mp (by kernel_rfl) h) (obs_none _ _ _ _ _))

-- record.direction
def W_record_direction (x1 : Int) (H : Hp) (K : Value → Hp → Prop) : Prop :=
  BIf (x1 == (0 : Int)) (K (.bool true) H) (K (.bool (x1 == (1 : Int))) H)
def W_record_direction.Λ (_ : Value → Hp → Prop) : Cuts := Cuts.none (fun _ => none)
theorem W_record_direction.ok (x1 : Int) (H : Hp) (K : Value → Hp → Prop) (h : W_record_direction x1 H K) : HCalls Tryz.prog 245 #[.int .i64 x1] H K :=
  hcalls Tryz.func245 rfl (Nat.le_of_ble_eq_true rfl) (hw_safe (Λ := Cuts.none (fun _ => none)) mixWrecord _ _ _ _ _ (Eq.mp (by kernel_rfl) h) (obs_none _ _ _ _ _))

-- record.join
def W_record_join.l3 (K : Value → Hp → Prop) : Nat → Int → Option Addr → Nat → Nat → Int → Int → Hp → Prop
  | 0, _, _, _, _, _, _, _ => False
  | k + 1, x1, A2, n2, m2, x2, x3, H =>
    let R3 := W_record_join.l3 K k
    BIf (decide (x3 < x2)) (ixI x3 n2 (NN A2 fun a1 => LdA H (a1.add (x3.toNat * 2)) 2 fun l1 => Nw H (.obj (.cells #[.int .u64 (0 : Int), .int .u64 (0 : Int)] 340)) fun b1 H1 => StA H1 (⟨b1, 0, none⟩ : Addr) l1.toArray 2 fun H2 => Ld H2 ((⟨b1, 0, none⟩ : Addr).add 0) fun v1 => DI .u64 v1 fun x4 => Ld H2 ((⟨b1, 0, none⟩ : Addr).add 1) fun v2 => DI .u64 v2 fun x5 => (0 ≤ x5 ∧ R3 (bOr .u64 x1 (shlI .u64 x4 x5)) A2 n2 m2 x2 (IntKind.i64.wrap (x3 + (1 : Int))) H2))) (K (.int .u64 x1) H)
def W_record_join (A1 : Option Addr) (n1 : Nat) (m1 : Nat) (H : Hp) (K : Value → Hp → Prop) : Prop :=
  (∃ k, W_record_join.l3 K k (0 : Int) A1 n1 m1 ((n1 : Nat) : Int) (0 : Int) H)
def W_record_join.l3.L (K : Value → Hp → Prop) (k : Nat) : Mid := fun E D H =>
  DG (E.get? 3) fun w3 => DI .u64 w3 fun x1 => DG (E.get? 6) fun w6 => DSl w6 fun A2 n2 m2 => DG (E.get? 7) fun w7 => DI .i64 w7 fun x2 => DG (E.get? 8) fun w8 => DI .i64 w8 fun x3 => DNilD D (W_record_join.l3 K k x1 A2 n2 m2 x2 x3 H)
def W_record_join.Λ3 (_ : Value → Hp → Prop) (_R3 : Int → Option Addr → Nat → Nat → Int → Int → Hp → Prop) : Cuts := Cuts.none (fun _ => none)
def W_record_join.Λ (K : Value → Hp → Prop) : Cuts := ⟨fun i => none, fun i => match Nat.beq i 3 with | true => some (fun E D H => ∃ k, W_record_join.l3.L K k E D H) | false => none, (fun _ => none)⟩
theorem W_record_join.ok (A1 : Option Addr) (n1 : Nat) (m1 : Nat) (H : Hp) (K : Value → Hp → Prop) (h : W_record_join A1 n1 m1 H K) : HCalls Tryz.prog 246 #[.slice A1 n1 m1] H K :=
  hcalls Tryz.func246 rfl (Nat.le_of_ble_eq_true rfl) (hw_safe (Λ := (W_record_join.Λ K)) mixWrecord _ _ _ _ _ (Eq.mp (by kernel_rfl) h) (obs_seq obs_region rfl (obs_seq obs_region rfl (obs_seq (obs_seq obs_region rfl (obs_block (obs_loop rfl (fun E D H h => by
      refine Safe.loop' (W_record_join.l3.L K) (fun E D H h => ?_) (fun k E D H h => ?_) E D H h
      · obtain ⟨w3, e3, g1⟩ := DG.out h; obtain ⟨x1, rfl, g2⟩ := DI.out g1; obtain ⟨w6, e6, g3⟩ := DG.out g2; obtain ⟨A2, n2, m2, rfl, g4⟩ := DSl.out g3; obtain ⟨w7, e7, g5⟩ := DG.out g4; obtain ⟨x2, rfl, g6⟩ := DI.out g5; obtain ⟨w8, e8, g7⟩ := DG.out g6; obtain ⟨x3, rfl, g8⟩ := DI.out g7; obtain ⟨rfl, h'⟩ := DNilD.out g8; exact h'
      · obtain ⟨w3, e3, g1⟩ := DG.out h
        obtain ⟨x1, rfl, g2⟩ := DI.out g1
        obtain ⟨w6, e6, g3⟩ := DG.out g2
        obtain ⟨A2, n2, m2, rfl, g4⟩ := DSl.out g3
        obtain ⟨w7, e7, g5⟩ := DG.out g4
        obtain ⟨x2, rfl, g6⟩ := DI.out g5
        obtain ⟨w8, e8, g7⟩ := DG.out g6
        obtain ⟨x3, rfl, g8⟩ := DI.out g7
        obtain ⟨rfl, h'⟩ := DNilD.out g8
        exact (hw_safe (Λ := (W_record_join.Λ3 K (W_record_join.l3 K k))) mixWrecord _ _ [(3, .int .u64 x1), (6, .slice A2 n2 m2), (7, .int .i64 x2), (8, .int .i64 x3)] [] H (Eq.mp (by kernel_rfl) h') (obs_seq obs_region rfl (obs_seq (obs_cond obs_skip obs_exit) rfl (obs_seq (obs_block (obs_seq obs_region rfl obs_region)) rfl obs_region)))).weaken (EnvLe.cons e3 (EnvLe.cons e6 (EnvLe.cons e7 (EnvLe.cons e8 (EnvLe.nil _))))) (Hp.le_refl _))))) rfl (obs_seq obs_region rfl obs_ret)))))

end Go.Proofs.YtghajiefpmcpmaaGreatDoor.W

end
